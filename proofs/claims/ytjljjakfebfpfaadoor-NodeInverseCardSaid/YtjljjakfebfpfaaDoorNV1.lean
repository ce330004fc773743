/-
  The walks of the package vec: what each function computes.
-/
import Derived.Test.YtjljjakfebfpfaaDoorCR
set_option autoImplicit false
set_option linter.unusedVariables false
set_option linter.unusedSimpArgs false
namespace Go.Proofs.YtjljjakfebfpfaaDoor
open Go.Abs

theorem succW {i n : Nat} (h : i < n) (hn : n ≤ 9223372036854775807) : IntKind.wrap .i64 ((i : Int) + 1) = ((i + 1 : Nat) : Int) := by
  rw [wrapi (by omega) (by omega)]; rfl
def I64 (n : Int) : Prop := -9223372036854775808 ≤ n ∧ n ≤ 9223372036854775807
theorem wrong1_ok (n : Int) : PCall env 71 [.int .i64 n] (.bool (decide (n < 0 ∨ n > 1099511627776))) := by
  refine acalls_of envOk Tryd.func71 rfl (by kernel_rfl) (m := 8) rfl ?_
  simp only [ty2, T2, Kat_go, Kreg_go, Qseq_normal, aregL_nil, aregL_plain, aregL_guard, awpL_region, awpL_seq, aop_move, aop_assign, aop_binOp, ev, cst, putT, gval, aopBin, isSl, abin, aint, kd, List.getD_cons_zero, List.getD_cons_succ, List.set_cons_zero, List.set_cons_succ, List.getElem?_cons_zero, List.getElem?_cons_succ, List.length_nil, List.map_cons, List.map_nil, List.cons_append, List.nil_append, List.reduceReplicate, Bool.not_false, true_and]
  refine Kbr.mk (fun c => ?_) (fun c => ?_)
  · have c1 : ¬ n < 0 := by simpa using c
    simp only [ty2, T2, Kat_go, Kreg_go, Qseq_normal, Kbr_true, Vbr_false, Kgo_go, aret_ret, aregL_nil, aregL_plain, aregL_guard, awpL_ret, aop_move, aop_assign, aop_pick, aop_binOp, ev, cst, putT, gval, aopBin, isSl, abin, aint, kd, List.getD_cons_zero, List.getD_cons_succ, List.set_cons_zero, List.set_cons_succ, List.getElem?_cons_zero, List.getElem?_cons_succ, Bool.not_false, beq_self_eq_true, true_and]
    refine WK.now ?_
    simp only [Tryd.results71, Kcons_go, Kone_go, Kfin_go, aresL_nil, aresL_tmp, allDefr_nil, offs_nil, one?, List.getD_cons_zero, List.getD_cons_succ, true_and, List.toList_toArray]
    simp [c1]
  · have c1 : n < 0 := by simpa using c
    simp only [Kat_go, Kreg_go, Qseq_normal, Kbr_false, Vbr_true, Kno_go, aret_ret, aregL_nil, aregL_plain, aregL_guard, awpL_ret, aop_assign, aop_pick, ev, cst, putT, gval, List.getD_cons_zero, List.getD_cons_succ, List.set_cons_zero, List.set_cons_succ, List.getElem?_cons_zero, List.getElem?_cons_succ, Bool.not_false, Bool.true_beq]
    refine WK.now ?_
    simp only [Tryd.results71, Kcons_go, Kone_go, Kfin_go, aresL_nil, aresL_tmp, allDefr_nil, offs_nil, one?, List.getD_cons_zero, List.getD_cons_succ, true_and, List.toList_toArray]
    simp [c1]
theorem sub1_ok (a b : Int) (h1 : I64 a) (h2 : I64 b) : PCall env 78 [.int .i64 a, .int .i64 b] (.tup [.int .i64 (IntKind.wrap .i64 (a - b)), .bool (decide (b ≤ a ∧ a - b ≤ 9223372036854775807))]) := by
  refine acalls_of envOk Tryd.func78 rfl (by kernel_rfl) (m := 16) rfl ?_
  simp only [ty2, T2, Kat_go, Kreg_go, Qseq_normal, aregL_nil, aregL_plain, aregL_guard, awpL_region, awpL_seq, aop_move, aop_assign, aop_binOp, ev, cst, putT, gval, aopBin, isSl, abin, aint, kd, List.getD_cons_zero, List.getD_cons_succ, List.set_cons_zero, List.set_cons_succ, List.getElem?_cons_zero, List.getElem?_cons_succ, List.length_nil, List.map_cons, List.map_nil, List.cons_append, List.nil_append, List.reduceReplicate, Bool.not_true, true_and]
  obtain ⟨h3, h4⟩ := h1
  obtain ⟨h5, h6⟩ := h2
  refine Kbr.mk (fun c => ?_) (fun c => ?_)
  · have c1 : a ≥ b := by simpa using c
    simp only [ty2, T2, Kat_go, Kreg_go, Qseq_normal, Kbr_true, Vbr_true, Kgo_go, aret_ret, aregL_nil, aregL_plain, aregL_guard, awpL_ret, aop_move, aop_assign, aop_pick, aop_binOp, ev, cst, putT, gval, aopBin, isSl, abin, aint, kd, List.getD_cons_zero, List.getD_cons_succ, List.set_cons_zero, List.set_cons_succ, List.getElem?_cons_zero, List.getElem?_cons_succ, Bool.not_true, beq_self_eq_true, true_and]
    refine WK.now ?_
    simp only [Tryd.results78, Kcons_go, Kone_go, Kfin_go, aresL_nil, aresL_tmp, allDefr_nil, offs_nil, mkTup, allD, one?, List.getD_cons_zero, List.getD_cons_succ, true_and, List.toList_toArray]
    have : decide (IntKind.wrap .i64 (a - b) ≥ 0) = decide (b ≤ a ∧ a - b ≤ 9223372036854775807) := by
      rw [wrap_eq]
      by_cases hle : a - b ≤ 9223372036854775807
      · rw [decide_eq_true (by omega), decide_eq_true (by omega)]
      · rw [decide_eq_false (by omega), decide_eq_false (by omega)]
    rw [this]
  · have c1 : ¬ a ≥ b := by simpa using c
    simp only [Kat_go, Kreg_go, Qseq_normal, Kbr_false, Vbr_false, Kno_go, aret_ret, aregL_nil, aregL_plain, aregL_guard, awpL_ret, aop_assign, aop_pick, ev, cst, putT, gval, List.getD_cons_zero, List.getD_cons_succ, List.set_cons_zero, List.set_cons_succ, List.getElem?_cons_zero, List.getElem?_cons_succ, Bool.not_true, Bool.false_beq]
    refine WK.now ?_
    simp only [Tryd.results78, Kcons_go, Kone_go, Kfin_go, aresL_nil, aresL_tmp, allDefr_nil, offs_nil, mkTup, allD, one?, List.getD_cons_zero, List.getD_cons_succ, true_and, List.toList_toArray]
    rw [decide_eq_false (show ¬ (b ≤ a ∧ a - b ≤ 9223372036854775807) by omega)]
theorem fits1_ok (a b : Int) : PCall env 89 [.int .i64 a, .int .i64 b] (.tup [.int .i64 0, .bool (decide (a ≤ b))]) := by
  refine acalls_of envOk Tryd.func89 rfl (by kernel_rfl) (m := 7) rfl ?_
  simp only [ty2, T2, Kat_go, Kreg_go, Qseq_normal, aret_ret, aregL_nil, aregL_plain, awpL_region, awpL_seq, awpL_ret, aop_move, aop_assign, aop_binOp, ev, cst, putT, aopBin, isSl, abin, aint, kd, List.getD_cons_zero, List.getD_cons_succ, List.set_cons_zero, List.set_cons_succ, List.length_nil, List.map_cons, List.map_nil, List.cons_append, List.nil_append, List.reduceReplicate, true_and]
  refine WK.now ?_
  simp only [Tryd.results89, Kcons_go, Kone_go, Kfin_go, aresL_nil, aresL_tmp, allDefr_nil, offs_nil, mkTup, allD, one?, List.getD_cons_zero, List.getD_cons_succ, and_self, List.toList_toArray]
theorem zero_ok (n : Int) (h : n ≤ 1000000) : PCall env 53 [.int .i64 n] (sl (List.replicate (max n 0).toNat 0)) := by
  refine acalls_of envOk Tryd.func53 rfl (by kernel_rfl) (m := 5) rfl ?_
  simp only [ty2, T2, ty43, T43, sl, Kat_go, Kreg_go, Qseq_normal, aret_ret, aregL_nil, aregL_plain, awpL_region, awpL_seq, awpL_ret, aop_move, aop_assign, aop_makeSlice, aop_max, apureCall, ev, cst, putT, kd, amake, List.getD_cons_zero, List.getD_cons_succ, List.set_cons_zero, List.set_cons_succ, List.length_nil, List.map_cons, List.map_nil, List.cons_append, List.nil_append, List.reduceReplicate, true_and, reduceCtorEq, ne_eq, not_false_eq_true]
  refine ⟨by omega, room_of (by omega) (by omega), WK.frz 0 rfl (WK.now ?_)⟩
  simp only [Tryd.results53, AV.frzL, AV.frz, AObj.frz, Kcons_go, Kone_go, Kfin_go, aresL_nil, aresL_tmp, allDefr_nil, offs_nil, one?, List.getD_cons_zero, List.getD_cons_succ, List.set_cons_zero, List.map_cons, List.map_nil, true_and, if_true, List.toList_toArray]
  rw [rep_ints]
def resS : Option (List Int) → D
  | some xs => .tup [sl xs, .bool true]
  | none => .tup [.nils, .bool false]
noncomputable def bothS (fn : Int → Int → Int) (fo : Int → Int → Bool) (a b : List Int) : Option (List Int) :=
  bif B (a.length = b.length ∧ ∀ k, k < a.length → fo (a.getD k 0) (b.getD k 0) = true) then some (List.zipWith fn a b) else none
def InR (a : List Int) : Prop := ∀ k, I64 (a.getD k 0)

theorem both_ok (g : FuncId) (hx : env.ext g = none) (fn : Int → Int → Int) (fo : Int → Int → Bool) (hg : ∀ x y, I64 x → I64 y → PCall env g [.int .i64 x, .int .i64 y] (.tup [.int .i64 (fn x y), .bool (fo x y)]))
    (a b : List Int) (ha : Sz a) (ra : InR a) (rb : InR b) : PCall env 77 [sl a, sl b, .func g []] (resS (bothS fn fo a b)) := by
  refine acalls_of envOk Tryd.func77 rfl (by kernel_rfl) (m := 43) rfl ?_
  simp only [ints_length, ty3, T3, ty43, T43, ints_length, sl, Kat_go, Kreg_go, Qseq_normal, aregL_nil, aregL_plain, awpL_region, awpL_seq, awpL_cond, aop_move, aop_assign, aop_binOp, aop_len, apureCall, ev, cst, putT, aopBin, isSl, abin, aint, rowLen, alen, kd, List.getD_cons_zero, List.getD_cons_succ, List.set_cons_zero, List.set_cons_succ, List.length_nil, List.map_cons, List.map_nil, List.cons_append, List.nil_append, List.reduceReplicate, true_and]
  refine Kbr.mk (fun c => ?_) (fun c => ?_)
  · have c1 : a.length ≠ b.length := by simpa [Int.ofNat_inj] using c
    simp only [Kreg_go, Qseq_normal, Qseq_ret, aret_ret, aregL_nil, aregL_plain, awpL_region, awpL_seq, awpL_ret, aop_assign, ev, cst, putT, List.set_cons_zero, List.set_cons_succ]
    refine WK.now ?_
    simp only [Tryd.results77, Kcons_go, Kone_go, Kfin_go, aresL_nil, aresL_tmp, allDefr_nil, offs_nil, mkTup, allD, one?, List.getD_cons_zero, List.getD_cons_succ, true_and, List.toList_toArray]
    rw [bothS, B_false (fun h => c1 h.1)]
    rfl
  · have c1 : a.length = b.length := by simpa [Int.ofNat_inj] using c
    simp only [ints_length, ty2, T2, ty43, T43, ints_length, Int.natCast_nonneg, Kat_go, Kreg_go, Qseq_normal, aregL_nil, aregL_plain, awpL_skip, awpL_region, awpL_seq, awpL_block, awpL_loop, aop_move, aop_assign, aop_makeSlice, aop_len, apureCall, ev, cst, putT, rowLen, alen, kd, amake, List.getD_cons_zero, List.getD_cons_succ, List.set_cons_zero, List.set_cons_succ, List.length_nil, List.nil_append, true_and, reduceCtorEq, ne_eq, not_false_eq_true, Int.toNat_natCast]
    refine ⟨room_of (Nat.le_trans ha (by omega)) (by omega), ?_⟩
    rw [rep_ints]
    refine ALoop.mk (fun k t H ds => ∃ (i : Nat) (out : List Int), k = a.length - i ∧ i ≤ a.length ∧ out.length = a.length ∧ (∀ j, j < i → fo (a.getD j 0) (b.getD j 0) = true ∧ out.getD j 0 = fn (a.getD j 0) (b.getD j 0)) ∧ t = [.d (.slice 1 (ints a)), .d (.slice 1 (ints b)), .d (.func g []), .dead, .dead, .dead, .d .nils, .d (.bool false), .sfull 0, .dead, .dead, .dead, .dead, .dead, .dead, .dead, .dead, .dead, .dead, .dead, .dead, .d (.int .i64 a.length), .d (.int .i64 (i : Nat)), .dead, .dead, .dead, .dead, .dead, .dead, .dead, .dead, .dead, .dead, .dead, .dead, .dead, .dead, .dead, .dead, .dead, .dead, .dead, .dead, .dead, .dead, .dead] ∧ H = [.arr 2 1 (ints out)] ∧ ds = []) a.length
      (WK.fgt (t' := [.d (.slice 1 (ints a)), .d (.slice 1 (ints b)), .d (.func g []), .dead, .dead, .dead, .d .nils, .d (.bool false), .sfull 0, .dead, .dead, .dead, .dead, .dead, .dead, .dead, .dead, .dead, .dead, .dead, .dead, .d (.int .i64 a.length), .d (.int .i64 (0 : Nat)), .dead, .dead, .dead, .dead, .dead, .dead, .dead, .dead, .dead, .dead, .dead, .dead, .dead, .dead, .dead, .dead, .dead, .dead, .dead, .dead, .dead, .dead, .dead]) (by simp [fgt]) (WK.now ⟨0, _, by omega, by omega, by simp, by omega, rfl, rfl, rfl⟩)) ?_
    rintro k t H ds ⟨i, out, rfl, hi, ho, hp, rfl, rfl, rfl⟩
    simp only [ty3, T3, Int.ofNat_lt, Kat_go, Kreg_go, Qseq_normal, aregL_nil, aregL_plain, awpL_region, awpL_seq, awpL_cond, aop_binOp, ev, putT, aopBin, isSl, abin, aint, kd, List.getD_cons_zero, List.getD_cons_succ, List.set_cons_zero, List.set_cons_succ, true_and]
    refine Kbr.mk (fun c => ?_) (fun c => ?_)
    · have c2 : i < a.length := by simpa using c
      have c3 : i < b.length := by omega
      simp only [c2, Kreg_go, Qseq_normal, aregL_nil, aregL_plain, awpL_skip, awpL_region, awpL_draw, awpL_seq, awpL_block, aop_move, aop_assign, ev, putT, List.getD_cons_zero, List.getD_cons_succ, List.set_cons_zero, List.set_cons_succ, decide_true]
      refine DRegL.one (by unfold DrawOK; kernel_rfl) ?_
      simp only [c2, c3, cel_ints, hx, ints_length, ty2, T2, ty43, T43, ints_length, Int.natCast_nonneg, Int.ofNat_lt, Kdr_go, adrawL_plain, qop_move, qop_load, qop_indexAddr, qop_call, qcallF_go, ev, putT, rowPtr, aidx, aload, rdRow, ldK, kd, esz, isEff, qpre, qtail, List.getD_cons_zero, List.getD_cons_succ, List.set_cons_zero, List.set_cons_succ, List.map_cons, List.map_nil, List.append_nil, Nat.reduceLT, true_and, Int.toNat_natCast]
      refine (hg _ _ (ra i) (rb i)).quiet' (by first | exact ⟨.inl rfl, trivial⟩ | exact ⟨.inl rfl, .inl rfl, trivial⟩ | exact ⟨.inl rfl, .inl rfl, .inl rfl, trivial⟩ | simp [argsOk, argOk, sl, sll]) ?_
      simp only [Kat_go, Kreg_go, Kdr_go, Qseq_normal, aregL_nil, aregL_plain, adrawL_nil, adrawL_plain, awpL_region, awpL_seq, awpL_cond, aop_move, aop_unOp, qop_move, qop_assign, qop_extract, ev, putT, aun, aext, List.getD_cons_zero, List.getD_cons_succ, List.set_cons_zero, List.set_cons_succ, List.getElem?_cons_zero, List.getElem?_cons_succ]
      refine Kbr.mk (fun c => ?_) (fun c => ?_)
      · have c4 : fo (a.getD i 0) (b.getD i 0) = false := by simpa using c
        simp only [Qloop_ret, Kreg_go, Qseq_normal, Qseq_ret, Qblk_ret, aret_ret, aregL_nil, aregL_plain, awpL_region, awpL_seq, awpL_ret, aop_assign, ev, cst, putT, List.set_cons_zero, List.set_cons_succ]
        refine WK.now ?_
        simp only [Tryd.results77, Kcons_go, Kone_go, Kfin_go, aresL_nil, aresL_tmp, allDefr_nil, offs_nil, mkTup, allD, one?, List.getD_cons_zero, List.getD_cons_succ, true_and, List.toList_toArray]
        rw [bothS, B_false (fun h => by have := h.2 i c2; rw [c4] at this; cases this)]
        rfl
      · have c4 : fo (a.getD i 0) (b.getD i 0) = true := by simpa using c
        simp only [ho, c2, upd_ints, succ64 c2 (Nat.le_trans ha (by omega)), ints_length, ty2, T2, ty3, T3, ty43, T43, Qloop_normal, ints_length, Int.natCast_nonneg, Int.ofNat_lt, Kat_go, Kst_go, Kreg_go, Qseq_normal, Qblk_normal, aregL_nil, aregL_plain, awpL_skip, awpL_region, aop_move, aop_binOp, aop_indexAddr, aop_store, ev, cst, putT, aopBin, isSl, abin, aint, rowPtr, aidx, kd, esz, D.cells, astore, List.getD_cons_zero, List.getD_cons_succ, List.set_cons_zero, List.set_cons_succ, List.length_cons, List.length_nil, Nat.reduceLeDiff, true_and, Nat.zero_add, Int.toNat_natCast]
        refine ⟨a.length - (i + 1), by omega, WK.fgt (t' := [.d (.slice 1 (ints a)), .d (.slice 1 (ints b)), .d (.func g []), .dead, .dead, .dead, .d .nils, .d (.bool false), .sfull 0, .dead, .dead, .dead, .dead, .dead, .dead, .dead, .dead, .dead, .dead, .dead, .dead, .d (.int .i64 a.length), .d (.int .i64 (i + 1 : Nat)), .dead, .dead, .dead, .dead, .dead, .dead, .dead, .dead, .dead, .dead, .dead, .dead, .dead, .dead, .dead, .dead, .dead, .dead, .dead, .dead, .dead, .dead, .dead]) (by simp [fgt]) (WK.now ⟨i + 1, _, rfl, by omega, by simp [ho], fun j hj => ?_, rfl, rfl, rfl⟩)⟩
        rcases Nat.lt_succ_iff_lt_or_eq.1 hj with hj | rfl
        · have hne : i ≠ j := by omega
          simpa [List.getD_eq_getElem?_getD, List.getElem?_set_ne hne] using hp j hj
        · exact ⟨c4, by simp [List.getD_eq_getElem?_getD, ho, c2]⟩
    · have c2 : ¬ i < a.length := by simpa using c
      simp only [Qloop_exit, Kreg_go, Qseq_normal, Qseq_exit, Qblk_exit, aret_ret, aregL_nil, aregL_plain, awpL_region, awpL_seq, awpL_exit, awpL_ret, aop_move, aop_assign, ev, cst, putT, List.getD_cons_zero, List.getD_cons_succ, List.set_cons_zero, List.set_cons_succ, if_true]
      refine WK.frz 0 rfl (WK.now ?_)
      simp only [Tryd.results77, AV.frzL, AV.frz, AObj.frz, Kcons_go, Kone_go, Kfin_go, aresL_nil, aresL_tmp, allDefr_nil, offs_nil, mkTup, allD, one?, List.getD_cons_zero, List.getD_cons_succ, List.set_cons_zero, List.map_cons, List.map_nil, true_and, if_true, List.toList_toArray]
      have e : out = List.zipWith fn a b := List.ext_getElem (by simp [ho, c1]) fun j h1 h2 => by
        have := (hp j (by omega)).2
        simpa [List.getD_eq_getElem?_getD, h1, show j < a.length by omega, show j < b.length by omega] using this
      rw [bothS, B_true ⟨c1, fun k hk => (hp k (by omega)).1⟩, e]
      rfl
theorem vsub_ok (a b : List Int) (ha : Sz a) (ra : InR a) (rb : InR b) : PCall env 60 [sl a, sl b] (resS (bothS (fun x y => IntKind.wrap .i64 (x - y)) (fun x y => decide (y ≤ x ∧ x - y ≤ 9223372036854775807)) a b)) := by
  refine acalls_of envOk Tryd.func60 rfl (by kernel_rfl) (m := 9) rfl ?_
  simp only [ext77, sl, Kreg_go, Qseq_normal, aregL_nil, aregL_plain, awpL_region, awpL_seq, aop_move, aop_assign, aop_call, acallF_go, ev, cst, putT, List.getD_cons_zero, List.getD_cons_succ, List.set_cons_zero, List.set_cons_succ, List.length_nil, List.map_cons, List.map_nil, List.cons_append, List.nil_append, List.append_nil, List.reduceReplicate]
  refine (both_ok 78 rfl _ _ (fun x y hx hy => sub1_ok x y hx hy) a b ha ra rb).go (by first | exact ⟨.inl rfl, trivial⟩ | exact ⟨.inl rfl, .inl rfl, trivial⟩ | exact ⟨.inl rfl, .inl rfl, .inl rfl, trivial⟩ | simp [argsOk, argOk, sl, sll]) (WK.now ?_)
  generalize bothS _ _ a b = r
  cases r with
  | none => simp only [resS, Kat_go, Kreg_go, Qseq_normal, aret_ret, aregL_nil, aregL_plain, awpL_ret, aop_assign, aop_extract, ev, putT, aext, List.getD_cons_zero, List.getD_cons_succ, List.set_cons_zero, List.set_cons_succ, List.getElem?_cons_zero, List.getElem?_cons_succ]; refine WK.now ?_; simp only [Tryd.results60, Kcons_go, Kone_go, Kfin_go, aresL_nil, aresL_tmp, allDefr_nil, offs_nil, mkTup, allD, one?, List.getD_cons_zero, List.getD_cons_succ, and_self, List.toList_toArray]
  | some xs => simp only [resS, sl, Kat_go, Kreg_go, Qseq_normal, aret_ret, aregL_nil, aregL_plain, awpL_ret, aop_assign, aop_extract, ev, putT, aext, List.getD_cons_zero, List.getD_cons_succ, List.set_cons_zero, List.set_cons_succ, List.getElem?_cons_zero, List.getElem?_cons_succ]; refine WK.now ?_; simp only [Tryd.results60, Kcons_go, Kone_go, Kfin_go, aresL_nil, aresL_tmp, allDefr_nil, offs_nil, mkTup, allD, one?, List.getD_cons_zero, List.getD_cons_succ, and_self, List.toList_toArray]
theorem vfits_ok (a b : List Int) (ha : Sz a) (ra : InR a) (rb : InR b) : PCall env 76 [sl a, sl b] (.bool (B (FitsP a b))) := by
  refine acalls_of envOk Tryd.func76 rfl (by kernel_rfl) (m := 12) rfl ?_
  simp only [ext77, sl, Kreg_go, Qseq_normal, aregL_nil, aregL_plain, awpL_region, awpL_seq, aop_move, aop_assign, aop_call, acallF_go, ev, cst, putT, List.getD_cons_zero, List.getD_cons_succ, List.set_cons_zero, List.set_cons_succ, List.length_nil, List.map_cons, List.map_nil, List.cons_append, List.nil_append, List.append_nil, List.reduceReplicate]
  refine (both_ok 89 rfl _ _ (fun x y hx hy => fits1_ok x y) a b ha ra rb).go (by first | exact ⟨.inl rfl, trivial⟩ | exact ⟨.inl rfl, .inl rfl, trivial⟩ | exact ⟨.inl rfl, .inl rfl, .inl rfl, trivial⟩ | simp [argsOk, argOk, sl, sll]) (WK.now ?_)
  have e : B (a.length = b.length ∧ ∀ k, k < a.length → decide (a.getD k 0 ≤ b.getD k 0) = true) = B (FitsP a b) := by
    congr 1
    simp [FitsP]
  rw [bothS, e]
  cases hb : B (FitsP a b) with
  | false => simp only [resS, cond_false, Kat_go, Kreg_go, Qseq_normal, aret_ret, aregL_nil, aregL_plain, awpL_region, awpL_seq, awpL_ret, aop_move, aop_assign, aop_extract, ev, putT, aext, List.getD_cons_zero, List.getD_cons_succ, List.set_cons_zero, List.set_cons_succ, List.getElem?_cons_zero, List.getElem?_cons_succ]; refine WK.now ?_; simp only [Tryd.results76, Kcons_go, Kone_go, Kfin_go, aresL_nil, aresL_tmp, allDefr_nil, offs_nil, one?, List.getD_cons_zero, List.getD_cons_succ, and_self, List.toList_toArray]
  | true => simp only [resS, cond_true, sl, Kat_go, Kreg_go, Qseq_normal, aret_ret, aregL_nil, aregL_plain, awpL_region, awpL_seq, awpL_ret, aop_move, aop_assign, aop_extract, ev, putT, aext, List.getD_cons_zero, List.getD_cons_succ, List.set_cons_zero, List.set_cons_succ, List.getElem?_cons_zero, List.getElem?_cons_succ]; refine WK.now ?_; simp only [Tryd.results76, Kcons_go, Kone_go, Kfin_go, aresL_nil, aresL_tmp, allDefr_nil, offs_nil, one?, List.getD_cons_zero, List.getD_cons_succ, and_self, List.toList_toArray]

def idx (p : Int → Bool) (a : List Int) : Int := if a.findIdx p < a.length then (a.findIdx p : Nat) else -1
theorem index_ok (g : FuncId) (hx : env.ext g = none) (p : Int → Bool) (hg : ∀ x, PCall env g [.int .i64 x] (.bool (p x))) (a : List Int) (ha : a.length ≤ 9223372036854775807) : PCall env 70 [sl a, .func g []] (.int .i64 (idx p a)) := by
  refine acalls_of envOk Tryd.func70 rfl (by kernel_rfl) (m := 17) rfl ?_
  simp only [ints_length, ty43, T43, ints_length, sl, Kat_go, Kreg_go, Qseq_normal, aregL_nil, aregL_plain, awpL_region, awpL_seq, awpL_block, awpL_loop, aop_move, aop_assign, aop_len, apureCall, ev, cst, putT, rowLen, alen, kd, List.getD_cons_zero, List.getD_cons_succ, List.set_cons_zero, List.set_cons_succ, List.length_nil, List.map_cons, List.map_nil, List.cons_append, List.nil_append, List.reduceReplicate, Int.reduceNeg]
  refine ALoop.mk (fun k t H ds => ∃ i : Nat, k = a.length - i ∧ i ≤ a.length ∧ (∀ j, j < i → p (a.getD j 0) = false) ∧ t = [.d (.slice 1 (ints a)), .d (.func g []), .dead, .dead, .d (.int .i64 0), .dead, .dead, .d (.int .i64 a.length), .d (.int .i64 (i : Nat)), .dead, .dead, .dead, .dead, .dead, .dead, .dead, .dead, .dead, .dead] ∧ H = [] ∧ ds = []) a.length
    (WK.fgt (t' := [.d (.slice 1 (ints a)), .d (.func g []), .dead, .dead, .d (.int .i64 0), .dead, .dead, .d (.int .i64 a.length), .d (.int .i64 (0 : Nat)), .dead, .dead, .dead, .dead, .dead, .dead, .dead, .dead, .dead, .dead]) (by simp [fgt]) (WK.now ⟨0, by omega, by omega, by omega, rfl, rfl, rfl⟩)) ?_
  rintro k t H ds ⟨i, rfl, hi, hp, rfl, rfl, rfl⟩
  simp only [ty3, T3, Int.ofNat_lt, Kat_go, Kreg_go, Qseq_normal, aregL_nil, aregL_plain, awpL_region, awpL_seq, awpL_cond, aop_binOp, ev, putT, aopBin, isSl, abin, aint, kd, List.getD_cons_zero, List.getD_cons_succ, List.set_cons_zero, List.set_cons_succ, true_and, Int.reduceNeg]
  refine Kbr.mk (fun c => ?_) (fun c => ?_)
  · have c2 : i < a.length := by simpa using c
    simp only [c2, cel_ints, hx, ints_length, ty2, T2, ty43, T43, ints_length, Int.natCast_nonneg, Int.ofNat_lt, Kat_go, Kreg_go, Qseq_normal, aregL_nil, aregL_plain, awpL_skip, awpL_region, awpL_seq, awpL_block, aop_move, aop_assign, aop_load, aop_indexAddr, aop_call, acallF_go, ev, putT, rowPtr, aidx, aload, rdRow, ldK, kd, esz, List.getD_cons_zero, List.getD_cons_succ, List.set_cons_zero, List.set_cons_succ, List.map_cons, List.map_nil, List.append_nil, Nat.reduceLT, true_and, Int.toNat_natCast, Int.reduceNeg, decide_true]
    refine (hg _).go (by first | exact ⟨.inl rfl, trivial⟩ | exact ⟨.inl rfl, .inl rfl, trivial⟩ | exact ⟨.inl rfl, .inl rfl, .inl rfl, trivial⟩ | simp [argsOk, argOk, sl, sll]) (WK.now ?_)
    simp only [Qseq_normal, aregL_nil, awpL_cond, ev, putT, List.getD_cons_zero, List.getD_cons_succ, List.set_cons_zero, List.set_cons_succ, Int.reduceNeg]
    refine Kbr.mk (fun c => ?_) (fun c => ?_)
    · simp only [Qloop_ret, Kreg_go, Qseq_normal, Qseq_ret, Qblk_ret, aret_ret, aregL_nil, aregL_plain, awpL_region, awpL_seq, awpL_ret, aop_move, aop_assign, ev, putT, List.getD_cons_zero, List.getD_cons_succ, List.set_cons_zero, List.set_cons_succ, Int.reduceNeg]
      refine WK.now ?_
      simp only [Tryd.results70, Kcons_go, Kone_go, Kfin_go, aresL_nil, aresL_tmp, allDefr_nil, offs_nil, one?, List.getD_cons_zero, List.getD_cons_succ, true_and, List.toList_toArray]
      have e : a.findIdx p = i := (List.findIdx_eq c2).2 ⟨by simpa [List.getD_eq_getElem?_getD, c2] using c, fun j hj => by simpa [List.getD_eq_getElem?_getD, show j < a.length by omega] using hp j hj⟩
      simp [idx, e, c2]
    · simp only [succW c2 ha, ty3, T3, Qloop_normal, Kat_go, Kreg_go, Qseq_normal, Qblk_normal, aregL_nil, aregL_plain, awpL_skip, awpL_region, aop_move, aop_binOp, ev, cst, putT, aopBin, isSl, abin, aint, kd, List.getD_cons_zero, List.getD_cons_succ, List.set_cons_zero, List.set_cons_succ, true_and, Int.reduceNeg]
      refine ⟨a.length - (i + 1), by omega, WK.fgt (t' := [.d (.slice 1 (ints a)), .d (.func g []), .dead, .dead, .d (.int .i64 0), .dead, .dead, .d (.int .i64 a.length), .d (.int .i64 (i + 1 : Nat)), .dead, .dead, .dead, .dead, .dead, .dead, .dead, .dead, .dead, .dead]) (by simp [fgt]) (WK.now ⟨i + 1, rfl, by omega, fun j hj => ?_, rfl, rfl, rfl⟩)⟩
      rcases Nat.lt_succ_iff_lt_or_eq.1 hj with hj | rfl
      · exact hp j hj
      · exact c
  · have c2 : ¬ i < a.length := by simpa using c
    simp only [Qloop_exit, Kreg_go, Qseq_normal, Qseq_exit, Qblk_exit, aret_ret, aregL_nil, aregL_plain, awpL_region, awpL_seq, awpL_exit, awpL_ret, aop_assign, ev, cst, putT, List.set_cons_zero, List.set_cons_succ, if_true, Int.reduceNeg]
    refine WK.now ?_
    simp only [Tryd.results70, Kcons_go, Kone_go, Kfin_go, aresL_nil, aresL_tmp, allDefr_nil, offs_nil, one?, List.getD_cons_zero, List.getD_cons_succ, true_and, Int.reduceNeg, List.toList_toArray]
    have e : ¬ a.findIdx p < a.length := by
      rw [List.findIdx_lt_length]
      rintro ⟨x, hx, hpx⟩
      obtain ⟨j, hj, rfl⟩ := List.getElem_of_mem hx
      have := hp j (by omega)
      simp [List.getD_eq_getElem?_getD, hj, hpx] at this
    simp [idx, e]
def wrongP (n : Int) : Bool := decide (n < 0 ∨ n > 1099511627776)
def wrongS (a : List Int) (d : Int) : Int := if 0 ≤ idx wrongP a then idx wrongP a else if (a.length : Int) = d then -1 else max (min d a.length) 0
theorem vwrong_ok (a : List Int) (d : Int) (ha : a.length ≤ 9223372036854775807) : PCall env 51 [sl a, .int .i64 d] (.int .i64 (wrongS a d)) := by
  refine acalls_of envOk Tryd.func51 rfl (by kernel_rfl) (m := 20) rfl ?_
  simp only [ext70, sl, Kreg_go, Qseq_normal, aregL_nil, aregL_plain, awpL_region, awpL_seq, aop_move, aop_assign, aop_call, acallF_go, ev, cst, putT, List.getD_cons_zero, List.getD_cons_succ, List.set_cons_zero, List.set_cons_succ, List.length_nil, List.map_cons, List.map_nil, List.cons_append, List.nil_append, List.append_nil, List.reduceReplicate]
  refine (index_ok 71 rfl wrongP (fun x => wrong1_ok x) a ha).go (by first | exact ⟨.inl rfl, trivial⟩ | exact ⟨.inl rfl, .inl rfl, trivial⟩ | exact ⟨.inl rfl, .inl rfl, .inl rfl, trivial⟩ | simp [argsOk, argOk, sl, sll]) (WK.now ?_)
  simp only [ty3, T3, Kat_go, Kreg_go, Qseq_normal, aregL_nil, aregL_plain, aregL_guard, awpL_region, awpL_seq, aop_move, aop_assign, aop_binOp, ev, cst, putT, gval, aopBin, isSl, abin, aint, kd, List.getD_cons_zero, List.getD_cons_succ, List.set_cons_zero, List.set_cons_succ, List.getElem?_cons_zero, List.getElem?_cons_succ, Bool.not_false, true_and]
  refine Kbr.mk (fun c => ?_) (fun c => ?_)
  · have c1 : ¬ 0 ≤ idx wrongP a := by simpa using c
    simp only [ints_length, ty3, T3, ty43, T43, ints_length, Kat_go, Kreg_go, Qseq_normal, Kbr_true, Vbr_false, Kgo_go, aregL_nil, aregL_plain, aregL_guard, awpL_cond, aop_move, aop_pick, aop_binOp, aop_len, apureCall, ev, cst, putT, gval, aopBin, isSl, abin, aint, rowLen, alen, kd, List.getD_cons_zero, List.getD_cons_succ, List.set_cons_zero, List.set_cons_succ, List.getElem?_cons_zero, List.getElem?_cons_succ, Bool.not_false, beq_self_eq_true, true_and]
    refine Kbr.mk (fun c => ?_) (fun c => ?_)
    · have c2 : (a.length : Int) = d := by simpa using c
      simp only [Kreg_go, Qseq_normal, Qseq_ret, aret_ret, aregL_nil, aregL_plain, awpL_region, awpL_seq, awpL_ret, aop_move, aop_assign, ev, putT, List.getD_cons_zero, List.getD_cons_succ, List.set_cons_zero, List.set_cons_succ]
      refine WK.now ?_
      simp only [Tryd.results51, Kcons_go, Kone_go, Kfin_go, aresL_nil, aresL_tmp, allDefr_nil, offs_nil, one?, List.getD_cons_zero, List.getD_cons_succ, true_and, List.toList_toArray]
      have : idx wrongP a = -1 := by unfold idx at *; split <;> simp_all
      simp [wrongS, c2, this]
    · have c2 : ¬ (a.length : Int) = d := by simpa using c
      simp only [ints_length, ty43, T43, ints_length, Kat_go, Kreg_go, Qseq_normal, aret_ret, aregL_nil, aregL_plain, awpL_skip, awpL_region, awpL_seq, awpL_ret, aop_move, aop_assign, aop_len, aop_max, aop_min, apureCall, ev, cst, putT, rowLen, alen, kd, List.getD_cons_zero, List.getD_cons_succ, List.set_cons_zero, List.set_cons_succ, List.map_cons, List.map_nil]
      refine WK.now ?_
      simp only [Tryd.results51, Kcons_go, Kone_go, Kfin_go, aresL_nil, aresL_tmp, allDefr_nil, offs_nil, one?, List.getD_cons_zero, List.getD_cons_succ, true_and, List.toList_toArray]
      simp only [wrongS, if_neg c1, if_neg c2]
  · have c1 : 0 ≤ idx wrongP a := by simpa using c
    simp only [Kat_go, Kreg_go, Qseq_normal, Qseq_ret, Kbr_true, Kbr_false, Vbr_true, Kno_go, aret_ret, aregL_nil, aregL_plain, aregL_guard, awpL_region, awpL_seq, awpL_cond, awpL_ret, aop_move, aop_assign, aop_pick, ev, cst, putT, gval, List.getD_cons_zero, List.getD_cons_succ, List.set_cons_zero, List.set_cons_succ, List.getElem?_cons_zero, List.getElem?_cons_succ, Bool.not_false, Bool.true_beq]
    refine WK.now ?_
    simp only [Tryd.results51, Kcons_go, Kone_go, Kfin_go, aresL_nil, aresL_tmp, allDefr_nil, offs_nil, one?, List.getD_cons_zero, List.getD_cons_succ, true_and, List.toList_toArray]
    simp [wrongS, c1]
end Go.Proofs.YtjljjakfebfpfaaDoor
