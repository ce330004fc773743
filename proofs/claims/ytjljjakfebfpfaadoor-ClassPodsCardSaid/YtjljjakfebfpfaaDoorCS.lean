/-
  The reference implementation's functions on classes, further.
-/
import Derived.Test.YtjljjakfebfpfaaDoorCR
set_option autoImplicit false
set_option linter.unusedVariables false
set_option linter.unusedSimpArgs false
namespace Go.Proofs.YtjljjakfebfpfaaDoor
open Go.Abs

theorem cls_eq {a b : Cls} : (a.1 == b.1 && (a.2.1 == b.2.1 && a.2.2 == b.2.2)) = (a == b) := rfl
theorem csame_ok (a b : List Cls) (ha : Sz a) : PCall env 15 [.slice 3 (cls a), .slice 3 (cls b)] (.bool (B (a = b))) := by
  refine acalls_of envOk Tryd.func15 rfl (by kernel_rfl) (m := 24) rfl ?_
  simp only [cls_length, ty3, T3, ty22, T22, Kat_go, Kreg_go, Qseq_normal, aregL_nil, aregL_plain, awpL_region, awpL_seq, awpL_cond, aop_move, aop_assign, aop_binOp, aop_len, apureCall, ev, cst, putT, aopBin, isSl, abin, aint, rowLen, alen, kd, List.getD_cons_zero, List.getD_cons_succ, List.set_cons_zero, List.set_cons_succ, List.length_nil, List.map_cons, List.map_nil, List.cons_append, List.nil_append, List.reduceReplicate, true_and]
  refine Kbr.mk (fun c => ?_) (fun c => ?_)
  · have c1 : a.length ≠ b.length := by simpa [Int.ofNat_inj] using c
    simp only [Kreg_go, Qseq_normal, Qseq_ret, aret_ret, aregL_nil, aregL_plain, awpL_region, awpL_seq, awpL_ret, aop_assign, ev, cst, putT, List.set_cons_zero, List.set_cons_succ]
    refine WK.now ?_
    simp only [Tryd.results15, Kcons_go, Kone_go, Kfin_go, aresL_nil, aresL_tmp, allDefr_nil, offs_nil, one?, List.getD_cons_zero, List.getD_cons_succ, true_and, List.toList_toArray]
    rw [B_false (fun h => c1 (by rw [h]))]
  · have c1 : a.length = b.length := by simpa [Int.ofNat_inj] using c
    simp only [Kreg_go, Qseq_normal, aregL_nil, aregL_plain, awpL_skip, awpL_region, awpL_seq, awpL_block, awpL_loop, aop_assign, ev, cst, putT, List.set_cons_zero, List.set_cons_succ]
    refine ALoop.mk (fun k t H ds => ∃ i : Nat, k = a.length - i ∧ i ≤ a.length ∧ (∀ j, j < i → a.getD j (0, 0, false) = b.getD j (0, 0, false)) ∧ t = [.d (.slice 3 (cls a)), .d (.slice 3 (cls b)), .dead, .dead, .d (.bool false), .d (.int .i64 (i : Nat)), .dead, .dead, .dead, .dead, .dead, .dead, .dead, .dead, .dead, .dead, .dead, .dead, .dead, .dead, .dead, .dead, .dead, .dead, .dead, .dead] ∧ H = [] ∧ ds = []) a.length
      (WK.fgt (t' := [.d (.slice 3 (cls a)), .d (.slice 3 (cls b)), .dead, .dead, .d (.bool false), .d (.int .i64 (0 : Nat)), .dead, .dead, .dead, .dead, .dead, .dead, .dead, .dead, .dead, .dead, .dead, .dead, .dead, .dead, .dead, .dead, .dead, .dead, .dead, .dead]) (by simp [fgt]) (WK.now ⟨0, by omega, by omega, by omega, rfl, rfl, rfl⟩)) ?_
    rintro k t H ds ⟨i, rfl, hi, hp, rfl, rfl, rfl⟩
    simp only [cls_length, ty3, T3, ty22, T22, Int.ofNat_lt, Kat_go, Kreg_go, Qseq_normal, aregL_nil, aregL_plain, awpL_region, awpL_seq, awpL_cond, aop_move, aop_binOp, aop_len, apureCall, ev, putT, aopBin, isSl, abin, aint, rowLen, alen, kd, List.getD_cons_zero, List.getD_cons_succ, List.set_cons_zero, List.set_cons_succ, true_and]
    refine Kbr.mk (fun c => ?_) (fun c => ?_)
    · have c2 : i < a.length := by simpa using c
      have c3 : i < b.length := by omega
      simp only [Qseq_normal, awpL_skip, awpL_draw, awpL_seq, awpL_block]
      refine DRegL.one (by unfold DrawOK; kernel_rfl) ?_
      simp only [c2, c3, seg_cls, cD, cls_eq, cls_length, cmp30, ty22, T22, ty30, T30, Int.natCast_nonneg, Int.ofNat_lt, Kdr_go, Qseq_normal, aregL_nil, adrawL_nil, adrawL_plain, awpL_cond, qop_move, qop_load, qop_binOp, qop_indexAddr, ev, putT, isAggK, fitL, SK.fits, dkeq, skeqL, skeq, abin, bEq, acmp, rowPtr, aidx, aload, rdRow, ldK, kd, esz, isEff, qpre, qtail, List.getD_cons_zero, List.getD_cons_succ, List.set_cons_zero, List.set_cons_succ, Nat.reduceLeDiff, Bool.and_true, Bool.true_and, beq_self_eq_true, true_and, Nat.zero_add, Int.toNat_natCast, decide_true]
      refine Kbr.mk (fun c => ?_) (fun c => ?_)
      · have c4 : a.getD i (0, 0, false) ≠ b.getD i (0, 0, false) := by simpa using c
        simp only [Qloop_ret, Kreg_go, Qseq_normal, Qseq_ret, Qblk_ret, aret_ret, aregL_nil, aregL_plain, awpL_region, awpL_seq, awpL_ret, aop_assign, ev, cst, putT, List.set_cons_zero, List.set_cons_succ]
        refine WK.now ?_
        simp only [Tryd.results15, Kcons_go, Kone_go, Kfin_go, aresL_nil, aresL_tmp, allDefr_nil, offs_nil, one?, List.getD_cons_zero, List.getD_cons_succ, true_and, List.toList_toArray]
        rw [B_false (fun h => c4 (by rw [h]))]
      · have c4 : a.getD i (0, 0, false) = b.getD i (0, 0, false) := by simpa using c
        simp only [succ64 c2 (Nat.le_trans ha (by omega)), ty3, T3, Qloop_normal, Kat_go, Kreg_go, Qseq_normal, Qblk_normal, aregL_nil, aregL_plain, awpL_skip, awpL_region, aop_move, aop_assign, aop_binOp, ev, cst, putT, aopBin, isSl, abin, aint, kd, List.getD_cons_zero, List.getD_cons_succ, List.set_cons_zero, List.set_cons_succ, true_and]
        refine ⟨a.length - (i + 1), by omega, WK.fgt (t' := [.d (.slice 3 (cls a)), .d (.slice 3 (cls b)), .dead, .dead, .d (.bool false), .d (.int .i64 (i + 1 : Nat)), .dead, .dead, .dead, .dead, .dead, .dead, .dead, .dead, .dead, .dead, .dead, .dead, .dead, .dead, .dead, .dead, .dead, .dead, .dead, .dead]) (by simp [fgt]) (WK.now ⟨i + 1, rfl, by omega, fun j hj => ?_, rfl, rfl, rfl⟩)⟩
        rcases Nat.lt_succ_iff_lt_or_eq.1 hj with hj | rfl
        · exact hp j hj
        · exact c4
    · have c2 : ¬ i < a.length := by simpa using c
      simp only [Qloop_exit, Kreg_go, Qseq_normal, Qseq_exit, Qblk_exit, aret_ret, aregL_nil, aregL_plain, awpL_region, awpL_seq, awpL_exit, awpL_ret, aop_assign, ev, cst, putT, List.set_cons_zero, List.set_cons_succ, if_true]
      refine WK.now ?_
      simp only [Tryd.results15, Kcons_go, Kone_go, Kfin_go, aresL_nil, aresL_tmp, allDefr_nil, offs_nil, one?, List.getD_cons_zero, List.getD_cons_succ, true_and, List.toList_toArray]
      have e : a = b := List.ext_getElem c1 fun j h1 h2 => by
        have := hp j (by omega)
        simpa [List.getD_eq_getElem?_getD, h1, h2] using this
      rw [B_true e]

/-- Few classes, with ids and priorities within the bounds. -/
def okC (c : Cls) : Prop := 0 ≤ c.1 ∧ c.1 ≤ 1073741824 ∧ -1073741824 ≤ c.2.1 ∧ c.2.1 ≤ 1073741824
def FewP (l : List Cls) : Prop := (∀ j, j < l.length → okC (l.getD j (0, 0, false))) ∧ l.length ≤ 100
set_option maxRecDepth 4000 in
theorem few_ok (l : List Cls) (hl : l.length ≤ 9223372036854775807) : PCall env 11 [.slice 3 (cls l)] (.bool (B (FewP l))) := by
  refine acalls_of envOk Tryd.func11 rfl (by kernel_rfl) (m := 42) rfl ?_
  simp only [Kreg_go, Qseq_normal, aregL_nil, aregL_plain, awpL_region, awpL_seq, awpL_block, awpL_loop, aop_assign, ev, cst, putT, List.set_cons_zero, List.set_cons_succ, List.length_nil, List.map_cons, List.map_nil, List.cons_append, List.nil_append, List.reduceReplicate, Int.reduceNeg]
  refine ALoop.mk (fun k t H ds => ∃ i : Nat, k = l.length - i ∧ i ≤ l.length ∧ (∀ j, j < i → okC (l.getD j (0, 0, false))) ∧ t = [.d (.slice 3 (cls l)), .dead, .d (.bool false), .d (.int .i64 (i : Nat)), .dead, .dead, .dead, .dead, .dead, .dead, .dead, .dead, .dead, .dead, .dead, .dead, .dead, .dead, .dead, .dead, .dead, .dead, .dead, .dead, .dead, .dead, .dead, .dead, .dead, .dead, .dead, .dead, .dead, .dead, .dead, .dead, .dead, .dead, .dead, .dead, .dead, .dead, .dead] ∧ H = [] ∧ ds = []) l.length
    (WK.fgt (t' := [.d (.slice 3 (cls l)), .dead, .d (.bool false), .d (.int .i64 (0 : Nat)), .dead, .dead, .dead, .dead, .dead, .dead, .dead, .dead, .dead, .dead, .dead, .dead, .dead, .dead, .dead, .dead, .dead, .dead, .dead, .dead, .dead, .dead, .dead, .dead, .dead, .dead, .dead, .dead, .dead, .dead, .dead, .dead, .dead, .dead, .dead, .dead, .dead, .dead, .dead]) (by simp [fgt]) (WK.now ⟨0, by omega, by omega, by omega, rfl, rfl, rfl⟩)) ?_
  rintro k t H ds ⟨i, rfl, hi, hp, rfl, rfl, rfl⟩
  simp only [cls_length, ty3, T3, ty22, T22, Int.ofNat_lt, Kat_go, Kreg_go, Qseq_normal, aregL_nil, aregL_plain, awpL_region, awpL_seq, awpL_cond, aop_move, aop_binOp, aop_len, apureCall, ev, putT, aopBin, isSl, abin, aint, rowLen, alen, kd, List.getD_cons_zero, List.getD_cons_succ, List.set_cons_zero, List.set_cons_succ, true_and, Int.reduceNeg]
  refine Kbr.mk (fun c => ?_) (fun c => ?_)
  · have c2 : i < l.length := by simpa using c
    have sc : IntKind.wrap .i64 ((i : Int) + 1) = ((i + 1 : Nat) : Int) := by rw [wrapi (by omega) (by omega)]; rfl
    have bad : ¬ okC (l.getD i (0, 0, false)) → B (FewP l) = false := fun h => B_false fun h' => h (h'.1 i c2)
    by_cases h1 : (l.getD i (0, 0, false)).1 < 0
    · simp only [c2, cel_cls0, decide_eq_true h1, cls_length, ty3, T3, ty22, T22, ty30, T30, Qloop_ret, Int.natCast_nonneg, Int.ofNat_lt, Kat_go, Kreg_go, Qseq_normal, Qseq_ret, Qblk_ret, Kbr_true, Kbr_false, Vbr_true, Kno_go, aret_ret, aregL_nil, aregL_plain, aregL_guard, awpL_skip, awpL_region, awpL_seq, awpL_cond, awpL_block, awpL_ret, aop_move, aop_assign, aop_pick, aop_load, aop_binOp, aop_fieldAddr, aop_indexAddr, ev, cst, putT, gval, aopBin, isSl, abin, aint, rowPtr, aidx, fld, afldAddr, aload, rdRow, ldK, kd, esz, List.getD_cons_zero, List.getD_cons_succ, List.set_cons_zero, List.set_cons_succ, List.getElem?_cons_zero, List.getElem?_cons_succ, Nat.reduceLT, Bool.not_false, true_and, reduceCtorEq, ne_eq, not_false_eq_true, Nat.add_zero, Int.toNat_natCast, Int.reduceNeg, Bool.true_beq, decide_true]
      refine WK.now ?_
      simp only [Tryd.results11, Kcons_go, Kone_go, Kfin_go, aresL_nil, aresL_tmp, allDefr_nil, offs_nil, one?, List.getD_cons_zero, List.getD_cons_succ, true_and, List.toList_toArray]
      rw [bad (fun h => by have := h.1; omega)]
    · by_cases h2 : (l.getD i (0, 0, false)).1 > 1073741824
      · simp only [c2, cel_cls0, decide_eq_false h1, decide_eq_true h2, cls_length, ty3, T3, ty22, T22, ty30, T30, Qloop_ret, Int.natCast_nonneg, Int.ofNat_lt, Kat_go, Kreg_go, Qseq_normal, Qseq_ret, Qblk_ret, Kbr_true, Kbr_false, Vbr_true, Vbr_false, Kgo_go, Kno_go, aret_ret, aregL_nil, aregL_plain, aregL_guard, awpL_skip, awpL_region, awpL_seq, awpL_cond, awpL_block, awpL_ret, aop_move, aop_assign, aop_pick, aop_load, aop_binOp, aop_fieldAddr, aop_indexAddr, ev, cst, putT, gval, aopBin, isSl, abin, aint, rowPtr, aidx, fld, afldAddr, aload, rdRow, ldK, kd, esz, List.getD_cons_zero, List.getD_cons_succ, List.set_cons_zero, List.set_cons_succ, List.getElem?_cons_zero, List.getElem?_cons_succ, Nat.reduceLT, Bool.not_false, beq_self_eq_true, true_and, reduceCtorEq, ne_eq, not_false_eq_true, Nat.add_zero, Int.toNat_natCast, Int.reduceNeg, Bool.true_beq, decide_true]
        refine WK.now ?_
        simp only [Tryd.results11, Kcons_go, Kone_go, Kfin_go, aresL_nil, aresL_tmp, allDefr_nil, offs_nil, one?, List.getD_cons_zero, List.getD_cons_succ, true_and, List.toList_toArray]
        rw [bad (fun h => by have := h.2.1; omega)]
      · by_cases h3 : (l.getD i (0, 0, false)).2.1 < -1073741824
        · simp only [c2, cel_cls0, cel_cls1, decide_eq_false h1, decide_eq_false h2, decide_eq_true h3, cls_length, ty3, T3, ty22, T22, ty30, T30, Qloop_ret, Int.natCast_nonneg, Int.ofNat_lt, Kat_go, Kreg_go, Qseq_normal, Qseq_ret, Qblk_ret, Kbr_true, Kbr_false, Vbr_true, Vbr_false, Kgo_go, Kno_go, aret_ret, aregL_nil, aregL_plain, aregL_guard, awpL_skip, awpL_region, awpL_seq, awpL_cond, awpL_block, awpL_ret, aop_move, aop_assign, aop_pick, aop_load, aop_binOp, aop_fieldAddr, aop_indexAddr, ev, cst, putT, gval, aopBin, isSl, abin, aint, rowPtr, aidx, fld, afldAddr, aload, rdRow, ldK, kd, esz, List.getD_cons_zero, List.getD_cons_succ, List.set_cons_zero, List.set_cons_succ, List.getElem?_cons_zero, List.getElem?_cons_succ, Nat.reduceLT, Bool.not_false, beq_self_eq_true, true_and, reduceCtorEq, ne_eq, not_false_eq_true, Nat.zero_add, Nat.add_zero, Int.toNat_natCast, Int.reduceNeg, Bool.true_beq, decide_true]
          refine WK.now ?_
          simp only [Tryd.results11, Kcons_go, Kone_go, Kfin_go, aresL_nil, aresL_tmp, allDefr_nil, offs_nil, one?, List.getD_cons_zero, List.getD_cons_succ, true_and, List.toList_toArray]
          rw [bad (fun h => by have := h.2.2.1; omega)]
        · by_cases h4 : (l.getD i (0, 0, false)).2.1 > 1073741824
          · simp only [c2, cel_cls0, cel_cls1, decide_eq_false h1, decide_eq_false h2, decide_eq_false h3, decide_eq_true h4, cls_length, ty3, T3, ty22, T22, ty30, T30, Qloop_ret, Int.natCast_nonneg, Int.ofNat_lt, Kat_go, Kreg_go, Qseq_normal, Qseq_ret, Qblk_ret, Kbr_true, Vbr_false, Kgo_go, aret_ret, aregL_nil, aregL_plain, aregL_guard, awpL_skip, awpL_region, awpL_seq, awpL_cond, awpL_block, awpL_ret, aop_move, aop_assign, aop_pick, aop_load, aop_binOp, aop_fieldAddr, aop_indexAddr, ev, cst, putT, gval, aopBin, isSl, abin, aint, rowPtr, aidx, fld, afldAddr, aload, rdRow, ldK, kd, esz, List.getD_cons_zero, List.getD_cons_succ, List.set_cons_zero, List.set_cons_succ, List.getElem?_cons_zero, List.getElem?_cons_succ, Nat.reduceLT, Bool.not_false, beq_self_eq_true, true_and, reduceCtorEq, ne_eq, not_false_eq_true, Nat.zero_add, Nat.add_zero, Int.toNat_natCast, Int.reduceNeg, decide_true]
            refine WK.now ?_
            simp only [Tryd.results11, Kcons_go, Kone_go, Kfin_go, aresL_nil, aresL_tmp, allDefr_nil, offs_nil, one?, List.getD_cons_zero, List.getD_cons_succ, true_and, List.toList_toArray]
            rw [bad (fun h => by have := h.2.2.2; omega)]
          · simp only [c2, cel_cls0, cel_cls1, decide_eq_false h1, decide_eq_false h2, decide_eq_false h3, decide_eq_false h4, sc, cls_length, ty3, T3, ty22, T22, ty30, T30, Qloop_normal, Int.natCast_nonneg, Int.ofNat_lt, Kat_go, Kreg_go, Qseq_normal, Qblk_normal, Kbr_true, Kbr_false, Vbr_false, Kgo_go, aregL_nil, aregL_plain, aregL_guard, awpL_skip, awpL_region, awpL_seq, awpL_cond, awpL_block, aop_move, aop_assign, aop_pick, aop_load, aop_binOp, aop_fieldAddr, aop_indexAddr, ev, cst, putT, gval, aopBin, isSl, abin, aint, rowPtr, aidx, fld, afldAddr, aload, rdRow, ldK, kd, esz, List.getD_cons_zero, List.getD_cons_succ, List.set_cons_zero, List.set_cons_succ, List.getElem?_cons_zero, List.getElem?_cons_succ, Nat.reduceLT, Bool.not_false, beq_self_eq_true, true_and, reduceCtorEq, ne_eq, not_false_eq_true, Nat.zero_add, Nat.add_zero, Int.toNat_natCast, Int.reduceNeg, decide_true]
            refine ⟨l.length - (i + 1), by omega, WK.fgt (t' := [.d (.slice 3 (cls l)), .dead, .d (.bool false), .d (.int .i64 (i + 1 : Nat)), .dead, .dead, .dead, .dead, .dead, .dead, .dead, .dead, .dead, .dead, .dead, .dead, .dead, .dead, .dead, .dead, .dead, .dead, .dead, .dead, .dead, .dead, .dead, .dead, .dead, .dead, .dead, .dead, .dead, .dead, .dead, .dead, .dead, .dead, .dead, .dead, .dead, .dead, .dead]) (by simp [fgt]) (WK.now ⟨i + 1, rfl, by omega, fun j hj => ?_, rfl, rfl, rfl⟩)⟩
            rcases Nat.lt_succ_iff_lt_or_eq.1 hj with hj | rfl
            · exact hp j hj
            · exact ⟨by omega, by omega, by omega, by omega⟩
  · have c2 : ¬ i < l.length := by simpa using c
    simp only [cls_length, ty3, T3, ty22, T22, Qloop_exit, Kat_go, Kreg_go, Qseq_normal, Qseq_exit, Qblk_exit, aret_ret, aregL_nil, aregL_plain, awpL_region, awpL_seq, awpL_exit, awpL_ret, aop_move, aop_assign, aop_binOp, aop_len, apureCall, ev, cst, putT, aopBin, isSl, abin, aint, rowLen, alen, kd, List.getD_cons_zero, List.getD_cons_succ, List.set_cons_zero, List.set_cons_succ, true_and, if_true, Int.reduceNeg]
    refine WK.now ?_
    simp only [Tryd.results11, Kcons_go, Kone_go, Kfin_go, aresL_nil, aresL_tmp, allDefr_nil, offs_nil, one?, List.getD_cons_zero, List.getD_cons_succ, true_and, List.toList_toArray]
    by_cases h : l.length ≤ 100
    · rw [B_true ⟨fun j hj => hp j (by omega), h⟩, decide_eq_true (by omega)]
    · rw [B_false (fun h' => h h'.2), decide_eq_false (by omega)]

theorem insK_rows {l : List Cls} {c : Cls} {i : Nat} (hs : (kv ck l).Pairwise (fun a b => a.1 < b.1)) (hn : c.1 ∉ (kv ck l).map (·.1)) (hi : i ≤ l.length)
    (hg : i < l.length → c.1 < (l.getD i (0, 0, false)).1) (hx : ∀ j, j + 1 = i → ¬ c.1 < (l.getD j (0, 0, false)).1) :
    List.take i (cls l) ++ [cD c] ++ List.drop i (List.take l.length (cls l)) = cls (insK ck l c) := by
  have h := ins_back (w := kv ck l) (p := (c.1, c)) hs hn (by rw [kv_length]; exact hi) (fun q hq => by
      have hlt : i < l.length := by have := (List.getElem?_eq_some_iff.1 hq).1; rwa [kv_length] at this
      have h9 := hg hlt
      rw [kv, List.getElem?_map] at hq
      cases ha : l[i]? with
      | none => rw [ha] at hq; cases hq
      | some a =>
        rw [ha] at hq
        obtain rfl := Option.some.inj hq
        rw [List.getD_eq_getElem?_getD, ha] at h9
        exact h9) (fun j q hj hq => by
      have h9 := hx j hj
      rw [kv, List.getElem?_map] at hq
      cases ha : l[j]? with
      | none => rw [ha] at hq; cases hq
      | some a =>
        rw [ha] at hq
        obtain rfl := Option.some.inj hq
        rw [List.getD_eq_getElem?_getD, ha] at h9
        exact h9)
  have e2 := ins_kv ck l c
  rw [h] at e2
  have e3 : insK ck l c = l.take i ++ [c] ++ l.drop i := by
    have := congrArg (List.map (·.2)) e2
    simp only [List.map_append, List.map_take, List.map_drop, List.map_cons, List.map_nil, kv, List.map_map, Function.comp_def, List.map_id'] at this
    exact this.symm
  have e : List.take l.length (cls l) = cls l := List.take_of_length_le (by rw [cls_length]; exact Nat.le_refl _)
  rw [e, e3]
  simp [cls]

theorem radd_ok (l : List Cls) (size : Int) (c : Cls) (hl : Sz l) (hs : (kv ck l).Pairwise (fun a b => a.1 < b.1)) :
    PCall env 12 [.slice 3 (cls l), .int .i64 size, fC c] (.tup [.slice 3 (cls (raddK ck l size c)), .int .i64 (raddE (kv ck l) size c.1)]) := by
  refine acalls_of envOk Tryd.func12 rfl (by kernel_rfl) (m := 46) rfl ?_
  simp only [fC, cD, ty3, T3, ty30, T30, ext18, Kat_go, Kreg_go, Qseq_normal, aregL_nil, aregL_plain, awpL_region, awpL_seq, aop_move, aop_assign, aop_load, aop_fieldAddr, aop_box, aop_call, acallF_go, ev, cst, putT, fld, afldAddr, aload, ldK, kd, esz, AV.cells, D.cells, abox, List.getD_cons_zero, List.getD_cons_succ, List.set_cons_zero, List.set_cons_succ, List.getElem?_cons_zero, List.length_nil, List.map_cons, List.map_nil, List.cons_append, List.nil_append, List.append_nil, List.reduceReplicate, true_and, reduceCtorEq, ne_eq, not_false_eq_true, Nat.add_zero]
  refine (find_ok l c.1 hl).go (by first | exact ⟨.inl rfl, trivial⟩ | exact ⟨.inl rfl, .inl rfl, trivial⟩ | exact ⟨.inl rfl, .inl rfl, .inl rfl, trivial⟩ | simp [argsOk, argOk, sl, sll]) (WK.now ?_)
  simp only [ty3, T3, Kat_go, Kreg_go, Qseq_normal, aregL_nil, aregL_plain, awpL_cond, aop_binOp, ev, cst, putT, aopBin, isSl, abin, aint, kd, List.getD_cons_zero, List.getD_cons_succ, List.set_cons_zero, List.set_cons_succ, true_and]
  unfold raddE raddK
  rw [kv_length]
  refine Kbr.mk (fun c1 => ?_) (fun c1 => ?_)
  · have c2 : 0 ≤ rfind (kv ck l) c.1 := of_decide_eq_true c1
    simp only [Kreg_go, Qseq_normal, Qseq_ret, aret_ret, aregL_nil, aregL_plain, awpL_region, awpL_seq, awpL_ret, aop_move, aop_assign, ev, cst, putT, List.getD_cons_zero, List.getD_cons_succ, List.set_cons_zero, List.set_cons_succ]
    refine WK.now ?_
    simp only [c2, Tryd.results12, Kcons_go, Kone_go, Kfin_go, aresL_nil, aresL_tmp, allDefr_nil, offs_nil, mkTup, allD, one?, List.getD_cons_zero, List.getD_cons_succ, if_true, and_self, decide_true, List.toList_toArray]
  · have c2 : ¬ 0 ≤ rfind (kv ck l) c.1 := of_decide_eq_false c1
    simp only [cls_length, ty3, T3, ty22, T22, Kat_go, Kreg_go, Qseq_normal, aregL_nil, aregL_plain, awpL_skip, awpL_region, awpL_seq, awpL_cond, aop_move, aop_binOp, aop_len, apureCall, ev, putT, aopBin, isSl, abin, aint, rowLen, alen, kd, List.getD_cons_zero, List.getD_cons_succ, List.set_cons_zero, List.set_cons_succ, true_and]
    refine Kbr.mk (fun c3 => ?_) (fun c3 => ?_)
    · have c4 : size ≤ l.length := of_decide_eq_true c3
      simp only [Kreg_go, Qseq_normal, Qseq_ret, aret_ret, aregL_nil, aregL_plain, awpL_region, awpL_seq, awpL_ret, aop_move, aop_assign, ev, cst, putT, List.getD_cons_zero, List.getD_cons_succ, List.set_cons_zero, List.set_cons_succ]
      refine WK.now ?_
      simp only [c2, c4, Tryd.results12, Kcons_go, Kone_go, Kfin_go, aresL_nil, aresL_tmp, allDefr_nil, offs_nil, mkTup, allD, one?, List.getD_cons_zero, List.getD_cons_succ, if_true, if_false, and_self, decide_true, decide_false, List.toList_toArray]
    · have c4 : ¬ size ≤ l.length := of_decide_eq_false c3
      have hn : c.1 ∉ (kv ck l).map (·.1) := lget_none.1 (rfind_neg.1 (by omega))
      simp only [cls_length, ty22, T22, Kat_go, Kreg_go, Qseq_normal, aregL_nil, aregL_plain, awpL_skip, awpL_region, awpL_seq, awpL_block, awpL_loop, aop_move, aop_assign, aop_len, apureCall, ev, putT, rowLen, alen, kd, List.getD_cons_zero, List.getD_cons_succ, List.set_cons_zero, List.set_cons_succ]
      refine ALoop.mk (fun k t H ds => ∃ i : Nat, k = i ∧ i ≤ l.length ∧ (i < l.length → c.1 < (l.getD i (0, 0, false)).1) ∧ t = [.d (.slice 3 (cls l)), .d (.int .i64 size), .dead, .dead, .dead, .pvar 0 0, .d .nils, .d (.int .i64 0), .d (.int .i64 (i : Nat)), .dead, .dead, .dead, .dead, .dead, .dead, .dead, .dead, .dead, .dead, .dead, .dead, .dead, .dead, .dead, .dead, .dead, .dead, .dead, .dead, .dead, .dead, .dead, .dead, .dead, .dead, .dead, .dead, .dead, .dead, .dead, .dead, .dead, .dead, .dead, .dead, .dead, .dead, .dead, .dead] ∧ H = [.var [.d (.int .i64 c.1), .d (.int .i64 c.2.1), .d (.bool c.2.2)]] ∧ ds = []) l.length
        (WK.fgt (t' := [.d (.slice 3 (cls l)), .d (.int .i64 size), .dead, .dead, .dead, .pvar 0 0, .d .nils, .d (.int .i64 0), .d (.int .i64 (l.length : Nat)), .dead, .dead, .dead, .dead, .dead, .dead, .dead, .dead, .dead, .dead, .dead, .dead, .dead, .dead, .dead, .dead, .dead, .dead, .dead, .dead, .dead, .dead, .dead, .dead, .dead, .dead, .dead, .dead, .dead, .dead, .dead, .dead, .dead, .dead, .dead, .dead, .dead, .dead, .dead, .dead]) (by simp [fgt]) (WK.now ⟨l.length, rfl, by omega, by omega, rfl, rfl, rfl⟩)) ?_
      rintro i t H ds ⟨_, rfl, hi, hg, rfl, rfl, rfl⟩
      simp only [awpL_draw, awpL_seq]
      refine DRegL.one (by unfold DrawOK; kernel_rfl) ?_
      simp only [Kdr_go, adrawL_plain, adrawL_guard, qop_move, qop_binOp, ev, cst, putT, gval, abin, aint, isEff, qpre, qtail, List.getD_cons_zero, List.getD_cons_succ, List.set_cons_zero, List.set_cons_succ, List.getElem?_cons_zero, List.getElem?_cons_succ, Bool.not_true, true_and]
      refine Kbr.mk (fun c5 => ?_) (fun c5 => ?_)
      · have c6 : 0 < i := by simpa using c5
        obtain ⟨j, rfl⟩ : ∃ j, i = j + 1 := ⟨i - 1, by omega⟩
        have w1 : IntKind.wrap .i64 (((j + 1 : Nat) : Int) - 1) = (j : Int) := by unfold Sz at hl; rw [wrapi (by omega) (by omega)]; omega
        have hj : j < l.length := by omega
        simp only [w1, hj, cel_cls0, cls_length, ty3, T3, ty22, T22, ty30, T30, Int.natCast_nonneg, Int.ofNat_lt, Kdr_go, Qseq_normal, Kbr_true, Vbr_true, Dgo_go, aregL_nil, adrawL_nil, adrawL_plain, adrawL_guard, awpL_cond, qop_move, qop_pick, qop_load, qop_binOp, qop_fieldAddr, qop_indexAddr, ev, cst, putT, gval, abin, aint, rowPtr, aidx, fld, afldAddr, aload, rdRow, ldK, kd, esz, List.getD_cons_zero, List.getD_cons_succ, List.set_cons_zero, List.set_cons_succ, List.getElem?_cons_zero, List.getElem?_cons_succ, Nat.reduceLT, Bool.not_true, beq_self_eq_true, true_and, reduceCtorEq, ne_eq, not_false_eq_true, Nat.add_zero, Int.toNat_natCast]
        refine Kbr.mk (fun c7 => ?_) (fun c7 => ?_)
        · have c8 : (l.getD j (0, 0, false)).1 > c.1 := of_decide_eq_true c7
          simp only [w1, ty3, T3, Qloop_normal, Kat_go, Kreg_go, Qseq_normal, Qblk_normal, aregL_nil, aregL_plain, awpL_skip, awpL_region, awpL_block, aop_move, aop_assign, aop_binOp, ev, cst, putT, aopBin, isSl, abin, aint, kd, List.getD_cons_zero, List.getD_cons_succ, List.set_cons_zero, List.set_cons_succ, true_and]
          exact ⟨j, by omega, WK.fgt (t' := [.d (.slice 3 (cls l)), .d (.int .i64 size), .dead, .dead, .dead, .pvar 0 0, .d .nils, .d (.int .i64 0), .d (.int .i64 (j : Nat)), .dead, .dead, .dead, .dead, .dead, .dead, .dead, .dead, .dead, .dead, .dead, .dead, .dead, .dead, .dead, .dead, .dead, .dead, .dead, .dead, .dead, .dead, .dead, .dead, .dead, .dead, .dead, .dead, .dead, .dead, .dead, .dead, .dead, .dead, .dead, .dead, .dead, .dead, .dead, .dead]) (by simp [fgt]) (WK.now ⟨j, rfl, by omega, fun _ => c8, rfl, rfl, rfl⟩)⟩
        · have c8 : ¬ (l.getD j (0, 0, false)).1 > c.1 := of_decide_eq_false c7
          simp only [Qloop_exit, Qseq_normal, Qseq_exit, Qblk_exit, awpL_draw, awpL_seq, awpL_exit, if_true]
          refine DRegL.two [0, 1, 2, 3, 5, 6, 8, 9, 10] [4, 7, 11, 12, 13] (by unfold Draw2; kernel_rfl) (by kernel_rfl) (by kernel_rfl) ?_
          simp only [cls_length, ty22, T22, ty30, T30, Int.natCast_nonneg, Kdr_go, Qseq_normal, Kapp_svalf, Kapp_sfull, aret_ret, adrawL_nil, adrawL_plain, awpL_ret, Same_go, Kt_go, Kt0_go, atailL_nil, atailL_plain, pickL_nil, pickL_cons, aop_assign, aop_append, qop_move, qop_load, qop_slice, qop_buildSlice, aapp_go, ev, cst, putT, aslice, optI, aload, ldK, kd, esz, afill, splice, AV.cells, D.cells, mkAgg, allD, abuildS, AV.low, rep, chunk, srcRows, List.getD_cons_zero, List.getD_cons_succ, List.set_cons_zero, List.set_cons_succ, List.getElem?_cons_zero, List.getElem?_cons_succ, List.length_cons, List.length_nil, List.map_cons, List.map_nil, List.cons_append, List.nil_append, List.append_nil, List.take_succ_cons, List.take_zero, List.take_nil, List.drop_succ_cons, List.drop_zero, List.drop_nil, Nat.reduceAdd, Nat.reduceLeDiff, Option.map_some, Option.map_none, true_and, and_true, if_true, reduceCtorEq, ne_eq, not_false_eq_true, Nat.zero_add, Int.toNat_zero, Int.toNat_natCast, Int.reduceLE, Nat.zero_mul, Nat.one_mul, and_self]
          have hr : ∀ n, n ≤ 3000000 → room n 24 := fun n h => room_of (by omega) (by omega)
          have hi' : (((j + 1 : Nat) : Int) : Int) ≤ (l.length : Int) := by omega
          have hb3 : (((j + 1 : Nat) : Int) : Int) ≤ (l.length : Int) ∧ (((j + 1 : Nat) : Int) : Int) ≤ (l.length : Int) ∧ (l.length : Int) ≤ (l.length : Int) := ⟨hi', hi', Int.le_refl _⟩
          have hins := insK_rows hs hn hi (hg) (fun j' h' => (by have e9 : j' = j := (by omega); subst e9; omega))
          simp only [cD] at hins
          trace_state
          refine ⟨hi', hi', Int.le_refl _, .inr trivial, hr _ (by unfold Sz at hl; simp [cls_length]; omega), hb3, hr _ (by unfold Sz at hl; simp [cls_length]; omega), hb3, hr _ (by unfold Sz at hl; simp [cls_length]; omega), hb3, hb3, hb3, ?_⟩
          refine WK.frz 3 rfl (WK.now ?_)
          simp only [Tryd.results12, AV.frzL, AV.frz, AObj.frz, Kcons_go, Kone_go, Kfin_go, aresL_nil, aresL_tmp, allDefr_nil, offs_nil, mkTup, allD, one?, List.getD_cons_zero, List.getD_cons_succ, List.set_cons_zero, List.set_cons_succ, List.map_cons, List.map_nil, Nat.reduceEqDiff, true_and, if_true, if_false, List.toList_toArray]
          rw [hins]
          simp only [c2, c4, if_false]
      · have c6 : i = 0 := by have : ¬ 0 < i := by simpa using c5
                              omega
        simp only [Qloop_exit, Kdr_go, Qseq_normal, Qseq_exit, Qblk_exit, Kbr_false, Vbr_false, Dno_go, aregL_nil, adrawL_nil, adrawL_plain, adrawL_guard, awpL_draw, awpL_seq, awpL_cond, awpL_exit, qop_pick, ev, cst, putT, gval, List.getD_cons_zero, List.getD_cons_succ, List.set_cons_zero, List.set_cons_succ, List.getElem?_cons_zero, List.getElem?_cons_succ, Bool.not_true, if_true, Bool.false_beq]
        refine DRegL.two [0, 1, 2, 3, 5, 6, 8, 9, 10] [4, 7, 11, 12, 13] (by unfold Draw2; kernel_rfl) (by kernel_rfl) (by kernel_rfl) ?_
        simp only [cls_length, ty22, T22, ty30, T30, Int.natCast_nonneg, Kdr_go, Qseq_normal, Kapp_svalf, Kapp_sfull, aret_ret, adrawL_nil, adrawL_plain, awpL_ret, Same_go, Kt_go, Kt0_go, atailL_nil, atailL_plain, pickL_nil, pickL_cons, aop_assign, aop_append, qop_move, qop_load, qop_slice, qop_buildSlice, aapp_go, ev, cst, putT, aslice, optI, aload, ldK, kd, esz, afill, splice, AV.cells, D.cells, mkAgg, allD, abuildS, AV.low, rep, chunk, srcRows, List.getD_cons_zero, List.getD_cons_succ, List.set_cons_zero, List.set_cons_succ, List.getElem?_cons_zero, List.getElem?_cons_succ, List.length_cons, List.length_nil, List.map_cons, List.map_nil, List.cons_append, List.nil_append, List.append_nil, List.take_succ_cons, List.take_zero, List.take_nil, List.drop_succ_cons, List.drop_zero, List.drop_nil, Nat.reduceAdd, Nat.reduceLeDiff, Option.map_some, Option.map_none, true_and, and_true, if_true, reduceCtorEq, ne_eq, not_false_eq_true, Nat.zero_add, Int.toNat_zero, Int.toNat_natCast, Int.reduceLE, Nat.zero_mul, Nat.one_mul, and_self]
        have hr : ∀ n, n ≤ 3000000 → room n 24 := fun n h => room_of (by omega) (by omega)
        have hi' : ((i : Int) : Int) ≤ (l.length : Int) := by omega
        have hb3 : ((i : Int) : Int) ≤ (l.length : Int) ∧ ((i : Int) : Int) ≤ (l.length : Int) ∧ (l.length : Int) ≤ (l.length : Int) := ⟨hi', hi', Int.le_refl _⟩
        have hins := insK_rows hs hn hi (hg) (fun j' h' => by omega)
        simp only [cD] at hins
        trace_state
        refine ⟨hi', hi', Int.le_refl _, .inr trivial, hr _ (by unfold Sz at hl; simp [cls_length]; omega), hb3, hr _ (by unfold Sz at hl; simp [cls_length]; omega), hb3, hr _ (by unfold Sz at hl; simp [cls_length]; omega), hb3, hb3, hb3, ?_⟩
        refine WK.frz 3 rfl (WK.now ?_)
        simp only [Tryd.results12, AV.frzL, AV.frz, AObj.frz, Kcons_go, Kone_go, Kfin_go, aresL_nil, aresL_tmp, allDefr_nil, offs_nil, mkTup, allD, one?, List.getD_cons_zero, List.getD_cons_succ, List.set_cons_zero, List.set_cons_succ, List.map_cons, List.map_nil, Nat.reduceEqDiff, true_and, if_true, if_false, List.toList_toArray]
        rw [hins]
        simp only [c2, c4, if_false]
end Go.Proofs.YtjljjakfebfpfaaDoor
