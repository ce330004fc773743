/-
  The reference implementation's functions on classes: what each computes.
-/
import Derived.Test.YtjljjakfebfpfaaDoorCH
import Derived.Test.YtjljjakfebfpfaaDoorAbsL
set_option autoImplicit false
set_option linter.unusedVariables false
set_option linter.unusedSimpArgs false
namespace Go.Proofs.YtjljjakfebfpfaaDoor
open Go.Abs

def FitsP (a b : List Int) : Prop := a.length = b.length ∧ ∀ k, k < a.length → a.getD k 0 ≤ b.getD k 0
theorem rfits_ok (a b : List Int) (ha : Sz a) : PCall env 57 [sl a, sl b] (.bool (B (FitsP a b))) := by
  refine acalls_of envOk Tryd.func57 rfl (by kernel_rfl) (m := 30) rfl ?_
  simp only [sl, Kreg_go, Qseq_normal, aregL_nil, aregL_plain, awpL_region, awpL_seq, awpL_block, awpL_loop, aop_assign, ev, cst, putT, List.set_cons_zero, List.set_cons_succ, List.length_nil, List.map_cons, List.map_nil, List.cons_append, List.nil_append, List.reduceReplicate]
  refine ALoop.mk (fun k t H ds => ∃ i : Nat, k = a.length - i ∧ i ≤ a.length ∧ i ≤ b.length ∧ (∀ j, j < i → a.getD j 0 ≤ b.getD j 0) ∧ t = [.d (.slice 1 (ints a)), .d (.slice 1 (ints b)), .dead, .dead, .d (.bool false), .d (.int .i64 (i : Nat)), .dead, .dead, .dead, .dead, .dead, .dead, .dead, .dead, .dead, .dead, .dead, .dead, .dead, .dead, .dead, .dead, .dead, .dead, .dead, .dead, .dead, .dead, .dead, .dead, .dead, .dead] ∧ H = [] ∧ ds = []) a.length
    (WK.fgt (t' := [.d (.slice 1 (ints a)), .d (.slice 1 (ints b)), .dead, .dead, .d (.bool false), .d (.int .i64 (0 : Nat)), .dead, .dead, .dead, .dead, .dead, .dead, .dead, .dead, .dead, .dead, .dead, .dead, .dead, .dead, .dead, .dead, .dead, .dead, .dead, .dead, .dead, .dead, .dead, .dead, .dead, .dead]) (by simp [fgt]) (WK.now ⟨0, by omega, by omega, by omega, by omega, rfl, rfl, rfl⟩)) ?_
  rintro k t H ds ⟨i, rfl, hi, hi2, hp, rfl, rfl, rfl⟩
  simp only [ints_length, ty3, T3, ty43, T43, ints_length, Int.ofNat_lt, Kat_go, Kreg_go, aregL_plain, aregL_guard, awpL_region, awpL_seq, aop_move, aop_binOp, aop_len, apureCall, ev, putT, gval, aopBin, isSl, abin, aint, rowLen, alen, kd, List.getD_cons_zero, List.getD_cons_succ, List.set_cons_zero, List.set_cons_succ, List.getElem?_cons_zero, List.getElem?_cons_succ, Bool.not_true, true_and]
  have fin : ¬ (i < a.length ∧ i < b.length) → B (a.length = b.length) = B (FitsP a b) := fun hn => by
    by_cases h : a.length = b.length
    · rw [B_true h, B_true ⟨h, fun k hk => hp k (by omega)⟩]
    · rw [B_false h, B_false (fun h' => h h'.1)]
  refine Kbr.mk (fun c => ?_) (fun c => ?_)
  · have c2 : i < a.length := by simpa using c
    simp only [ints_length, ty3, T3, ty43, T43, ints_length, Int.ofNat_lt, Kat_go, Kreg_go, Qseq_normal, Kbr_true, Vbr_true, Kgo_go, aregL_nil, aregL_plain, aregL_guard, awpL_cond, aop_move, aop_pick, aop_binOp, aop_len, apureCall, ev, cst, putT, gval, aopBin, isSl, abin, aint, rowLen, alen, kd, List.getD_cons_zero, List.getD_cons_succ, List.set_cons_zero, List.set_cons_succ, List.getElem?_cons_zero, List.getElem?_cons_succ, Bool.not_true, beq_self_eq_true, true_and]
    refine Kbr.mk (fun c => ?_) (fun c => ?_)
    · have c3 : i < b.length := by simpa using c
      simp only [c2, c3, Qseq_normal, awpL_skip, awpL_draw, awpL_seq, awpL_block, decide_true]
      refine DRegL.one (by unfold DrawOK; kernel_rfl) ?_
      simp only [c2, c3, cel_ints, ints_length, ty2, T2, ty43, T43, ints_length, Int.natCast_nonneg, Int.ofNat_lt, Kdr_go, Qseq_normal, aregL_nil, adrawL_nil, adrawL_plain, awpL_cond, qop_move, qop_load, qop_binOp, qop_indexAddr, ev, putT, abin, aint, rowPtr, aidx, aload, rdRow, ldK, kd, esz, isEff, qpre, qtail, List.getD_cons_zero, List.getD_cons_succ, List.set_cons_zero, List.set_cons_succ, Nat.reduceLT, true_and, Int.toNat_natCast]
      refine Kbr.mk (fun c => ?_) (fun c => ?_)
      · have c4 : a.getD i 0 > b.getD i 0 := by simpa using c
        simp only [Qloop_ret, Kreg_go, Qseq_normal, Qseq_ret, Qblk_ret, aret_ret, aregL_nil, aregL_plain, awpL_region, awpL_seq, awpL_ret, aop_assign, ev, cst, putT, List.set_cons_zero, List.set_cons_succ]
        refine WK.now ?_
        simp only [Tryd.results57, Kcons_go, Kone_go, Kfin_go, aresL_nil, aresL_tmp, allDefr_nil, offs_nil, one?, List.getD_cons_zero, List.getD_cons_succ, true_and, List.toList_toArray]
        rw [B_false (fun h => by have := h.2 i c2; omega)]
      · have c4 : ¬ a.getD i 0 > b.getD i 0 := by simpa using c
        simp only [succ64 c2 (Nat.le_trans ha (by omega)), ty3, T3, Qloop_normal, Kat_go, Kreg_go, Qseq_normal, Qblk_normal, aregL_nil, aregL_plain, awpL_skip, awpL_region, aop_move, aop_assign, aop_binOp, ev, cst, putT, aopBin, isSl, abin, aint, kd, List.getD_cons_zero, List.getD_cons_succ, List.set_cons_zero, List.set_cons_succ, true_and]
        refine ⟨a.length - (i + 1), by omega, WK.fgt (t' := [.d (.slice 1 (ints a)), .d (.slice 1 (ints b)), .dead, .dead, .d (.bool false), .d (.int .i64 (i + 1 : Nat)), .dead, .dead, .dead, .dead, .dead, .dead, .dead, .dead, .dead, .dead, .dead, .dead, .dead, .dead, .dead, .dead, .dead, .dead, .dead, .dead, .dead, .dead, .dead, .dead, .dead, .dead]) (by simp [fgt]) (WK.now ⟨i + 1, rfl, by omega, by omega, fun j hj => ?_, rfl, rfl, rfl⟩)⟩
        rcases Nat.lt_succ_iff_lt_or_eq.1 hj with hj | rfl
        · exact hp j hj
        · omega
    · have c3 : ¬ i < b.length := by simpa using c
      simp only [ints_length, ty3, T3, ty43, T43, Qloop_exit, ints_length, Kat_go, Kreg_go, Qseq_normal, Qseq_exit, Qblk_exit, aret_ret, aregL_nil, aregL_plain, awpL_region, awpL_seq, awpL_exit, awpL_ret, aop_move, aop_assign, aop_binOp, aop_len, apureCall, ev, putT, aopBin, isSl, abin, aint, rowLen, alen, kd, List.getD_cons_zero, List.getD_cons_succ, List.set_cons_zero, List.set_cons_succ, true_and, if_true]
      refine WK.now ?_
      simp only [Tryd.results57, Kcons_go, Kone_go, Kfin_go, aresL_nil, aresL_tmp, allDefr_nil, offs_nil, one?, List.getD_cons_zero, List.getD_cons_succ, true_and, List.toList_toArray]
      rw [← fin (by omega), beq_nat]
  · have c2 : ¬ i < a.length := by simpa using c
    simp only [ints_length, ty3, T3, ty43, T43, Qloop_exit, ints_length, Kat_go, Kreg_go, Qseq_normal, Qseq_exit, Qblk_exit, Kbr_false, Vbr_false, Kno_go, aret_ret, aregL_nil, aregL_plain, aregL_guard, awpL_region, awpL_seq, awpL_cond, awpL_exit, awpL_ret, aop_move, aop_assign, aop_pick, aop_binOp, aop_len, apureCall, ev, cst, putT, gval, aopBin, isSl, abin, aint, rowLen, alen, kd, List.getD_cons_zero, List.getD_cons_succ, List.set_cons_zero, List.set_cons_succ, List.getElem?_cons_zero, List.getElem?_cons_succ, Bool.not_true, true_and, if_true, Bool.false_beq]
    refine WK.now ?_
    simp only [Tryd.results57, Kcons_go, Kone_go, Kfin_go, aresL_nil, aresL_tmp, allDefr_nil, offs_nil, one?, List.getD_cons_zero, List.getD_cons_succ, true_and, List.toList_toArray]
    rw [← fin (by omega), beq_nat]
theorem rsame_ok (a b : List Int) (ha : Sz a) (hb : Sz b) : PCall env 29 [sl a, sl b] (.bool (B (a = b))) := by
  refine acalls_of envOk Tryd.func29 rfl (by kernel_rfl) (m := 11) rfl ?_
  simp only [ext57, sl, Kreg_go, Qseq_normal, aregL_nil, aregL_plain, awpL_region, awpL_seq, aop_move, aop_assign, aop_call, acallF_go, ev, cst, putT, List.getD_cons_zero, List.getD_cons_succ, List.set_cons_zero, List.set_cons_succ, List.length_nil, List.map_cons, List.map_nil, List.cons_append, List.nil_append, List.append_nil, List.reduceReplicate]
  refine (rfits_ok a b ha).go (by first | exact ⟨.inl rfl, trivial⟩ | exact ⟨.inl rfl, .inl rfl, trivial⟩ | exact ⟨.inl rfl, .inl rfl, .inl rfl, trivial⟩ | simp [argsOk, argOk, sl, sll]) (WK.now ?_)
  have e : B (a = b) = (B (FitsP a b) && B (FitsP b a)) := by
    by_cases h : a = b
    · subst h
      rw [B_true rfl, B_true (show FitsP a a from ⟨rfl, fun k _ => Int.le_refl _⟩)]
      rfl
    · rw [B_false h]
      by_cases h1 : FitsP a b
      · rw [B_true h1, B_false]; rfl
        intro h2
        refine h (List.ext_getElem h1.1 fun j g1 g2 => ?_)
        have k1 := h1.2 j g1
        have k2 := h2.2 j g2
        simp [List.getD_eq_getElem?_getD, g1, g2] at k1 k2
        omega
      · rw [B_false h1]; rfl
  rw [e]
  cases hf : B (FitsP a b) with
  | false =>
    simp only [Kat_go, Kreg_go, Qseq_normal, Kbr_false, Vbr_false, Kno_go, aret_ret, aregL_nil, aregL_plain, aregL_guard, awpL_ret, aop_move, aop_assign, aop_pick, ev, cst, putT, gval, List.getD_cons_zero, List.getD_cons_succ, List.set_cons_zero, List.set_cons_succ, List.getElem?_cons_zero, List.getElem?_cons_succ, Bool.false_and, Bool.not_true, Bool.false_beq]
    refine WK.now ?_
    simp only [Tryd.results29, Kcons_go, Kone_go, Kfin_go, aresL_nil, aresL_tmp, allDefr_nil, offs_nil, one?, List.getD_cons_zero, List.getD_cons_succ, and_self, List.toList_toArray]
  | true =>
    simp only [ext57, Kreg_go, Kbr_true, Kgo_go, aregL_plain, aregL_guard, aop_move, aop_call, acallF_go, ev, putT, gval, List.getD_cons_zero, List.getD_cons_succ, List.set_cons_zero, List.set_cons_succ, List.getElem?_cons_zero, List.getElem?_cons_succ, List.map_cons, List.map_nil, List.append_nil, Bool.true_and, Bool.not_true, beq_self_eq_true]
    refine (rfits_ok b a hb).go (by first | exact ⟨.inl rfl, trivial⟩ | exact ⟨.inl rfl, .inl rfl, trivial⟩ | exact ⟨.inl rfl, .inl rfl, .inl rfl, trivial⟩ | simp [argsOk, argOk, sl, sll]) (WK.now ?_)
    simp only [Kat_go, Kreg_go, Qseq_normal, Vbr_true, aret_ret, aregL_nil, aregL_plain, awpL_ret, aop_assign, aop_pick, ev, cst, putT, List.getD_cons_zero, List.getD_cons_succ, List.set_cons_zero, List.set_cons_succ]
    refine WK.now ?_
    simp only [Tryd.results29, Kcons_go, Kone_go, Kfin_go, aresL_nil, aresL_tmp, allDefr_nil, offs_nil, one?, List.getD_cons_zero, List.getD_cons_succ, and_self, List.toList_toArray]

abbrev ck (c : Cls) : Int := c.1
theorem kv_find {l : List Cls} {k : Int} {i : Nat} (h : i < l.length) (he : (l.getD i (0, 0, false)).1 = k) (hp : ∀ j, j < i → (l.getD j (0, 0, false)).1 ≠ k) : rfind (kv ck l) k = i := by
  unfold rfind
  have : (kv ck l).findIdx? (fun p => k == p.1) = some i := by
    rw [List.findIdx?_eq_some_iff_getElem]
    refine ⟨by rw [kv_length]; exact h, ?_, fun j hj => ?_⟩
    · simp [kv]
      simpa [List.getD_eq_getElem?_getD, h] using he.symm
    · have := hp j hj
      simp [kv]
      intro e
      exact this (by simpa [List.getD_eq_getElem?_getD, show j < l.length by omega] using e.symm)
  rw [this]
theorem kv_nofind {l : List Cls} {k : Int} (hp : ∀ j, j < l.length → (l.getD j (0, 0, false)).1 ≠ k) : rfind (kv ck l) k = -1 := by
  unfold rfind
  have : (kv ck l).findIdx? (fun p => k == p.1) = none := by
    rw [List.findIdx?_eq_none_iff]
    intro p hpm
    obtain ⟨c, hc, rfl⟩ := List.mem_map.1 hpm
    obtain ⟨j, hj⟩ := List.mem_iff_getElem?.1 hc
    have hlt := (List.getElem?_eq_some_iff.1 hj).1
    have := hp j hlt
    simp only [List.getD_eq_getElem?_getD, hj, Option.getD_some] at this
    simpa using fun e => this e.symm
  rw [this]
theorem find_ok (l : List Cls) (k : Int) (hl : Sz l) : PCall env 18 [.slice 3 (cls l), .int .i64 k] (.int .i64 (rfind (kv ck l) k)) := by
  refine acalls_of envOk Tryd.func18 rfl (by kernel_rfl) (m := 18) rfl ?_
  simp only [Kreg_go, Qseq_normal, aregL_nil, aregL_plain, awpL_region, awpL_seq, awpL_block, awpL_loop, aop_assign, ev, cst, putT, List.set_cons_zero, List.set_cons_succ, List.length_nil, List.map_cons, List.map_nil, List.cons_append, List.nil_append, List.reduceReplicate, Int.reduceNeg]
  refine ALoop.mk (fun n t H ds => ∃ i : Nat, n = l.length - i ∧ i ≤ l.length ∧ (∀ j, j < i → (l.getD j (0, 0, false)).1 ≠ k) ∧ t = [.d (.slice 3 (cls l)), .d (.int .i64 k), .dead, .dead, .d (.int .i64 0), .d (.int .i64 (i : Nat)), .dead, .dead, .dead, .dead, .dead, .dead, .dead, .dead, .dead, .dead, .dead, .dead, .dead, .dead] ∧ H = [] ∧ ds = []) l.length
    (WK.fgt (t' := [.d (.slice 3 (cls l)), .d (.int .i64 k), .dead, .dead, .d (.int .i64 0), .d (.int .i64 (0 : Nat)), .dead, .dead, .dead, .dead, .dead, .dead, .dead, .dead, .dead, .dead, .dead, .dead, .dead, .dead]) (by simp [fgt]) (WK.now ⟨0, by omega, by omega, by omega, rfl, rfl, rfl⟩)) ?_
  rintro n t H ds ⟨i, rfl, hi, hp, rfl, rfl, rfl⟩
  simp only [cls_length, ty3, T3, ty22, T22, Int.ofNat_lt, Kat_go, Kreg_go, Qseq_normal, aregL_nil, aregL_plain, awpL_region, awpL_seq, awpL_cond, aop_move, aop_binOp, aop_len, apureCall, ev, putT, aopBin, isSl, abin, aint, rowLen, alen, kd, List.getD_cons_zero, List.getD_cons_succ, List.set_cons_zero, List.set_cons_succ, true_and, ne_eq, Int.reduceNeg]
  refine Kbr.mk (fun c => ?_) (fun c => ?_)
  · have c2 : i < l.length := by simpa using c
    simp only [c2, cel_cls0, cls_length, ty3, T3, ty22, T22, ty30, T30, Int.natCast_nonneg, Int.ofNat_lt, Kat_go, Kreg_go, Qseq_normal, aregL_nil, aregL_plain, awpL_skip, awpL_region, awpL_seq, awpL_cond, awpL_block, aop_move, aop_load, aop_binOp, aop_fieldAddr, aop_indexAddr, ev, putT, aopBin, isSl, abin, aint, rowPtr, aidx, fld, afldAddr, aload, rdRow, ldK, kd, esz, List.getD_cons_zero, List.getD_cons_succ, List.set_cons_zero, List.set_cons_succ, List.getElem?_cons_zero, Nat.reduceLT, true_and, reduceCtorEq, ne_eq, not_false_eq_true, Nat.add_zero, Int.toNat_natCast, Int.reduceNeg, decide_true]
    refine Kbr.mk (fun c => ?_) (fun c => ?_)
    · have c3 : (l.getD i (0, 0, false)).1 = k := by simpa using c
      simp only [Qloop_ret, Kreg_go, Qseq_normal, Qseq_ret, Qblk_ret, aret_ret, aregL_nil, aregL_plain, awpL_region, awpL_seq, awpL_ret, aop_move, aop_assign, ev, putT, List.getD_cons_zero, List.getD_cons_succ, List.set_cons_zero, List.set_cons_succ, Int.reduceNeg]
      refine WK.now ?_
      simp only [kv_find c2 c3 hp, Tryd.results18, Kcons_go, Kone_go, Kfin_go, aresL_nil, aresL_tmp, allDefr_nil, offs_nil, one?, List.getD_cons_zero, List.getD_cons_succ, and_self, List.toList_toArray]
    · have c3 : (l.getD i (0, 0, false)).1 ≠ k := by simpa using c
      simp only [succ64 c2 (Nat.le_trans hl (by omega)), ty3, T3, Qloop_normal, Kat_go, Kreg_go, Qseq_normal, Qblk_normal, aregL_nil, aregL_plain, awpL_skip, awpL_region, aop_move, aop_assign, aop_binOp, ev, cst, putT, aopBin, isSl, abin, aint, kd, List.getD_cons_zero, List.getD_cons_succ, List.set_cons_zero, List.set_cons_succ, true_and, Int.reduceNeg]
      refine ⟨l.length - (i + 1), by omega, WK.fgt (t' := [.d (.slice 3 (cls l)), .d (.int .i64 k), .dead, .dead, .d (.int .i64 0), .d (.int .i64 (i + 1 : Nat)), .dead, .dead, .dead, .dead, .dead, .dead, .dead, .dead, .dead, .dead, .dead, .dead, .dead, .dead]) (by simp [fgt]) (WK.now ⟨i + 1, rfl, by omega, fun j hj => ?_, rfl, rfl, rfl⟩)⟩
      rcases Nat.lt_succ_iff_lt_or_eq.1 hj with hj | rfl
      · exact hp j hj
      · exact c3
  · have c2 : ¬ i < l.length := by simpa using c
    simp only [Qloop_exit, Kreg_go, Qseq_normal, Qseq_exit, Qblk_exit, aret_ret, aregL_nil, aregL_plain, awpL_region, awpL_seq, awpL_exit, awpL_ret, aop_assign, ev, cst, putT, List.set_cons_zero, List.set_cons_succ, if_true, Int.reduceNeg]
    refine WK.now ?_
    simp only [kv_nofind (fun j hj => hp j (by omega)), Tryd.results18, Kcons_go, Kone_go, Kfin_go, aresL_nil, aresL_tmp, allDefr_nil, offs_nil, one?, List.getD_cons_zero, List.getD_cons_succ, Int.reduceNeg, and_self, List.toList_toArray]
end Go.Proofs.YtjljjakfebfpfaaDoor
