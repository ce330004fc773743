/-
  For any size and operations, the results and the ids are those of a list: the law's walk.
-/
import Derived.Test.YtdmdjiaocbccpaaDoorT9
set_option autoImplicit false
set_option linter.unusedVariables false
set_option linter.unusedSimpArgs false
namespace Go.Proofs.YtdmdjiaocbccpaaDoor
open Go.Abs

def opc (o : Int × Int × Int) : List D := [.int .i64 o.1, .int .i64 o.2.1, .int .i64 o.2.2]
def ops3 (l : List (Int × Int × Int)) : List (List D) := l.map opc
theorem ops_length (l : List (Int × Int × Int)) : (ops3 l).length = l.length := by simp [ops3]
theorem seg_ops {l : List (Int × Int × Int)} {i : Nat} (h : i < l.length) : seg (ops3 l) i 0 3 = [.int .i64 (l.getD i (0, 0, 0)).1, .int .i64 (l.getD i (0, 0, 0)).2.1, .int .i64 (l.getD i (0, 0, 0)).2.2] := by
  unfold seg
  have : (ops3 l).getD i [] = opc (l.getD i (0, 0, 0)) := by simp [ops3, List.getD_eq_getElem?_getD, h]
  rw [this]; rfl
theorem playW_length (sz : Int) (w : List (Int × Int)) (kind a b : Int) : (playW sz w kind a b).length ≤ w.length + 1 := by
  unfold playW
  split
  · unfold raddL
    split
    · omega
    · split
      · omega
      · have := (ins_perm w (a, b)).length_eq
        simp at this
        omega
  · split
    · unfold rsetL
      split <;> simp
    · split
      · have := List.length_filter_le (fun p : Int × Int => p.1 != a) w
        unfold rdel
        omega
      · omega

theorem law1 (size : Int) (l : List (Int × Int × Int)) (hs : -9223372036854775808 ≤ size ∧ size ≤ 9223372036854775807) : PCall env 4 [.int .i64 size, .slice 3 (ops3 l)] (.bool true) := by
  refine acalls_of envOk Tryd.func4 rfl (by kernel_rfl) (m := 70) rfl ?_
  simp only [ext14, Kreg_go, Qseq_normal, aregL_nil, aregL_plain, awpL_region, awpL_seq, aop_move, aop_assign, aop_call, acallF_go, ev, cst, putT, List.getD_cons_zero, List.getD_cons_succ, List.set_cons_zero, List.set_cons_succ, List.length_nil, List.map_cons, List.map_nil, List.cons_append, List.nil_append, List.append_nil, List.reduceReplicate]
  refine (newI_ok size).thus (WK.now ?_)
  simp only [ext9, Kreg_go, Qseq_normal, aregL_nil, aregL_plain, awpL_region, awpL_seq, aop_assign, aop_call, acallF_go, ev, putT, List.getD_cons_zero, List.getD_cons_succ, List.set_cons_zero, List.set_cons_succ, List.map_nil, List.append_nil]
  refine awake_ok.go ⟨⟩ (WK.now ?_)
  simp only [ops_length, ty35, T35, ty34, T34, Kat_go, Kreg_go, Qseq_normal, Kbr_true, Vbr_false, Kgo_go, aregL_nil, aregL_plain, aregL_guard, awpL_cond, aop_move, aop_pick, aop_binOp, aop_unOp, aop_len, apureCall, ev, cst, putT, gval, abin, aint, bEq, acmp, ptrish, aun, rowLen, alen, kd, List.getD_cons_zero, List.getD_cons_succ, List.set_cons_zero, List.set_cons_succ, List.getElem?_cons_zero, List.getElem?_cons_succ, Bool.not_true, Bool.not_false, beq_self_eq_true, true_and]
  refine Kbr.mk (fun c => ?_) (fun c => ?_)
  · simp only [ty35, T35, ext9, Kat_go, Kreg_go, Kbr_true, Kgo_go, aregL_plain, aregL_guard, awpL_region, awpL_seq, aop_move, aop_binOp, aop_call, acallF_go, ev, cst, putT, gval, abin, bEq, acmp, ptrish, kd, List.getD_cons_zero, List.getD_cons_succ, List.set_cons_zero, List.set_cons_succ, List.getElem?_cons_zero, List.getElem?_cons_succ, List.map_nil, List.append_nil, Bool.not_true, Bool.not_false, beq_self_eq_true]
    refine awake_ok.go ⟨⟩ (WK.now ?_)
    simp only [Kat_go, Kreg_go, Qseq_normal, Qseq_ret, Vbr_true, aret_ret, aregL_nil, aregL_plain, awpL_ret, aop_assign, aop_pick, ev, cst, putT, List.getD_cons_zero, List.getD_cons_succ, List.set_cons_zero, List.set_cons_succ]
    refine WK.now ?_
    simp only [Tryd.results4, Kcons_go, Kone_go, Kfin_go, aresL_nil, aresL_tmp, allDefr_nil, offs_nil, one?, List.getD_cons_zero, List.getD_cons_succ, and_self, List.toList_toArray]
  · have hl : l.length ≤ 100 := by have := of_decide_eq_false c; omega
    simp only [Kreg_go, Qseq_normal, aregL_nil, aregL_plain, awpL_skip, awpL_region, awpL_seq, awpL_block, awpL_loop, aop_assign, ev, cst, putT, List.set_cons_zero, List.set_cons_succ]
    refine ALoop.mk (fun n t H ds => ∃ (i : Nat) (L w : List (Int × Int)), n = l.length - i ∧ i ≤ l.length ∧ Rl (max size 0) L w ∧ w.length ≤ i ∧ t = [.d (.int .i64 size), .d (.slice 3 (ops3 l)), .dead, .dead, .d (.bool false), .pvar 1 0, .d (.slice 2 (prs (w))), .d (.bool true), .d (.int .i64 (i : Nat)), .dead, .dead, .dead, .dead, .dead, .dead, .dead, .dead, .dead, .dead, .dead, .dead, .dead, .dead, .dead, .dead, .dead, .dead, .dead, .dead, .dead, .dead, .dead, .dead, .dead, .dead, .dead, .dead, .dead, .dead, .dead, .dead, .dead, .dead, .dead, .dead, .dead, .dead, .dead, .dead, .dead, .dead, .dead, .dead, .dead, .dead, .dead, .dead, .dead, .dead, .dead, .dead, .dead, .dead, .dead, .dead, .dead, .dead, .dead, .dead, .dead, .dead, .dead] ∧ H = Tb fI (max size 0) L ∧ ds = []) l.length
      (WK.nild 6 2 rfl (WK.fgt (t' := [.d (.int .i64 size), .d (.slice 3 (ops3 l)), .dead, .dead, .d (.bool false), .pvar 1 0, .d (.slice 2 (prs ([]))), .d (.bool true), .d (.int .i64 (0 : Nat)), .dead, .dead, .dead, .dead, .dead, .dead, .dead, .dead, .dead, .dead, .dead, .dead, .dead, .dead, .dead, .dead, .dead, .dead, .dead, .dead, .dead, .dead, .dead, .dead, .dead, .dead, .dead, .dead, .dead, .dead, .dead, .dead, .dead, .dead, .dead, .dead, .dead, .dead, .dead, .dead, .dead, .dead, .dead, .dead, .dead, .dead, .dead, .dead, .dead, .dead, .dead, .dead, .dead, .dead, .dead, .dead, .dead, .dead, .dead, .dead, .dead, .dead, .dead]) (by simp [fgt, prs]) (WK.now ⟨0, [], [], by omega, by omega, Rl.empty (by omega), by simp, rfl, rfl, rfl⟩))) ?_
    rintro n t H ds ⟨i, L, w, rfl, hi, hR, hw, rfl, rfl, rfl⟩
    simp only [ops_length, ty34, T34, Int.ofNat_lt, Kat_go, Kreg_go, Qseq_normal, aregL_nil, aregL_plain, awpL_region, awpL_seq, awpL_cond, aop_move, aop_binOp, aop_len, apureCall, ev, putT, abin, aint, rowLen, alen, kd, List.getD_cons_zero, List.getD_cons_succ, List.set_cons_zero, List.set_cons_succ, true_and]
    refine Kbr.mk (fun c => ?_) (fun c => ?_)
    · have c2 : i < l.length := by simpa using c
      have hR' := hR.play (l.getD i (0, 0, 0)).1 (l.getD i (0, 0, 0)).2.1 (l.getD i (0, 0, 0)).2.2
      have hpl := playW_length (max size 0) w (l.getD i (0, 0, 0)).1 (l.getD i (0, 0, 0)).2.1 (l.getD i (0, 0, 0)).2.2
      simp only [c2, seg_ops, ops_length, ty43, T43, ty34, T34, ty43, T43, ext15, Int.natCast_nonneg, Int.ofNat_lt, Kat_go, Kreg_go, Qseq_normal, aregL_plain, awpL_skip, awpL_region, awpL_seq, awpL_block, aop_move, aop_load, aop_indexAddr, aop_max, aop_call, acallF_go, apureCall, ev, cst, putT, rowPtr, aidx, aload, rdRow, ldK, kd, esz, List.getD_cons_zero, List.getD_cons_succ, List.set_cons_zero, List.set_cons_succ, List.map_cons, List.map_nil, List.append_nil, Nat.reduceLeDiff, true_and, Nat.zero_add, Int.toNat_natCast, decide_true]
      refine (play_ok (max size 0) L w _ _ _ hR (by unfold Sz; omega) (by omega)).thus (WK.now ?_)
      generalize playW (max size 0) w (l.getD i (0, 0, 0)).1 (l.getD i (0, 0, 0)).2.1 (l.getD i (0, 0, 0)).2.2 = w' at *
      generalize playL (max size 0) L (l.getD i (0, 0, 0)).1 (l.getD i (0, 0, 0)).2.1 (l.getD i (0, 0, 0)).2.2 = L' at *
      have hl' := hR'.len
      simp only [ext17, Kat_go, Kreg_go, Qseq_normal, Kbr_true, Kgo_go, aregL_nil, aregL_plain, aregL_guard, awpL_region, awpL_seq, aop_move, aop_assign, aop_unOp, aop_extract, aop_call, acallF_go, ev, putT, gval, aun, aext, List.getD_cons_zero, List.getD_cons_succ, List.set_cons_zero, List.set_cons_succ, List.getElem?_cons_zero, List.getElem?_cons_succ, List.map_cons, List.map_nil, List.append_nil, Bool.not_true, Bool.not_false, beq_self_eq_true]
      refine (idsD_ok (max size 0) L' (by omega)).thus (WK.now ?_)
      simp only [ext18, sl, Kreg_go, Kbr_true, Kgo_go, aregL_guard, aop_move, aop_call, acallF_go, ev, putT, gval, List.getD_cons_zero, List.getD_cons_succ, List.set_cons_zero, List.set_cons_succ, List.getElem?_cons_zero, List.getElem?_cons_succ, List.map_cons, List.map_nil, List.append_nil, Bool.not_false, beq_self_eq_true]
      refine (rids_ok w' (by unfold Sz; omega)).go (by first | exact ⟨.inl rfl, trivial⟩ | exact ⟨.inl rfl, .inl rfl, trivial⟩ | exact ⟨.inl rfl, .inl rfl, .inl rfl, trivial⟩ | simp [argsOk, argOk, sl, sll]) (WK.now ?_)
      simp only [ext16, sl, Kbr_true, Kgo_go, aregL_guard, aop_call, acallF_go, ev, putT, gval, List.getD_cons_zero, List.getD_cons_succ, List.set_cons_zero, List.set_cons_succ, List.getElem?_cons_zero, List.getElem?_cons_succ, List.map_cons, List.map_nil, List.append_nil, Bool.not_false, beq_self_eq_true]
      refine (equal_ok (srt (L'.map (·.1))) (w'.map (·.1)) (by unfold Sz; simp [srt_length]; omega)).go (by first | exact ⟨.inl rfl, trivial⟩ | exact ⟨.inl rfl, .inl rfl, trivial⟩ | exact ⟨.inl rfl, .inl rfl, .inl rfl, trivial⟩ | simp [argsOk, argOk, sl, sll]) (WK.now ?_)
      simp only [B_true hR'.ids, ext19, Kat_go, Kreg_go, Kbr_true, Vbr_false, Kgo_go, aregL_plain, aregL_guard, aop_move, aop_pick, aop_unOp, aop_call, acallF_go, ev, cst, putT, gval, aun, List.getD_cons_zero, List.getD_cons_succ, List.set_cons_zero, List.set_cons_succ, List.getElem?_cons_zero, List.getElem?_cons_succ, List.map_cons, List.map_nil, List.append_nil, Bool.not_true, Bool.not_false, beq_self_eq_true]
      refine (lenI_ok (max size 0) L').thus (WK.now ?_)
      simp only [spr, hl', bne_self_eq_false, prs_length, ty37, T37, ext20, Kat_go, Kreg_go, Kbr_true, Vbr_false, Kgo_go, aregL_plain, aregL_guard, aop_move, aop_pick, aop_binOp, aop_len, aop_call, acallF_go, apureCall, ev, cst, putT, gval, abin, aint, rowLen, alen, kd, List.getD_cons_zero, List.getD_cons_succ, List.set_cons_zero, List.set_cons_succ, List.getElem?_cons_zero, List.getElem?_cons_succ, List.map_cons, List.map_nil, List.append_nil, Bool.not_false, beq_self_eq_true, bne_self_eq_false, true_and]
      refine (roomI_ok (max size 0) L' ⟨by omega, by omega, by omega⟩).thus (WK.now ?_)
      simp only [wrapi (show -9223372036854775808 ≤ max size 0 - (w'.length : Int) by omega) (show max size 0 - (w'.length : Int) ≤ 9223372036854775807 by omega), hl', bne_self_eq_false, succ64 c2 (show l.length ≤ 4611686018427387904 by omega), prs_length, ty37, T37, Qloop_normal, Kat_go, Kreg_go, Qseq_normal, Qblk_normal, Kbr_true, Kbr_false, Vbr_false, Kgo_go, aregL_nil, aregL_plain, aregL_guard, awpL_skip, awpL_region, awpL_cond, aop_move, aop_assign, aop_pick, aop_binOp, aop_len, aop_max, apureCall, ev, cst, putT, gval, abin, aint, rowLen, alen, kd, List.getD_cons_zero, List.getD_cons_succ, List.set_cons_zero, List.set_cons_succ, List.getElem?_cons_zero, List.getElem?_cons_succ, List.map_cons, List.map_nil, Bool.not_false, beq_self_eq_true, bne_self_eq_false, true_and]
      exact ⟨l.length - (i + 1), by omega, WK.fgt (t' := [.d (.int .i64 size), .d (.slice 3 (ops3 l)), .dead, .dead, .d (.bool false), .pvar 1 0, .d (.slice 2 (prs (w'))), .d (.bool true), .d (.int .i64 (i + 1 : Nat)), .dead, .dead, .dead, .dead, .dead, .dead, .dead, .dead, .dead, .dead, .dead, .dead, .dead, .dead, .dead, .dead, .dead, .dead, .dead, .dead, .dead, .dead, .dead, .dead, .dead, .dead, .dead, .dead, .dead, .dead, .dead, .dead, .dead, .dead, .dead, .dead, .dead, .dead, .dead, .dead, .dead, .dead, .dead, .dead, .dead, .dead, .dead, .dead, .dead, .dead, .dead, .dead, .dead, .dead, .dead, .dead, .dead, .dead, .dead, .dead, .dead, .dead, .dead]) (by simp [fgt]) (WK.now ⟨i + 1, L', w', rfl, by omega, hR', by omega, rfl, rfl, rfl⟩)⟩
    · simp only [Qloop_exit, Kreg_go, Qseq_normal, Qseq_exit, Qblk_exit, aret_ret, aregL_nil, aregL_plain, awpL_region, awpL_seq, awpL_exit, awpL_ret, aop_assign, ev, cst, putT, List.set_cons_zero, List.set_cons_succ, if_true]
      refine WK.now ?_
      simp only [Tryd.results4, Kcons_go, Kone_go, Kfin_go, aresL_nil, aresL_tmp, allDefr_nil, offs_nil, one?, List.getD_cons_zero, List.getD_cons_succ, and_self, List.toList_toArray]
end Go.Proofs.YtdmdjiaocbccpaaDoor
