/-
  The walks of the reference implementation's other changes, and of the look whether a row is sorted.
-/
import Derived.Test.YtdmdjiaocbccpaaDoorT5
set_option autoImplicit false
set_option linter.unusedVariables false
set_option linter.unusedSimpArgs false
namespace Go.Proofs.YtdmdjiaocbccpaaDoor
open Go.Abs

theorem upd_prs {l : List (Int × Int)} {i : Nat} {a b : Int} (h : i < l.length) : updN (prs l) i 0 [.int .i64 a, .int .i64 b] = prs (l.set i (a, b)) := by
  unfold updN
  rw [prs_get h]
  simp [prs, pr, splice, List.map_set]
def rsetE (l : List (Int × Int)) (k : Int) : Int := match l.findIdx? (fun p => k == p.1) with
  | some _ => 0
  | none => 5
def rsetL (l : List (Int × Int)) (k v : Int) : List (Int × Int) := match l.findIdx? (fun p => k == p.1) with
  | some i => l.set i (k, v)
  | none => l
theorem rset_ok (l : List (Int × Int)) (a b : Int) (hl : Sz l) : PCall env 31 [spr l, .agg [.int .i64 a, .int .i64 b]] (.tup [spr (rsetL l a b), .int .i64 (rsetE l a)]) := by
  refine acalls_of envOk Tryd.func31 rfl (by kernel_rfl) (m := 21) rfl ?_
  simp only [ty3, T3, ty41, T41, ext24, Kat_go, Kreg_go, Qseq_normal, aregL_nil, aregL_plain, awpL_region, awpL_seq, aop_move, aop_assign, aop_load, aop_fieldAddr, aop_box, aop_call, acallF_go, ev, cst, putT, fld, afldAddr, aload, ldK, kd, esz, AV.cells, D.cells, abox, List.getD_cons_zero, List.getD_cons_succ, List.set_cons_zero, List.set_cons_succ, List.getElem?_cons_zero, List.length_nil, List.map_cons, List.map_nil, List.cons_append, List.nil_append, List.append_nil, List.reduceReplicate, true_and, reduceCtorEq, ne_eq, not_false_eq_true, Nat.add_zero]
  refine (find_ok l a hl).go (by first | exact ⟨.inl rfl, trivial⟩ | exact ⟨.inl rfl, .inl rfl, trivial⟩ | exact ⟨.inl rfl, .inl rfl, .inl rfl, trivial⟩ | simp [argsOk, argOk, sl, sll]) (WK.now ?_)
  unfold rfind rsetE rsetL
  cases hf : l.findIdx? (fun p => a == p.1) with
  | none =>
    simp only [Kat_go, Kreg_go, Qseq_normal, Qseq_ret, Kbr_true, aret_ret, aregL_nil, aregL_plain, awpL_region, awpL_seq, awpL_cond, awpL_ret, aop_move, aop_assign, aop_binOp, ev, cst, putT, abin, aint, List.getD_cons_zero, List.getD_cons_succ, List.set_cons_zero, List.set_cons_succ, true_and, Int.reduceLT, Int.reduceNeg, decide_true]
    refine WK.now ?_
    simp only [Tryd.results31, Kcons_go, Kone_go, Kfin_go, aresL_nil, aresL_tmp, allDefr_nil, offs_nil, mkTup, allD, one?, List.getD_cons_zero, List.getD_cons_succ, Int.reduceNeg, and_self, List.toList_toArray]
  | some i =>
    have hi : i < l.length := (List.findIdx?_eq_some_iff_getElem.1 hf).1
    simp only [spr, Kat_go, Kreg_go, Qseq_normal, aregL_nil, aregL_plain, awpL_region, awpL_seq, awpL_cond, aop_move, aop_assign, aop_binOp, ev, cst, putT, abin, aint, List.getD_cons_zero, List.getD_cons_succ, List.set_cons_zero, List.set_cons_succ, true_and]
    refine Kbr.mk (fun c => absurd (of_decide_eq_true c) (by omega)) (fun c => ?_)
    simp only [prs_length, ty41, T41, ty37, T37, Int.natCast_nonneg, Int.ofNat_lt, Kat_go, Kst_go, Kreg_go, Qseq_normal, Kapp_svalf, aret_ret, aregL_nil, aregL_plain, awpL_skip, awpL_region, awpL_seq, awpL_ret, aop_move, aop_assign, aop_load, aop_indexAddr, aop_store, aop_buildSlice, aop_append, aapp_go, ev, cst, putT, rowPtr, aidx, aload, ldK, kd, esz, afill, D.cells, mkAgg, allD, astore, abuildS, rep, chunk, srcRows, List.getD_cons_zero, List.getD_cons_succ, List.set_cons_zero, List.set_cons_succ, List.length_cons, List.length_nil, List.map_nil, List.cons_append, List.nil_append, List.take_succ_cons, List.take_nil, List.drop_zero, Nat.reduceAdd, Nat.reduceLeDiff, true_and, reduceCtorEq, ne_eq, not_false_eq_true, Nat.zero_add, Int.toNat_natCast, Nat.zero_mul]
    refine ⟨.inr trivial, room_of (by unfold Sz at hl; omega) (by omega), ?_⟩
    simp only [hi, upd_prs hi, true_and]
    refine WK.frz 1 rfl (WK.now ?_)
    simp only [Tryd.results31, AV.frzL, AV.frz, AObj.frz, Kcons_go, Kone_go, Kfin_go, aresL_nil, aresL_tmp, allDefr_nil, offs_nil, mkTup, allD, one?, List.getD_cons_zero, List.getD_cons_succ, List.set_cons_zero, List.set_cons_succ, List.map_cons, List.map_nil, if_true, and_self, List.toList_toArray]

def rdel (l : List (Int × Int)) (k : Int) : List (Int × Int) := l.filter fun p => p.1 != k
theorem rdel_ok (l : List (Int × Int)) (k : Int) (hl : Sz l) : PCall env 32 [spr l, .int .i64 k] (spr (rdel l k)) := by
  unfold spr
  refine acalls_of envOk Tryd.func32 rfl (by kernel_rfl) (m := 26) rfl ?_
  simp only [Kreg_go, Qseq_normal, aregL_nil, aregL_plain, awpL_region, awpL_seq, awpL_block, awpL_loop, aop_assign, ev, cst, putT, List.set_cons_zero, List.set_cons_succ, List.length_nil, List.map_cons, List.map_nil, List.cons_append, List.nil_append, List.reduceReplicate]
  refine ALoop.mk (fun n t H ds => ∃ i : Nat, n = l.length - i ∧ i ≤ l.length ∧ t = [.d (.slice 2 (prs l)), .d (.int .i64 k), .dead, .dead, .d .nils, .sfull 0, .d (.int .i64 (i : Nat)), .dead, .dead, .dead, .dead, .dead, .dead, .dead, .dead, .dead, .dead, .dead, .dead, .dead, .dead, .dead, .dead, .dead, .dead, .dead, .dead, .dead] ∧ H = [.arr 41 2 (prs (rdel (l.take i) k))] ∧ ds = []) l.length
      (WK.nil 5 41 2 rfl (WK.fgt (t' := [.d (.slice 2 (prs l)), .d (.int .i64 k), .dead, .dead, .d .nils, .sfull 0, .d (.int .i64 (0 : Nat)), .dead, .dead, .dead, .dead, .dead, .dead, .dead, .dead, .dead, .dead, .dead, .dead, .dead, .dead, .dead, .dead, .dead, .dead, .dead, .dead, .dead]) (by simp [fgt]) (WK.now ⟨0, by omega, by omega, rfl, by simp [prs, rdel], rfl⟩))) ?_
  rintro n t H ds ⟨i, rfl, hi, rfl, rfl, rfl⟩
  simp only [prs_length, ty37, T37, Int.ofNat_lt, Kat_go, Kreg_go, Qseq_normal, aregL_nil, aregL_plain, awpL_region, awpL_seq, awpL_cond, aop_move, aop_binOp, aop_len, apureCall, ev, putT, abin, aint, rowLen, alen, kd, List.getD_cons_zero, List.getD_cons_succ, List.set_cons_zero, List.set_cons_succ, true_and]
  have hrl : (rdel (l.take i) k).length ≤ l.length := Nat.le_trans (List.length_filter_le _ _) (by simp; omega)
  refine Kbr.mk (fun c => ?_) (fun c => ?_)
  · have c2 : i < l.length := by simpa using c
    have ht : l.take (i + 1) = l.take i ++ [l.getD i (0, 0)] := by
      rw [List.take_add_one]
      simp [List.getD_eq_getElem?_getD, c2]
    simp only [c2, cel_prs0, prs_length, ty3, T3, ty41, T41, ty37, T37, Int.natCast_nonneg, Int.ofNat_lt, Kat_go, Kreg_go, Qseq_normal, aregL_nil, aregL_plain, awpL_skip, awpL_region, awpL_seq, awpL_cond, awpL_block, aop_move, aop_load, aop_binOp, aop_fieldAddr, aop_indexAddr, ev, putT, abin, aint, rowPtr, aidx, fld, afldAddr, aload, rdRow, ldK, kd, esz, List.getD_cons_zero, List.getD_cons_succ, List.set_cons_zero, List.set_cons_succ, List.getElem?_cons_zero, Nat.reduceLT, true_and, reduceCtorEq, ne_eq, not_false_eq_true, Nat.add_zero, Int.toNat_natCast, decide_true]
    refine Kbr.mk (fun c => ?_) (fun c => ?_)
    · have c4 : (l.getD i (0, 0)).1 ≠ k := by simpa using c
      simp only [c2, seg_prs, succ64 c2 (Nat.le_trans hl (by omega)), prs_length, ty41, T41, ty37, T37, Qloop_normal, Int.natCast_nonneg, Int.ofNat_lt, Kat_go, Kreg_go, Qseq_normal, Qblk_normal, Kapp_sfull, aregL_nil, aregL_plain, awpL_region, aop_move, aop_assign, aop_load, aop_binOp, aop_indexAddr, aop_buildSlice, aop_append, aapp_go, ev, cst, putT, abin, aint, rowPtr, aidx, aload, rdRow, ldK, kd, esz, afill, splice, AV.cells, D.cells, allD, abuildS, AV.low, rep, chunk, srcRows, List.getD_cons_zero, List.getD_cons_succ, List.set_cons_zero, List.set_cons_succ, List.length_cons, List.length_nil, List.map_cons, List.map_nil, List.cons_append, List.nil_append, List.append_nil, List.take_succ_cons, List.take_zero, List.take_nil, List.drop_succ_cons, List.drop_nil, Nat.reduceAdd, Nat.reduceLeDiff, true_and, if_true, reduceCtorEq, ne_eq, not_false_eq_true, Nat.zero_add, Int.toNat_natCast, Nat.zero_mul, Nat.one_mul, and_self]
      refine ⟨room_of (by unfold Sz at hl; simp [prs_length]; omega) (by omega), l.length - (i + 1), by omega, WK.pick [1] (t' := [.d (.slice 2 (prs l)), .d (.int .i64 k), .dead, .dead, .d .nils, .sfull 0, .d (.int .i64 (i + 1 : Nat)), .dead, .dead, .dead, .dead, .dead, .dead, .dead, .dead, .dead, .dead, .dead, .dead, .dead, .dead, .dead, .dead, .dead, .dead, .dead, .dead, .dead]) (H' := [.arr 41 2 (prs (rdel (l.take i) k) ++ [[D.int .i64 (l.getD i (0, 0)).1, D.int .i64 (l.getD i (0, 0)).2]])]) (by simp [sbl, ren_arr, bel_arr]) (by simp) (by simp) (by simp [tellL, AV.ren, AV.bel, rn]) (fun id h => absurd h (by omega)) (WK.now ⟨i + 1, rfl, by omega, rfl, ?_, rfl⟩)⟩
      rw [ht, prs_one, prs_app]
      have : rdel (l.take i ++ [l.getD i (0, 0)]) k = rdel (l.take i) k ++ [l.getD i (0, 0)] := by
        unfold rdel
        rw [List.filter_append]
        simp only [List.filter_cons, List.filter_nil]
        rw [if_pos (by simpa using c4)]
      rw [this]
    · have c4 : (l.getD i (0, 0)).1 = k := by simpa using c
      simp only [succ64 c2 (Nat.le_trans hl (by omega)), Qloop_normal, Kat_go, Kreg_go, Qseq_normal, Qblk_normal, aregL_nil, aregL_plain, awpL_skip, awpL_region, aop_move, aop_assign, aop_binOp, ev, cst, putT, abin, aint, List.getD_cons_zero, List.getD_cons_succ, List.set_cons_zero, List.set_cons_succ, true_and]
      refine ⟨l.length - (i + 1), by omega, WK.fgt (t' := [.d (.slice 2 (prs l)), .d (.int .i64 k), .dead, .dead, .d .nils, .sfull 0, .d (.int .i64 (i + 1 : Nat)), .dead, .dead, .dead, .dead, .dead, .dead, .dead, .dead, .dead, .dead, .dead, .dead, .dead, .dead, .dead, .dead, .dead, .dead, .dead, .dead, .dead]) (by simp [fgt]) (WK.now ⟨i + 1, rfl, by omega, rfl, ?_, rfl⟩)⟩
      have : rdel (l.take i ++ [l.getD i (0, 0)]) k = rdel (l.take i) k := by
        unfold rdel
        rw [List.filter_append]
        simp only [List.filter_cons, List.filter_nil]
        rw [if_neg (by simpa using c4)]
        simp
      rw [ht, this]
  · have c2 : i = l.length := by have : ¬ i < l.length := by simpa using c
                                 omega
    simp only [Qloop_exit, Kreg_go, Qseq_normal, Qseq_exit, Qblk_exit, aret_ret, aregL_nil, aregL_plain, awpL_region, awpL_seq, awpL_exit, awpL_ret, aop_move, aop_assign, ev, putT, List.getD_cons_zero, List.getD_cons_succ, List.set_cons_zero, List.set_cons_succ, if_true]
    refine WK.frz 0 rfl (WK.now ?_)
    simp only [Tryd.results32, AV.frzL, AV.frz, AObj.frz, Kcons_go, Kone_go, Kfin_go, aresL_nil, aresL_tmp, allDefr_nil, offs_nil, one?, List.getD_cons_zero, List.getD_cons_succ, List.set_cons_zero, List.map_cons, List.map_nil, true_and, if_true, List.toList_toArray]
    subst c2
    rw [List.take_length]

theorem sorted_ok (l : List Int) (hl : Sz l) (hs : ∀ i, i + 1 < l.length → l.getD i 0 ≤ l.getD (i + 1) 0) : PCall env 26 [sl l] (.bool true) := by
  unfold sl
  refine acalls_of envOk Tryd.func26 rfl (by kernel_rfl) (m := 20) rfl ?_
  unfold Sz at hl
  simp only [wrapi (show -9223372036854775808 ≤ (l.length : Int) - 1 by omega) (show (l.length : Int) - 1 ≤ 9223372036854775807 by omega), ty45, T45, ints_length, Kat_go, Kreg_go, Qseq_normal, aregL_nil, aregL_plain, awpL_region, awpL_seq, awpL_block, awpL_loop, aop_move, aop_assign, aop_binOp, aop_len, apureCall, ev, cst, putT, abin, aint, rowLen, alen, kd, List.getD_cons_zero, List.getD_cons_succ, List.set_cons_zero, List.set_cons_succ, List.length_nil, List.map_cons, List.map_nil, List.cons_append, List.nil_append, List.reduceReplicate, true_and]
  refine ALoop.mk (fun n t H ds => ∃ i : Int, n = i.toNat ∧ -1 ≤ i ∧ i + 1 ≤ l.length ∧ t = [.d (.slice 1 (ints l)), .dead, .d (.bool false), .d (.int .i64 (i)), .dead, .dead, .dead, .dead, .dead, .dead, .dead, .dead, .dead, .dead, .dead, .dead, .dead, .dead, .dead, .dead, .dead] ∧ H = [] ∧ ds = []) (((l.length : Int) - 1).toNat)
      (WK.fgt (t' := [.d (.slice 1 (ints l)), .dead, .d (.bool false), .d (.int .i64 ((l.length : Int) - 1)), .dead, .dead, .dead, .dead, .dead, .dead, .dead, .dead, .dead, .dead, .dead, .dead, .dead, .dead, .dead, .dead, .dead]) (by simp [fgt]) (WK.now ⟨(l.length : Int) - 1, rfl, by omega, by omega, rfl, rfl, rfl⟩)) ?_
  rintro n t H ds ⟨i, rfl, hi, hi2, rfl, rfl, rfl⟩
  simp only [Kat_go, Kreg_go, Qseq_normal, aregL_nil, aregL_plain, awpL_region, awpL_seq, awpL_cond, aop_move, aop_binOp, ev, cst, putT, abin, aint, List.getD_cons_zero, List.getD_cons_succ, List.set_cons_zero, List.set_cons_succ, true_and, Int.reduceNeg]
  refine Kbr.mk (fun c => ?_) (fun c => ?_)
  · have c2 : 0 < i := by simpa using c
    have w1 := wrapi (show -9223372036854775808 ≤ i - 1 by omega) (show i - 1 ≤ 9223372036854775807 by omega)
    obtain ⟨j, rfl⟩ : ∃ j : Nat, i = (j + 1 : Nat) := ⟨(i - 1).toNat, by omega⟩
    have e1 : (((j + 1 : Nat) : Int) - 1) = (j : Int) := by omega
    rw [e1] at w1
    have hj : j + 1 < l.length := by omega
    have hj0 : j < l.length := by omega
    simp only [Qseq_normal, awpL_skip, awpL_draw, awpL_seq, awpL_block, Int.toNat_natCast, Int.reduceNeg]
    refine DRegL.one (by unfold DrawOK; kernel_rfl) ?_
    simp only [e1, w1, hj, hj0, cel_ints, ty3, T3, ty45, T45, ext36, ints_length, Int.natCast_nonneg, Int.ofNat_lt, Kdr_go, adrawL_plain, qop_move, qop_load, qop_binOp, qop_indexAddr, qop_call, qcallF_go, ev, cst, putT, abin, aint, rowPtr, aidx, aload, rdRow, ldK, kd, esz, isEff, qpre, qtail, List.getD_cons_zero, List.getD_cons_succ, List.set_cons_zero, List.set_cons_succ, List.map_cons, List.map_nil, List.append_nil, Nat.reduceLT, true_and, Int.toNat_natCast, Int.reduceNeg]
    refine (less_ok _ _).quiet' (by first | exact ⟨.inl rfl, trivial⟩ | exact ⟨.inl rfl, .inl rfl, trivial⟩ | exact ⟨.inl rfl, .inl rfl, .inl rfl, trivial⟩ | simp [argsOk, argOk, sl, sll]) ?_
    simp only [show decide (l.getD (j + 1) 0 < l.getD j 0) = false from decide_eq_false (by have := hs j hj; omega), e1, w1, Qloop_normal, Kat_go, Kreg_go, Kdr_go, Qseq_normal, Qblk_normal, Kbr_false, aregL_nil, aregL_plain, adrawL_nil, awpL_skip, awpL_region, awpL_cond, aop_move, aop_assign, aop_binOp, ev, cst, putT, abin, aint, List.getD_cons_zero, List.getD_cons_succ, List.set_cons_zero, List.set_cons_succ, true_and, Int.reduceNeg]
    exact ⟨j, by omega, WK.fgt (t' := [.d (.slice 1 (ints l)), .dead, .d (.bool false), .d (.int .i64 ((j : Int))), .dead, .dead, .dead, .dead, .dead, .dead, .dead, .dead, .dead, .dead, .dead, .dead, .dead, .dead, .dead, .dead, .dead]) (by simp [fgt]) (WK.now ⟨j, by omega, by omega, by omega, rfl, rfl, rfl⟩)⟩
  · simp only [Qloop_exit, Kreg_go, Qseq_normal, Qseq_exit, Qblk_exit, aret_ret, aregL_nil, aregL_plain, awpL_region, awpL_seq, awpL_exit, awpL_ret, aop_assign, ev, cst, putT, List.set_cons_zero, List.set_cons_succ, if_true, Int.reduceNeg]
    refine WK.now ?_
    simp only [Tryd.results26, Kcons_go, Kone_go, Kfin_go, aresL_nil, aresL_tmp, allDefr_nil, offs_nil, one?, List.getD_cons_zero, List.getD_cons_succ, and_self, List.toList_toArray]
end Go.Proofs.YtdmdjiaocbccpaaDoor
