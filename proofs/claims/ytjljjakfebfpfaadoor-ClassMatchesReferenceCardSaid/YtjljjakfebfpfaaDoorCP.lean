/-
  Pods: cloning a vector, the pod of an operation; the reference implementation's.
-/
import Derived.Test.YtjljjakfebfpfaaDoorCS
set_option autoImplicit false
set_option linter.unusedVariables false
set_option linter.unusedSimpArgs false
namespace Go.Proofs.YtjljjakfebfpfaaDoor
open Go.Abs

/-- The place of the best of the first i + 1. -/
def hiIdx (l : List Cls) : Nat → Nat
  | 0 => 0
  | i + 1 => if (l.getD (i + 1) (0, 0, false)).2.1 > (l.getD (hiIdx l i) (0, 0, false)).2.1 then i + 1 else hiIdx l i
theorem hiIdx_le (l : List Cls) : ∀ i, hiIdx l i ≤ i
  | 0 => Nat.le_refl _
  | i + 1 => by
    unfold hiIdx
    split
    · exact Nat.le_refl _
    · exact Nat.le_succ_of_le (hiIdx_le l i)
def bst (l : List Cls) : Nat → Int
  | 0 => -1
  | i + 1 => (hiIdx l i : Nat)
theorem rhigh_ok (l : List Cls) (hl : Sz l) : PCall env 20 [.slice 3 (cls l)] (.int .i64 (bst l l.length)) := by
  refine acalls_of envOk Tryd.func20 rfl (by kernel_rfl) (m := 27) rfl ?_
  simp only [Kreg_go, Qseq_normal, aregL_nil, aregL_plain, awpL_region, awpL_seq, awpL_block, awpL_loop, aop_assign, ev, cst, putT, List.set_cons_zero, List.set_cons_succ, List.length_nil, List.map_cons, List.map_nil, List.cons_append, List.nil_append, List.reduceReplicate, Int.reduceNeg]
  refine ALoop.mk (fun n t H ds => ∃ i : Nat, n = l.length - i ∧ i ≤ l.length ∧ t = [.d (.slice 3 (cls l)), .dead, .d (.int .i64 0), .d (.int .i64 (bst l i)), .d (.int .i64 (i : Nat)), .dead, .dead, .dead, .dead, .dead, .dead, .dead, .dead, .dead, .dead, .dead, .dead, .dead, .dead, .dead, .dead, .dead, .dead, .dead, .dead, .dead, .dead, .dead] ∧ H = [] ∧ ds = []) l.length
    (WK.fgt (t' := [.d (.slice 3 (cls l)), .dead, .d (.int .i64 0), .d (.int .i64 (bst l 0)), .d (.int .i64 (0 : Nat)), .dead, .dead, .dead, .dead, .dead, .dead, .dead, .dead, .dead, .dead, .dead, .dead, .dead, .dead, .dead, .dead, .dead, .dead, .dead, .dead, .dead, .dead, .dead]) (by simp [fgt, bst]) (WK.now ⟨0, by omega, by omega, rfl, rfl, rfl⟩)) ?_
  rintro n t H ds ⟨i, rfl, hi, rfl, rfl, rfl⟩
  simp only [cls_length, ty3, T3, ty22, T22, Int.ofNat_lt, Kat_go, Kreg_go, Qseq_normal, aregL_nil, aregL_plain, awpL_region, awpL_seq, awpL_cond, aop_move, aop_binOp, aop_len, apureCall, ev, putT, aopBin, isSl, abin, aint, rowLen, alen, kd, List.getD_cons_zero, List.getD_cons_succ, List.set_cons_zero, List.set_cons_succ, true_and]
  refine Kbr.mk (fun c => ?_) (fun c => ?_)
  · have c2 : i < l.length := by simpa using c
    have sc := succ64 c2 (Nat.le_trans hl (by omega))
    cases i with
    | zero =>
      simp only [bst, Qseq_normal, awpL_skip, awpL_draw, awpL_seq, awpL_block, Int.reduceNeg, Int.cast_ofNat_Int]
      refine DRegL.one (by unfold DrawOK; kernel_rfl) ?_
      simp only [ty3, T3, Qloop_normal, Kat_go, Kreg_go, Kdr_go, Qseq_normal, Qblk_normal, Kbr_true, Kbr_false, Vbr_true, Dno_go, aregL_nil, aregL_plain, adrawL_nil, adrawL_plain, adrawL_guard, awpL_region, awpL_cond, aop_move, aop_assign, aop_binOp, qop_move, qop_pick, qop_binOp, ev, cst, putT, gval, aopBin, isSl, abin, aint, kd, isEff, qpre, qtail, List.getD_cons_zero, List.getD_cons_succ, List.set_cons_zero, List.set_cons_succ, List.getElem?_cons_zero, List.getElem?_cons_succ, Bool.not_false, true_and, Int.reduceLT, Int.reduceNeg, Bool.true_beq, decide_true]
      exact ⟨l.length - 1, by omega, WK.fgt (t' := [.d (.slice 3 (cls l)), .dead, .d (.int .i64 0), .d (.int .i64 (bst l 1)), .d (.int .i64 (1 : Nat)), .dead, .dead, .dead, .dead, .dead, .dead, .dead, .dead, .dead, .dead, .dead, .dead, .dead, .dead, .dead, .dead, .dead, .dead, .dead, .dead, .dead, .dead, .dead]) (by simp [fgt, bst, hiIdx]; rfl) (WK.now ⟨1, rfl, by omega, rfl, rfl, rfl⟩)⟩
    | succ j =>
      have hlt : hiIdx l j < l.length := by have := hiIdx_le l j; omega
      have hf : decide ((((hiIdx l j : Nat) : Int)) < 0) = false := decide_eq_false (by omega)
      simp only [bst, Qseq_normal, awpL_skip, awpL_draw, awpL_seq, awpL_block, Int.reduceNeg]
      refine DRegL.one (by unfold DrawOK; kernel_rfl) ?_
      simp only [hf, c2, hlt, cel_cls1, cls_length, ty3, T3, ty22, T22, ty30, T30, Int.natCast_nonneg, Int.ofNat_lt, Kdr_go, Qseq_normal, Kbr_true, Vbr_false, Dgo_go, aregL_nil, adrawL_nil, adrawL_plain, adrawL_guard, awpL_cond, qop_move, qop_pick, qop_load, qop_binOp, qop_fieldAddr, qop_indexAddr, ev, cst, putT, gval, abin, aint, rowPtr, aidx, fld, afldAddr, aload, rdRow, ldK, kd, esz, isEff, qpre, qtail, List.getD_cons_zero, List.getD_cons_succ, List.set_cons_zero, List.set_cons_succ, List.getElem?_cons_zero, List.getElem?_cons_succ, Nat.reduceLT, Bool.not_false, beq_self_eq_true, true_and, reduceCtorEq, ne_eq, not_false_eq_true, Nat.zero_add, Int.toNat_natCast, Int.reduceNeg, decide_true]
      refine Kbr.mk (fun c => ?_) (fun c => ?_)
      · have c3 : (l.getD (j + 1) (0, 0, false)).2.1 > (l.getD (hiIdx l j) (0, 0, false)).2.1 := of_decide_eq_true c
        have e : bst l (j + 1 + 1) = ((j + 1 : Nat) : Int) := by simp only [bst, hiIdx]; rw [if_pos c3]
        simp only [sc, ty3, T3, Qloop_normal, Kat_go, Kreg_go, Qseq_normal, Qblk_normal, aregL_nil, aregL_plain, awpL_region, aop_move, aop_assign, aop_binOp, ev, cst, putT, aopBin, isSl, abin, aint, kd, List.getD_cons_zero, List.getD_cons_succ, List.set_cons_zero, List.set_cons_succ, true_and, Int.reduceNeg]
        exact ⟨l.length - (j + 1 + 1), by omega, WK.fgt (t' := [.d (.slice 3 (cls l)), .dead, .d (.int .i64 0), .d (.int .i64 (bst l (j + 1 + 1))), .d (.int .i64 ((j + 1 + 1) : Nat)), .dead, .dead, .dead, .dead, .dead, .dead, .dead, .dead, .dead, .dead, .dead, .dead, .dead, .dead, .dead, .dead, .dead, .dead, .dead, .dead, .dead, .dead, .dead]) (by simp [fgt, e]) (WK.now ⟨j + 1 + 1, rfl, by omega, rfl, rfl, rfl⟩)⟩
      · have c3 : ¬ (l.getD (j + 1) (0, 0, false)).2.1 > (l.getD (hiIdx l j) (0, 0, false)).2.1 := of_decide_eq_false c
        have e : bst l (j + 1 + 1) = ((hiIdx l j : Nat) : Int) := by simp only [bst, hiIdx]; rw [if_neg c3]
        simp only [sc, ty3, T3, Qloop_normal, Kat_go, Kreg_go, Qseq_normal, Qblk_normal, aregL_nil, aregL_plain, awpL_skip, awpL_region, aop_move, aop_assign, aop_binOp, ev, cst, putT, aopBin, isSl, abin, aint, kd, List.getD_cons_zero, List.getD_cons_succ, List.set_cons_zero, List.set_cons_succ, true_and, Int.reduceNeg]
        exact ⟨l.length - (j + 1 + 1), by omega, WK.fgt (t' := [.d (.slice 3 (cls l)), .dead, .d (.int .i64 0), .d (.int .i64 (bst l (j + 1 + 1))), .d (.int .i64 ((j + 1 + 1) : Nat)), .dead, .dead, .dead, .dead, .dead, .dead, .dead, .dead, .dead, .dead, .dead, .dead, .dead, .dead, .dead, .dead, .dead, .dead, .dead, .dead, .dead, .dead, .dead]) (by simp [fgt, e]) (WK.now ⟨j + 1 + 1, rfl, by omega, rfl, rfl, rfl⟩)⟩
  · have c2 : ¬ i < l.length := by simpa using c
    obtain rfl : i = l.length := by omega
    simp only [Qloop_exit, Kreg_go, Qseq_normal, Qseq_exit, Qblk_exit, aret_ret, aregL_nil, aregL_plain, awpL_region, awpL_seq, awpL_exit, awpL_ret, aop_move, aop_assign, ev, putT, List.getD_cons_zero, List.getD_cons_succ, List.set_cons_zero, List.set_cons_succ, if_true]
    refine WK.now ?_
    simp only [Tryd.results20, Kcons_go, Kone_go, Kfin_go, aresL_nil, aresL_tmp, allDefr_nil, offs_nil, one?, List.getD_cons_zero, List.getD_cons_succ, and_self, List.toList_toArray]

theorem clone_ok (a : List Int) (ha : Sz a) : ACalls env 45 [.d (.slice 1 (ints a))] [] fun r H' => r = .sfull 0 ∧ H' = [.arr 2 1 (ints a)] := by
  have hr : room a.length 8 := room_of (by unfold Sz at ha; omega) (by omega)
  refine acalls_of envOk Tryd.func45 rfl (by kernel_rfl) (m := 7) rfl ?_
  simp only [ints_length, ty2, T2, ty43, T43, ints_length, Kat_go, Kreg_go, Qseq_normal, Qseq_ret, Kbr_true, Kbr_false, Kapp_svalf, aret_ret, aregL_nil, aregL_plain, awpL_skip, awpL_region, awpL_seq, awpL_cond, awpL_ret, aop_move, aop_assign, aop_binOp, aop_buildSlice, aop_append, aapp_go, ev, cst, putT, aopBin, isSl, bEq, kd, afill, allD, abuildS, rep, chunk, srcRows, List.getD_cons_zero, List.getD_cons_succ, List.set_cons_zero, List.set_cons_succ, List.length_nil, List.map_nil, List.cons_append, List.nil_append, List.reduceReplicate, Nat.reduceLeDiff, true_and, reduceCtorEq, ne_eq, not_false_eq_true, Nat.zero_add, Nat.mul_one]
  refine ⟨⟨.inr trivial, hr, WK.now ?_⟩, fun h0 => ?_⟩
  · simp only [Tryd.results45, Kcons_go, Kone_go, Kfin_go, aresL_nil, aresL_tmp, allDefr_nil, offs_nil, one?, List.getD_cons_zero, List.getD_cons_succ, and_self, List.toList_toArray]
  · refine WK.nil 2 2 1 rfl (WK.now ?_)
    simp only [← h0, Tryd.results45, Kcons_go, Kone_go, Kfin_go, aresL_nil, aresL_tmp, allDefr_nil, offs_nil, one?, List.getD_cons_zero, List.getD_cons_succ, List.set_cons_zero, List.set_cons_succ, List.length_nil, List.nil_append, and_self, List.toList_toArray]

/-- An operation. -/
structure Opn where
  kind : Int
  id : Int
  cl : Int
  n : Int
  flag : Bool
  am : List Int
def oC (o : Opn) : List D := [.int .i64 o.kind, .int .i64 o.id, .int .i64 o.cl, .int .i64 o.n, .bool o.flag, .slice 1 (ints o.am)]
/-- A pod's parts, its request apart. -/
structure Pd where
  id : Int
  pr : Int
  pre : Bool
  gr : Int
  ar : Int
  ph : Int
  nd : Int
  dl : Int
def pC (p : Pd) (r : D) : List D := [.int .i64 p.id, .int .i64 p.pr, .bool p.pre, .int .i64 p.gr, r, .int .i64 p.ar, .int .i64 p.ph, .int .i64 p.nd, .int .i64 p.dl]
def pV (p : Pd) (r : AV) : List AV := [.d (.int .i64 p.id), .d (.int .i64 p.pr), .d (.bool p.pre), .d (.int .i64 p.gr), r, .d (.int .i64 p.ar), .d (.int .i64 p.ph), .d (.int .i64 p.nd), .d (.int .i64 p.dl)]
def podOf (c : Cls) (o : Opn) (arrival : Int) : Pd := ⟨o.id, c.2.1, c.2.2, o.n, arrival, 1, -1, -1⟩
def pod0 : Pd := ⟨0, 0, false, 0, 0, 0, 0, 0⟩
theorem rpod_ok (c : Cls) (o : Opn) (arrival : Int) : PCall env 23 [fC c, .agg (oC o), .int .i64 arrival] (.agg (pC (podOf c o arrival) (.slice 1 (ints o.am)))) := by
  unfold fC cD oC
  refine acalls_of envOk Tryd.func23 rfl (by kernel_rfl) (m := 16) rfl ?_
  simp only [ty3, T3, ty4, T4, ty30, T30, ty43, T43, ty45, T45, ty47, T47, Kat_go, Kst_go, Kreg_go, Qseq_normal, aret_ret, aregL_nil, aregL_plain, awpL_region, awpL_seq, awpL_ret, aop_move, aop_load, aop_fieldAddr, aop_build, aop_box, aop_new, aop_store, ev, cst, putT, fld, afldAddr, aload, ldK, kd, esz, abuild, zeroC, aplace, afill, splice, AV.cells, D.cells, mkAgg, allD, known, abox, aalloc, astore, List.getD_cons_zero, List.getD_cons_succ, List.set_cons_zero, List.set_cons_succ, List.getElem?_cons_zero, List.getElem?_cons_succ, List.length_cons, List.length_nil, List.map_cons, List.map_nil, List.cons_append, List.nil_append, List.append_nil, List.take_succ_cons, List.take_zero, List.drop_succ_cons, List.drop_zero, List.drop_nil, List.all_cons, List.all_nil, List.reduceReplicate, Nat.reduceAdd, Nat.reduceLeDiff, Option.isSome_some, Bool.and_true, true_and, if_true, reduceCtorEq, ne_eq, not_false_eq_true, Nat.zero_add, Int.reduceNeg, and_self]
  refine WK.now ?_
  simp only [pC, podOf, ty47, T47, Tryd.results23, Kcons_go, Kres_go, Kone_go, Kfin_go, aresL_nil, aresL_cell, allDefr_nil, offs_nil, aload, ldK, mkAgg, allD, one?, List.getD_cons_zero, List.getD_cons_succ, List.length_cons, List.length_nil, List.take_succ_cons, List.take_nil, List.drop_zero, Nat.reduceAdd, Nat.reduceLeDiff, Nat.zero_add, Int.reduceNeg, and_self, List.toList_toArray]
theorem rfits_nil : PCall env 57 [.nils, .nils] (.bool true) := by
  refine acalls_of envOk Tryd.func57 rfl (by kernel_rfl) (m := 30) rfl ?_
  simp only [Kreg_go, Qseq_normal, aregL_nil, aregL_plain, awpL_region, awpL_seq, awpL_block, awpL_loop, aop_assign, ev, cst, putT, List.set_cons_zero, List.set_cons_succ, List.length_nil, List.map_cons, List.map_nil, List.cons_append, List.nil_append, List.reduceReplicate]
  refine ALoop.mk (fun k t H ds => t = [.d .nils, .d .nils, .dead, .dead, .d (.bool false), .d (.int .i64 0), .dead, .dead, .dead, .dead, .dead, .dead, .dead, .dead, .dead, .dead, .dead, .dead, .dead, .dead, .dead, .dead, .dead, .dead, .dead, .dead, .dead, .dead, .dead, .dead, .dead, .dead] ∧ H = [] ∧ ds = []) 0
    (WK.fgt (t' := [.d .nils, .d .nils, .dead, .dead, .d (.bool false), .d (.int .i64 0), .dead, .dead, .dead, .dead, .dead, .dead, .dead, .dead, .dead, .dead, .dead, .dead, .dead, .dead, .dead, .dead, .dead, .dead, .dead, .dead, .dead, .dead, .dead, .dead, .dead, .dead]) (by simp [fgt]) (WK.now ⟨rfl, rfl, rfl⟩)) ?_
  rintro k t H ds ⟨rfl, rfl, rfl⟩
  simp only [ty3, T3, ty43, T43, Qloop_exit, Kat_go, Kreg_go, Qseq_normal, Qseq_exit, Qblk_exit, Kbr_false, Vbr_false, Kno_go, aret_ret, aregL_nil, aregL_plain, aregL_guard, awpL_region, awpL_seq, awpL_cond, awpL_exit, awpL_ret, aop_move, aop_assign, aop_pick, aop_binOp, aop_len, apureCall, ev, cst, putT, gval, aopBin, isSl, abin, aint, rowLen, alen, kd, List.getD_cons_zero, List.getD_cons_succ, List.set_cons_zero, List.set_cons_succ, List.getElem?_cons_zero, List.getElem?_cons_succ, Bool.not_true, beq_self_eq_true, true_and, if_true, Int.reduceLT, Bool.false_beq, decide_false, Int.cast_ofNat_Int]
  refine WK.now ?_
  simp only [Tryd.results57, Kcons_go, Kone_go, Kfin_go, aresL_nil, aresL_tmp, allDefr_nil, offs_nil, one?, List.getD_cons_zero, List.getD_cons_succ, and_self, List.toList_toArray]
theorem rsame_nil : PCall env 29 [.nils, .nils] (.bool true) := by
  refine acalls_of envOk Tryd.func29 rfl (by kernel_rfl) (m := 11) rfl ?_
  simp only [ext57, Kreg_go, Qseq_normal, aregL_nil, aregL_plain, awpL_region, awpL_seq, aop_move, aop_assign, aop_call, acallF_go, ev, cst, putT, List.getD_cons_zero, List.getD_cons_succ, List.set_cons_zero, List.set_cons_succ, List.length_nil, List.map_cons, List.map_nil, List.cons_append, List.nil_append, List.append_nil, List.reduceReplicate]
  refine rfits_nil.go (by first | exact ⟨.inl rfl, trivial⟩ | exact ⟨.inl rfl, .inl rfl, trivial⟩ | exact ⟨.inl rfl, .inl rfl, .inl rfl, trivial⟩ | simp [argsOk, argOk, sl, sll]) (WK.now ?_)
  simp only [ext57, Kreg_go, Kbr_true, Kgo_go, aregL_plain, aregL_guard, aop_move, aop_call, acallF_go, ev, putT, gval, List.getD_cons_zero, List.getD_cons_succ, List.set_cons_zero, List.set_cons_succ, List.getElem?_cons_zero, List.getElem?_cons_succ, List.map_cons, List.map_nil, List.append_nil, Bool.not_true, beq_self_eq_true]
  refine rfits_nil.go (by first | exact ⟨.inl rfl, trivial⟩ | exact ⟨.inl rfl, .inl rfl, trivial⟩ | exact ⟨.inl rfl, .inl rfl, .inl rfl, trivial⟩ | simp [argsOk, argOk, sl, sll]) (WK.now ?_)
  simp only [Kat_go, Kreg_go, Qseq_normal, Vbr_true, aret_ret, aregL_nil, aregL_plain, awpL_ret, aop_assign, aop_pick, ev, cst, putT, List.getD_cons_zero, List.getD_cons_succ, List.set_cons_zero, List.set_cons_succ]
  refine WK.now ?_
  simp only [Tryd.results29, Kcons_go, Kone_go, Kfin_go, aresL_nil, aresL_tmp, allDefr_nil, offs_nil, one?, List.getD_cons_zero, List.getD_cons_succ, and_self, List.toList_toArray]
set_option maxRecDepth 8000 in
theorem samepod_ok (p : Pd) (a : List Int) (ha : Sz a) : PCall env 22 [.agg (pC p (.slice 1 (ints a))), .agg (pC p (.slice 1 (ints a)))] (.bool true) := by
  unfold pC
  refine acalls_of envOk Tryd.func22 rfl (by kernel_rfl) (m := 64) rfl ?_
  simp only [ty3, T3, ty4, T4, ty43, T43, ty47, T47, ext29, Kat_go, Kreg_go, Qseq_normal, Kbr_true, Vbr_true, Kgo_go, aregL_nil, aregL_plain, aregL_guard, awpL_region, awpL_seq, aop_move, aop_assign, aop_pick, aop_load, aop_binOp, aop_fieldAddr, aop_box, aop_call, acallF_go, ev, cst, putT, gval, aopBin, isSl, abin, aint, bEq, fld, afldAddr, aload, ldK, kd, esz, AV.cells, D.cells, abox, List.getD_cons_zero, List.getD_cons_succ, List.set_cons_zero, List.set_cons_succ, List.getElem?_cons_zero, List.getElem?_cons_succ, List.length_cons, List.length_nil, List.map_cons, List.map_nil, List.cons_append, List.nil_append, List.append_nil, List.reduceReplicate, Bool.not_true, beq_self_eq_true, true_and, reduceCtorEq, ne_eq, not_false_eq_true, Nat.zero_add, Nat.add_zero]
  refine (rsame_ok a a ha ha).go (by first | exact ⟨.inl rfl, trivial⟩ | exact ⟨.inl rfl, .inl rfl, trivial⟩ | exact ⟨.inl rfl, .inl rfl, .inl rfl, trivial⟩ | simp [argsOk, argOk, sl, sll]) (WK.now ?_)
  simp only [ty3, T3, ty47, T47, Kat_go, Kreg_go, Qseq_normal, Kbr_true, Vbr_true, Kgo_go, aret_ret, aregL_nil, aregL_plain, aregL_guard, awpL_ret, B_True, aop_move, aop_assign, aop_pick, aop_load, aop_binOp, aop_fieldAddr, ev, cst, putT, gval, aopBin, isSl, abin, aint, fld, afldAddr, aload, ldK, kd, esz, List.getD_cons_zero, List.getD_cons_succ, List.set_cons_zero, List.set_cons_succ, List.getElem?_cons_zero, List.getElem?_cons_succ, Bool.not_true, beq_self_eq_true, true_and, reduceCtorEq, ne_eq, not_false_eq_true, Nat.zero_add]
  refine WK.now ?_
  simp only [Tryd.results22, Kcons_go, Kone_go, Kfin_go, aresL_nil, aresL_tmp, allDefr_nil, offs_nil, one?, List.getD_cons_zero, List.getD_cons_succ, and_self, List.toList_toArray]
set_option maxRecDepth 8000 in
theorem samepod_nil (p : Pd) : PCall env 22 [.agg (pC p .nils), .agg (pC p .nils)] (.bool true) := by
  unfold pC
  refine acalls_of envOk Tryd.func22 rfl (by kernel_rfl) (m := 64) rfl ?_
  simp only [ty3, T3, ty4, T4, ty43, T43, ty47, T47, ext29, Kat_go, Kreg_go, Qseq_normal, Kbr_true, Vbr_true, Kgo_go, aregL_nil, aregL_plain, aregL_guard, awpL_region, awpL_seq, aop_move, aop_assign, aop_pick, aop_load, aop_binOp, aop_fieldAddr, aop_box, aop_call, acallF_go, ev, cst, putT, gval, aopBin, isSl, abin, aint, bEq, fld, afldAddr, aload, ldK, kd, esz, AV.cells, D.cells, abox, List.getD_cons_zero, List.getD_cons_succ, List.set_cons_zero, List.set_cons_succ, List.getElem?_cons_zero, List.getElem?_cons_succ, List.length_cons, List.length_nil, List.map_cons, List.map_nil, List.cons_append, List.nil_append, List.append_nil, List.reduceReplicate, Bool.not_true, beq_self_eq_true, true_and, reduceCtorEq, ne_eq, not_false_eq_true, Nat.zero_add, Nat.add_zero]
  refine rsame_nil.go (by first | exact ⟨.inl rfl, trivial⟩ | exact ⟨.inl rfl, .inl rfl, trivial⟩ | exact ⟨.inl rfl, .inl rfl, .inl rfl, trivial⟩ | simp [argsOk, argOk, sl, sll]) (WK.now ?_)
  simp only [ty3, T3, ty47, T47, Kat_go, Kreg_go, Qseq_normal, Kbr_true, Vbr_true, Kgo_go, aret_ret, aregL_nil, aregL_plain, aregL_guard, awpL_ret, aop_move, aop_assign, aop_pick, aop_load, aop_binOp, aop_fieldAddr, ev, cst, putT, gval, aopBin, isSl, abin, aint, fld, afldAddr, aload, ldK, kd, esz, List.getD_cons_zero, List.getD_cons_succ, List.set_cons_zero, List.set_cons_succ, List.getElem?_cons_zero, List.getElem?_cons_succ, Bool.not_true, beq_self_eq_true, true_and, reduceCtorEq, ne_eq, not_false_eq_true, Nat.zero_add]
  refine WK.now ?_
  simp only [Tryd.results22, Kcons_go, Kone_go, Kfin_go, aresL_nil, aresL_tmp, allDefr_nil, offs_nil, one?, List.getD_cons_zero, List.getD_cons_succ, and_self, List.toList_toArray]

set_option maxRecDepth 8000 in
theorem spod_raw (sz : Int) (L : List (Int × Cls)) (o : Opn) (arrival : Int) (c : Cls) (hc : lget L o.cl = some c) (ha : Sz o.am) :
    ACalls env 21 [.pvar 2 0, .d (.agg (oC o)), .d (.int .i64 arrival)] (Sc sz L) fun r H' => r = .tup [.agg (pV (podOf c o arrival) (.sfull 6)), .d .nili] ∧ ∃ o1 o2 o3, H' = Sc sz L ++ [o1, o2, o3, .arr 2 1 (ints o.am)] := by
  unfold oC
  refine acalls_of envOk Tryd.func21 rfl (by kernel_rfl) (m := 35) rfl ?_
  simp only [Sc, ty3, T3, ty23, T23, ty45, T45, ty47, T47, ext17, Kat_go, Kreg_go, Qseq_normal, Kbr_false, aregL_nil, aregL_plain, awpL_skip, awpL_region, awpL_seq, awpL_cond, aop_move, aop_assign, aop_load, aop_binOp, aop_fieldAddr, aop_box, aop_new, aop_call, acallF_go, ev, cst, putT, aopBin, isSl, abin, bEq, acmp, ptrish, fld, afldAddr, aload, ldK, kd, esz, zeroC, AV.cells, D.cells, abox, aalloc, List.getD_cons_zero, List.getD_cons_succ, List.set_cons_zero, List.set_cons_succ, List.getElem?_cons_zero, List.getElem?_cons_succ, List.length_cons, List.length_nil, List.map_cons, List.map_nil, List.cons_append, List.nil_append, List.append_nil, List.reduceReplicate, Nat.reduceAdd, true_and, reduceCtorEq, ne_eq, not_false_eq_true, Nat.zero_add, Int.reduceNeg]
  refine (sget_ok sz L o.cl).at [0, 1, 2] (by simp [Sc, sbl, ren_var, ren_map, bel_var, bel_map, AV.renL, AV.ren, AV.belL, AV.bel, rn]) (by simp) (by simp [Tb]) (by simp [AV.ren, rn]) (by simp [AV.belL, AV.bel]) (WK.now ?_)
  simp only [Sc, gotC, hc, fC, cD, ty30, T30, Kat_go, Kst_go, Kreg_go, Qseq_normal, Kbr_false, aregL_nil, aregL_plain, awpL_skip, awpL_region, awpL_draw, awpL_seq, awpL_cond, lift, putAll, rn, AV.ren, AV.renL, ren_var, ren_map, aop_move, aop_assign, aop_unOp, aop_extract, aop_new, aop_store, ev, putT, aun, aext, esz, zeroC, splice, AV.cells, D.cells, aalloc, astore, List.getD_cons_zero, List.getD_cons_succ, List.set_cons_zero, List.set_cons_succ, List.getElem?_cons_zero, List.getElem?_cons_succ, List.length_cons, List.length_nil, List.map_cons, List.map_nil, List.cons_append, List.nil_append, List.append_nil, List.take_zero, List.drop_succ_cons, List.drop_nil, Nat.reduceAdd, Nat.reduceSub, Nat.reduceLeDiff, Nat.reduceLT, Option.isSome_some, Bool.not_true, true_and, if_true, Nat.zero_add, Int.reduceNeg, Option.getD_some]
  refine DRegL.two [0, 1, 2, 3, 4, 5, 6, 7, 8, 9, 11] [10, 12, 13, 14] (by unfold Draw2; kernel_rfl) (by kernel_rfl) (by kernel_rfl) ?_
  simp only [ty3, T3, ty4, T4, ty30, T30, ty43, T43, ty45, T45, ext45, Kdr_go, adrawL_nil, adrawL_plain, Kt0_go, atailL_plain, pickL_nil, pickL_cons, aop_call, qop_move, qop_load, qop_fieldAddr, acallF_go, ev, putT, fld, afldAddr, aload, ldK, kd, esz, List.getD_cons_zero, List.getD_cons_succ, List.set_cons_zero, List.set_cons_succ, List.getElem?_cons_zero, List.getElem?_cons_succ, List.map_cons, List.map_nil, List.append_nil, true_and, reduceCtorEq, ne_eq, not_false_eq_true, Nat.zero_add, Int.reduceNeg]
  refine (clone_ok o.am ha).at [] (by simp [sbl]) (by simp) (by simp [Tb]) (by simp [AV.ren]) (by simp [AV.belL, AV.bel]) ?_
  simp only [ty3, T3, ty4, T4, ty30, T30, ty43, T43, ty45, T45, ty47, T47, Kat_go, Kst_go, Kdr_go, Qseq_normal, aret_ret, adrawL_nil, adrawL_plain, awpL_ret, Same_go, Kt_go, atailL_nil, atailL_plain, lift, putAll, rn, AV.ren, ren_arr, aop_assign, aop_build, aop_store, qop_move, qop_load, qop_fieldAddr, ev, cst, putT, fld, afldAddr, aload, ldK, kd, esz, abuild, zeroC, aplace, afill, splice, AV.cells, D.cells, mkAgg, allD, known, astore, List.getD_cons_zero, List.getD_cons_succ, List.getD_nil, List.set_cons_zero, List.set_cons_succ, List.getElem?_cons_zero, List.getElem?_cons_succ, List.length_cons, List.length_nil, List.map_cons, List.map_nil, List.cons_append, List.nil_append, List.append_nil, List.take_succ_cons, List.take_zero, List.drop_succ_cons, List.drop_zero, List.drop_nil, List.all_cons, List.all_nil, Nat.reduceAdd, Nat.reduceSub, Nat.reduceLeDiff, Nat.reduceLT, Option.isSome_some, Bool.and_true, true_and, if_true, if_false, reduceCtorEq, ne_eq, not_false_eq_true, Nat.zero_add, Int.reduceNeg, and_self]
  refine WK.now ?_
  simp only [pV, podOf, ty47, T47, Tryd.results21, Kcons_go, Kres_go, Kone_go, Kfin_go, aresL_nil, aresL_tmp, aresL_cell, allDefr_nil, offs_nil, aload, ldK, mkAgg, mkTup, allD, one?, List.getD_cons_zero, List.getD_cons_succ, List.length_cons, List.length_nil, List.take_succ_cons, List.take_nil, List.drop_zero, Nat.reduceAdd, Nat.reduceLeDiff, true_and, Nat.zero_add, Int.reduceNeg, List.toList_toArray]
  exact ⟨_, _, _, rfl⟩
theorem spod_ok (sz : Int) (L : List (Int × Cls)) (o : Opn) (arrival : Int) (c : Cls) (hc : lget L o.cl = some c) (ha : Sz o.am) :
    ACalls env 21 [.pvar 2 0, .d (.agg (oC o)), .d (.int .i64 arrival)] (Sc sz L) fun r H' => r = .tup [.agg (pV (podOf c o arrival) (.sfull 3)), .d .nili] ∧ H' = Sc sz L ++ [.arr 2 1 (ints o.am)] :=
  (spod_raw sz L o arrival c hc ha).retell (by
    rintro r H' ⟨rfl, o1, o2, o3, rfl⟩
    refine WK.pick [0, 1, 2, 6] (t' := [.tup [.agg (pV (podOf c o arrival) (.sfull 3)), .d .nili]]) (H' := Sc sz L ++ [.arr 2 1 (ints o.am)]) (by simp [Sc, sbl, ren_var, ren_arr, ren_map, bel_var, bel_arr, bel_map, AV.renL, AV.ren, AV.belL, AV.bel, rn]) (by simp) (by simp [Sc]) (by simp [pV, tellL, AV.ren, AV.renL, AV.bel, AV.belL, rn]) (show ∀ id, id < 3 → ([0, 1, 2, 6] : List Nat)[id]? = some id by decide) (WK.now ⟨_, rfl, rfl, rfl⟩))
set_option maxRecDepth 8000 in
theorem spod_no (sz : Int) (L : List (Int × Cls)) (o : Opn) (arrival : Int) (hc : lget L o.cl = none) :
    ACalls env 21 [.pvar 2 0, .d (.agg (oC o)), .d (.int .i64 arrival)] (Sc sz L) fun r H' => r = .d (.tup [.agg (pC pod0 .nils), errF (some (5, 1))]) ∧ H' = Sc sz L := by
  unfold oC
  refine ACalls.cutTo [0, 1, 2] rfl ?_ (fun l => by simp [Sc, sbl, ren_var, ren_map, bel_var, bel_map, AV.renL, AV.ren, AV.belL, AV.bel, rn]) (fun m => by simp [tellL, AV.ren, AV.bel])
  refine acalls_of envOk Tryd.func21 rfl (by kernel_rfl) (m := 35) rfl ?_
  simp only [Sc, ty3, T3, ty23, T23, ty45, T45, ty47, T47, ext17, Kat_go, Kreg_go, Qseq_normal, Kbr_false, aregL_nil, aregL_plain, awpL_skip, awpL_region, awpL_seq, awpL_cond, aop_move, aop_assign, aop_load, aop_binOp, aop_fieldAddr, aop_box, aop_new, aop_call, acallF_go, ev, cst, putT, aopBin, isSl, abin, bEq, acmp, ptrish, fld, afldAddr, aload, ldK, kd, esz, zeroC, AV.cells, D.cells, abox, aalloc, List.getD_cons_zero, List.getD_cons_succ, List.set_cons_zero, List.set_cons_succ, List.getElem?_cons_zero, List.getElem?_cons_succ, List.length_cons, List.length_nil, List.map_cons, List.map_nil, List.cons_append, List.nil_append, List.append_nil, List.reduceReplicate, Nat.reduceAdd, true_and, reduceCtorEq, ne_eq, not_false_eq_true, Nat.zero_add, Int.reduceNeg]
  refine (sget_ok sz L o.cl).at [0, 1, 2] (by simp [Sc, sbl, ren_var, ren_map, bel_var, bel_map, AV.renL, AV.ren, AV.belL, AV.bel, rn]) (by simp) (by simp [Tb]) (by simp [AV.ren, rn]) (by simp [AV.belL, AV.bel]) (WK.now ?_)
  simp only [Sc, gotC, hc, fC, cD, ty3, T3, ty4, T4, ty30, T30, ty43, T43, ty47, T47, ext38, Kat_go, Kst_go, Kreg_go, Qseq_normal, Kbr_true, aregL_nil, aregL_plain, awpL_region, awpL_seq, awpL_cond, lift, putAll, rn, AV.ren, AV.renL, ren_var, ren_map, aop_move, aop_assign, aop_unOp, aop_extract, aop_build, aop_new, aop_store, aop_call, acallF_go, ev, cst, putT, aun, aext, kd, esz, abuild, zeroC, afill, splice, AV.cells, D.cells, mkAgg, allD, known, aalloc, astore, List.getD_cons_zero, List.getD_cons_succ, List.set_cons_zero, List.set_cons_succ, List.getElem?_cons_zero, List.getElem?_cons_succ, List.length_cons, List.length_nil, List.map_cons, List.map_nil, List.cons_append, List.nil_append, List.append_nil, List.take_zero, List.drop_succ_cons, List.drop_nil, List.all_cons, List.all_nil, Nat.reduceAdd, Nat.reduceSub, Nat.reduceLeDiff, Nat.reduceLT, Option.isSome_some, Bool.and_true, Bool.not_false, true_and, if_true, Nat.zero_add, Int.reduceNeg, Option.getD_none, Option.isSome_none]
  refine (fnew_ok 5 1).go (by first | exact ⟨.inl rfl, trivial⟩ | exact ⟨.inl rfl, .inl rfl, trivial⟩ | exact ⟨.inl rfl, .inl rfl, .inl rfl, trivial⟩ | simp [argsOk, argOk, sl, sll]) (WK.now ?_)
  simp only [errF, ty47, T47, Kst_go, Kreg_go, Qseq_normal, Qseq_ret, aret_ret, aregL_nil, aregL_plain, awpL_ret, aop_assign, aop_store, ev, putT, esz, splice, AV.cells, D.cells, astore, List.getD_cons_zero, List.getD_cons_succ, List.set_cons_zero, List.set_cons_succ, List.length_cons, List.length_nil, List.map_cons, List.map_nil, List.nil_append, List.append_nil, List.take_zero, List.drop_succ_cons, List.drop_nil, Nat.reduceAdd, Nat.reduceLeDiff, true_and, Nat.zero_add, Int.reduceNeg]
  refine WK.now ?_
  simp only [pC, pod0, ty47, T47, Tryd.results21, Kcons_go, Kres_go, Kone_go, Kfin_go, aresL_nil, aresL_tmp, aresL_cell, allDefr_nil, offs_nil, aload, ldK, mkAgg, mkTup, allD, one?, List.getD_cons_zero, List.getD_cons_succ, List.length_cons, List.length_nil, List.take_succ_cons, List.take_nil, List.drop_zero, Nat.reduceAdd, Nat.reduceLeDiff, true_and, Nat.zero_add, List.toList_toArray]
  first | done | exact ⟨_, rfl⟩ | exact ⟨rfl, _, rfl⟩
theorem spod_nil (o : Opn) (arrival : Int) : PCall env 21 [.nilp, .agg (oC o), .int .i64 arrival] (.tup [.agg (pC pod0 .nils), errF (some (5, 0))]) := by
  unfold oC
  refine acalls_of envOk Tryd.func21 rfl (by kernel_rfl) (m := 35) rfl ?_
  simp only [ty3, T3, ty4, T4, ty23, T23, ty43, T43, ty47, T47, ext38, Kat_go, Kreg_go, Qseq_normal, Kbr_true, aregL_nil, aregL_plain, awpL_region, awpL_seq, awpL_cond, aop_move, aop_assign, aop_binOp, aop_build, aop_box, aop_new, aop_call, acallF_go, ev, cst, putT, aopBin, isSl, abin, bEq, acmp, ptrish, kd, esz, abuild, zeroC, afill, AV.cells, D.cells, mkAgg, allD, known, abox, aalloc, List.getD_cons_zero, List.getD_cons_succ, List.set_cons_zero, List.set_cons_succ, List.length_cons, List.length_nil, List.map_cons, List.map_nil, List.cons_append, List.nil_append, List.append_nil, List.all_cons, List.all_nil, List.reduceReplicate, Option.isSome_some, Bool.and_true, true_and, Nat.zero_add, Int.reduceNeg]
  refine (fnew_ok 5 0).go (by first | exact ⟨.inl rfl, trivial⟩ | exact ⟨.inl rfl, .inl rfl, trivial⟩ | exact ⟨.inl rfl, .inl rfl, .inl rfl, trivial⟩ | simp [argsOk, argOk, sl, sll]) (WK.now ?_)
  simp only [errF, ty47, T47, Kst_go, Kreg_go, Qseq_normal, Qseq_ret, aret_ret, aregL_nil, aregL_plain, awpL_ret, aop_assign, aop_store, ev, putT, esz, splice, AV.cells, D.cells, astore, List.getD_cons_zero, List.getD_cons_succ, List.set_cons_zero, List.set_cons_succ, List.length_cons, List.length_nil, List.map_cons, List.map_nil, List.nil_append, List.append_nil, List.take_zero, List.drop_succ_cons, List.drop_nil, Nat.reduceAdd, Nat.reduceLeDiff, true_and, Nat.zero_add, Int.reduceNeg]
  refine WK.now ?_
  simp only [pC, pod0, ty47, T47, Tryd.results21, Kcons_go, Kres_go, Kone_go, Kfin_go, aresL_nil, aresL_tmp, aresL_cell, allDefr_nil, offs_nil, aload, ldK, mkAgg, mkTup, allD, one?, List.getD_cons_zero, List.getD_cons_succ, List.length_cons, List.length_nil, List.take_succ_cons, List.take_nil, List.drop_zero, Nat.reduceAdd, Nat.reduceLeDiff, Nat.zero_add, and_self, List.toList_toArray]
end Go.Proofs.YtjljjakfebfpfaaDoor
