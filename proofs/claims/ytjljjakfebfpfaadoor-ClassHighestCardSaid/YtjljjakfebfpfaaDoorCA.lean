/-
  The fixed examples come out as the documentation says.
-/
import Derived.Test.YtjljjakfebfpfaaDoorCP
set_option autoImplicit false
set_option linter.unusedVariables false
set_option linter.unusedSimpArgs false
namespace Go.Proofs.YtjljjakfebfpfaaDoor
open Go.Abs

def L1 : List (Int × Cls) := [(2, (2, 9, true))]
theorem a_new : ACalls env 9 [.d (.int .i64 2)] [] fun r H' => r = .pvar 2 0 ∧ H' = Sc 2 [] := snew_ok 2
theorem a_add1 : ACalls env 13 [.pvar 2 0, .d (.agg [.int .i64 2, .int .i64 9, .bool true])] (Sc 2 []) fun r H' => r = .d .nili ∧ H' = Sc 2 L1 := sadd_ok 2 [] (2, 9, true) (by decide)
theorem a_add2 : ACalls env 13 [.pvar 2 0, .d (.agg [.int .i64 2, .int .i64 0, .bool false])] (Sc 2 L1) fun r H' => r = .d (errF (some (6, 0))) ∧ H' = Sc 2 L1 := sadd_ok 2 L1 (2, 0, false) (by decide)
def o1 : Opn := ⟨4, 1, 2, 5, false, [3]⟩
def o2 : Opn := ⟨0, 0, 3, 0, false, []⟩
theorem a_pod1 : ACalls env 21 [.pvar 2 0, .agg [.d (.int .i64 4), .d (.int .i64 1), .d (.int .i64 2), .d (.int .i64 5), .d (.bool false), .svalf 1 [[.int .i64 3]]], .d (.int .i64 7)] (Sc 2 L1) fun r H' => r = .tup [.agg (pV (podOf (2, 9, true) o1 7) (.sfull 3)), .d .nili] ∧ H' = Sc 2 L1 ++ [.arr 2 1 (ints [3])] :=
  (spod_ok 2 L1 o1 7 (2, 9, true) rfl (by unfold Sz; decide)).argv (by simp [avsOk, avOk, argsOk, argOk, oC, o1, ints])
theorem a_pod2 : ACalls env 21 [.pvar 2 0, .d (.agg [.int .i64 0, .int .i64 0, .int .i64 3, .int .i64 0, .bool false, .nils]), .d (.int .i64 0)] (Sc 2 L1) fun r H' => r = .d (.tup [.agg (pC pod0 .nils), errF (some (5, 1))]) ∧ H' = Sc 2 L1 :=
  (spod_no 2 L1 o2 0 rfl).argv (by simp [avsOk, avOk, argOk, dsOk, oC, o2, ints])
theorem a_high : ACalls env 19 [.pvar 2 0] (Sc 2 L1) fun r H' => r = .d (.tup [.agg [.int .i64 2, .int .i64 9, .bool true], .bool true]) ∧ H' = Sc 2 L1 := by
  have := shigh_ok 2 L1 (by decide)
  have e : highest L1 = some (2, 9, true) := by simp [highest, L1, srt, allOf, lk, lget, mx]
  rw [e] at this
  exact this
theorem a_all : ACalls env 16 [.pvar 2 0] (Sc 2 L1) fun r H' => r = .d (.slice 3 (cls [(2, 9, true)])) ∧ H' = Sc 2 L1 := by
  have := sallD_ok 2 L1 (by decide)
  rwa [show allOf L1 (srt (L1.map (·.1))) = [(2, 9, true)] by simp [L1, srt, allOf, lk, lget]] at this
theorem a_nil : PCall env 13 [.nilp, .agg [.int .i64 0, .int .i64 0, .bool false]] (errF (some (5, 0))) := sadd_nil (0, 0, false)
theorem a_wrong (c a : Int) : PCall env 14 [errF (some (c, a)), .int .i64 c, .int .i64 a] (.bool true) := by
  have := wrong_ok c a c a
  simpa using this

set_option maxRecDepth 8000 in
theorem awake_ok : PCall env 10 [] (.bool true) := by
  refine acalls_of envOk Tryd.func10 rfl (by kernel_rfl) (m := 101) rfl ?_
  simp only [ext9, Kreg_go, Qseq_normal, aregL_nil, aregL_plain, awpL_region, awpL_seq, aop_assign, aop_call, acallF_go, ev, cst, putT, List.set_cons_zero, List.length_nil, List.map_cons, List.map_nil, List.nil_append, List.append_nil, List.reduceReplicate, Int.reduceNeg]
  refine a_new.thus (WK.now ?_)
  simp only [ty3, T3, ty4, T4, ty23, T23, ty30, T30, ext13, Kat_go, Kreg_go, Qseq_normal, Kbr_false, aregL_nil, aregL_plain, awpL_skip, awpL_region, awpL_seq, awpL_cond, aop_move, aop_assign, aop_binOp, aop_build, aop_call, acallF_go, ev, cst, putT, aopBin, isSl, abin, bEq, acmp, ptrish, kd, esz, abuild, zeroC, aplace, afill, splice, AV.cells, D.cells, mkAgg, allD, known, List.getD_cons_zero, List.getD_cons_succ, List.set_cons_zero, List.set_cons_succ, List.getElem?_cons_zero, List.getElem?_cons_succ, List.length_cons, List.length_nil, List.map_cons, List.map_nil, List.cons_append, List.nil_append, List.append_nil, List.take_succ_cons, List.take_zero, List.drop_succ_cons, List.drop_zero, List.drop_nil, List.all_cons, List.all_nil, Nat.reduceAdd, Nat.reduceLeDiff, Option.isSome_some, Bool.and_true, true_and, if_true, Nat.zero_add, Int.reduceNeg, and_self]
  refine a_add1.thus (WK.now ?_)
  simp only [ty3, T3, ty4, T4, ty30, T30, ext13, Kat_go, Kreg_go, Qseq_normal, aregL_nil, aregL_plain, awpL_region, awpL_seq, aop_move, aop_assign, aop_build, aop_call, acallF_go, ev, cst, putT, kd, esz, abuild, zeroC, aplace, afill, splice, AV.cells, D.cells, mkAgg, allD, known, List.getD_cons_zero, List.getD_cons_succ, List.set_cons_zero, List.set_cons_succ, List.getElem?_cons_zero, List.length_cons, List.length_nil, List.map_cons, List.map_nil, List.cons_append, List.nil_append, List.append_nil, List.take_zero, List.drop_succ_cons, List.drop_zero, List.all_cons, List.all_nil, Nat.reduceAdd, Nat.reduceLeDiff, Option.isSome_some, Bool.and_true, true_and, if_true, Nat.zero_add, Int.reduceNeg, and_self]
  refine a_add2.thus (WK.now ?_)
  simp only [errF, ty2, T2, ty3, T3, ty4, T4, ty43, T43, ty45, T45, ext21, Kat_go, Kreg_go, Qseq_normal, aregL_nil, aregL_plain, awpL_region, awpL_seq, aop_move, aop_assign, aop_build, aop_buildSlice, aop_call, acallF_go, ev, cst, putT, kd, esz, abuild, zeroC, aplace, afill, splice, AV.cells, D.cells, mkAgg, allD, known, abuildS, AV.low, rep, chunk, List.getD_cons_zero, List.getD_cons_succ, List.set_cons_zero, List.set_cons_succ, List.getElem?_cons_zero, List.getElem?_cons_succ, List.length_cons, List.length_nil, List.map_cons, List.map_nil, List.cons_append, List.nil_append, List.append_nil, List.take_succ_cons, List.take_zero, List.take_nil, List.drop_succ_cons, List.drop_zero, List.drop_nil, List.all_cons, List.all_nil, Nat.reduceAdd, Nat.reduceLeDiff, Option.isSome_some, Bool.and_true, true_and, if_true, reduceCtorEq, ne_eq, not_false_eq_true, Nat.zero_add, Int.reduceNeg, Nat.mul_one, and_self]
  refine a_pod1.thus (WK.now ?_)
  simp only [Sc, L1, pV, ty3, T3, ty4, T4, ty43, T43, ty45, T45, ty47, T47, ext21, Kat_go, Kst_go, Kreg_go, Qseq_normal, aregL_nil, aregL_plain, awpL_region, awpL_seq, aop_move, aop_assign, aop_extract, aop_build, aop_new, aop_store, aop_call, acallF_go, ev, cst, putT, aext, kd, esz, abuild, zeroC, aplace, afill, splice, AV.cells, D.cells, mkAgg, allD, known, aalloc, astore, List.getD_cons_zero, List.getD_cons_succ, List.set_cons_zero, List.set_cons_succ, List.getElem?_cons_zero, List.getElem?_cons_succ, List.length_cons, List.length_nil, List.map_cons, List.map_nil, List.cons_append, List.nil_append, List.append_nil, List.take_succ_cons, List.take_zero, List.drop_succ_cons, List.drop_zero, List.drop_nil, List.all_cons, List.all_nil, Nat.reduceAdd, Nat.reduceLeDiff, Option.isSome_some, Bool.and_true, true_and, if_true, Nat.zero_add, Int.reduceNeg, and_self]
  refine a_pod2.at [0, 1, 2] (by simp [Sc, L1, sbl, ren_var, ren_map, bel_var, bel_map, AV.renL, AV.ren, AV.belL, AV.bel, rn]) (by simp) (by simp) (by simp [AV.ren, rn]) (by simp [AV.belL, AV.bel]) (WK.now ?_)
  simp only [Sc, L1, pC, pod0, errF, ty47, T47, ext19, Kat_go, Kst_go, Kreg_go, Qseq_normal, aregL_nil, aregL_plain, awpL_region, awpL_seq, lift, putAll, rn, AV.ren, AV.renL, ren_var, ren_map, aop_move, aop_assign, aop_extract, aop_new, aop_store, aop_call, acallF_go, ev, putT, aext, esz, zeroC, splice, AV.cells, D.cells, aalloc, astore, List.getD_cons_zero, List.getD_cons_succ, List.set_cons_zero, List.set_cons_succ, List.getElem?_cons_zero, List.getElem?_cons_succ, List.length_cons, List.length_nil, List.map_cons, List.map_nil, List.cons_append, List.nil_append, List.append_nil, List.take_zero, List.drop_succ_cons, List.drop_nil, Nat.reduceAdd, Nat.reduceSub, Nat.reduceLeDiff, Nat.reduceLT, true_and, if_true, Nat.zero_add, Int.reduceNeg]
  refine a_high.at [0, 1, 2] (by simp [Sc, L1, sbl, ren_var, ren_map, bel_var, bel_map, AV.renL, AV.ren, AV.belL, AV.bel, rn]) (by simp) (by simp) (by simp [AV.ren, rn]) (by simp [AV.belL, AV.bel]) (WK.now ?_)
  simp only [Sc, L1, podOf, o1, ty30, T30, ty32, T32, ext14, Kat_go, Kst_go, Kreg_go, Qseq_normal, Kbr_true, Kgo_go, aregL_nil, aregL_plain, aregL_guard, awpL_region, awpL_seq, lift, putAll, rn, AV.ren, AV.renL, ren_var, ren_map, aop_move, aop_assign, aop_binOp, aop_extract, aop_new, aop_store, aop_call, acallF_go, ev, cst, putT, gval, aopBin, isSl, abin, bEq, acmp, ifaceish, isC, aext, kd, esz, zeroC, splice, AV.cells, D.cells, aalloc, astore, List.getD_cons_zero, List.getD_cons_succ, List.set_cons_zero, List.set_cons_succ, List.getElem?_cons_zero, List.getElem?_cons_succ, List.length_cons, List.length_nil, List.map_cons, List.map_nil, List.cons_append, List.nil_append, List.append_nil, List.take_zero, List.drop_succ_cons, List.drop_nil, Nat.reduceAdd, Nat.reduceSub, Nat.reduceLeDiff, Nat.reduceLT, Bool.or_true, Bool.not_true, beq_self_eq_true, true_and, if_true, Nat.zero_add, Int.reduceNeg]
  refine (a_wrong 6 0).go (by first | exact ⟨.inl rfl, trivial⟩ | exact ⟨.inl rfl, .inl rfl, trivial⟩ | exact ⟨.inl rfl, .inl rfl, .inl rfl, trivial⟩ | simp [argsOk, argOk, sl, sll]) (WK.now ?_)
  simp only [ty3, T3, ty4, T4, ty32, T32, ty47, T47, ext14, Kat_go, Kreg_go, Kbr_true, Vbr_true, Kgo_go, aregL_plain, aregL_guard, aop_move, aop_pick, aop_load, aop_binOp, aop_fieldAddr, aop_call, acallF_go, ev, cst, putT, gval, aopBin, isSl, abin, aint, bEq, acmp, ifaceish, isC, fld, afldAddr, aload, ldK, kd, esz, List.getD_cons_zero, List.getD_cons_succ, List.set_cons_zero, List.set_cons_succ, List.getElem?_cons_zero, List.getElem?_cons_succ, List.map_cons, List.map_nil, List.append_nil, Bool.or_true, Bool.not_true, beq_self_eq_true, true_and, reduceCtorEq, ne_eq, not_false_eq_true, Nat.zero_add, Int.reduceNeg]
  refine (a_wrong 5 1).go (by first | exact ⟨.inl rfl, trivial⟩ | exact ⟨.inl rfl, .inl rfl, trivial⟩ | exact ⟨.inl rfl, .inl rfl, .inl rfl, trivial⟩ | simp [argsOk, argOk, sl, sll]) (WK.now ?_)
  simp only [ty3, T3, ty30, T30, ext16, Kat_go, Kreg_go, Kbr_true, Vbr_true, Kgo_go, aregL_plain, aregL_guard, aop_move, aop_pick, aop_load, aop_binOp, aop_fieldAddr, aop_call, acallF_go, ev, cst, putT, gval, aopBin, isSl, abin, aint, fld, afldAddr, aload, ldK, kd, esz, List.getD_cons_zero, List.getD_cons_succ, List.set_cons_zero, List.set_cons_succ, List.getElem?_cons_zero, List.getElem?_cons_succ, List.map_cons, List.map_nil, List.append_nil, Bool.not_true, beq_self_eq_true, true_and, reduceCtorEq, ne_eq, not_false_eq_true, Nat.add_zero, Int.reduceNeg]
  refine a_all.at [0, 1, 2] (by simp [Sc, L1, sbl, ren_var, ren_map, bel_var, bel_map, AV.renL, AV.ren, AV.belL, AV.bel, rn]) (by simp) (by simp) (by simp [AV.ren, rn]) (by simp [AV.belL, AV.bel]) (WK.now ?_)
  simp only [Sc, L1, cls_length, ty3, T3, ty4, T4, ty22, T22, ty30, T30, ext13, Kat_go, Kreg_go, Kbr_true, Vbr_true, Kgo_go, aregL_plain, aregL_guard, lift, putAll, rn, AV.ren, AV.renL, ren_var, ren_map, aop_move, aop_pick, aop_binOp, aop_build, aop_len, aop_call, acallF_go, apureCall, ev, cst, putT, gval, aopBin, isSl, abin, aint, rowLen, alen, kd, esz, abuild, zeroC, afill, mkAgg, allD, known, List.getD_cons_zero, List.getD_cons_succ, List.set_cons_zero, List.set_cons_succ, List.getElem?_cons_zero, List.getElem?_cons_succ, List.length_cons, List.length_nil, List.map_cons, List.map_nil, List.append_nil, List.drop_succ_cons, List.drop_nil, List.all_cons, List.all_nil, Nat.reduceAdd, Nat.reduceSub, Nat.reduceLT, Option.isSome_some, Bool.and_true, Bool.not_true, beq_self_eq_true, true_and, if_true, Nat.zero_add, Int.reduceNeg, Int.cast_ofNat_Int]
  refine a_nil.go (by first | exact ⟨.inl rfl, trivial⟩ | exact ⟨.inl rfl, .inl rfl, trivial⟩ | exact ⟨.inl rfl, .inl rfl, .inl rfl, trivial⟩ | simp [argsOk, argOk, sl, sll]) (WK.now ?_)
  simp only [errF, ext14, Kbr_true, Kgo_go, aregL_guard, aop_call, acallF_go, ev, cst, putT, gval, List.getD_cons_zero, List.getD_cons_succ, List.set_cons_zero, List.set_cons_succ, List.getElem?_cons_zero, List.getElem?_cons_succ, List.map_cons, List.map_nil, List.append_nil, Bool.not_true, beq_self_eq_true, Int.reduceNeg]
  refine (a_wrong 5 0).go (by first | exact ⟨.inl rfl, trivial⟩ | exact ⟨.inl rfl, .inl rfl, trivial⟩ | exact ⟨.inl rfl, .inl rfl, .inl rfl, trivial⟩ | simp [argsOk, argOk, sl, sll]) (WK.now ?_)
  simp only [Kat_go, Kreg_go, Qseq_normal, Vbr_true, aret_ret, aregL_nil, aregL_plain, awpL_ret, aop_assign, aop_pick, ev, cst, putT, List.getD_cons_zero, List.getD_cons_succ, List.set_cons_zero, List.set_cons_succ, Int.reduceNeg]
  refine WK.now ?_
  simp only [Tryd.results10, Kcons_go, Kone_go, Kfin_go, aresL_nil, aresL_tmp, allDefr_nil, offs_nil, one?, List.getD_cons_zero, Int.reduceNeg, and_self, List.toList_toArray]
end Go.Proofs.YtjljjakfebfpfaaDoor
