/-
  Faults: made, and read again.
-/
import Derived.Test.YtjljjakfebfpfaaDoorCT1
import Derived.Test.YtjljjakfebfpfaaDoorCAs4
set_option autoImplicit false
set_option linter.unusedVariables false
set_option linter.unusedSimpArgs false
namespace Go.Proofs.YtjljjakfebfpfaaDoor
open Go.Abs

theorem fnew_ok (c a : Int) : PCall env 38 [.int .i64 c, .int .i64 a] (errF (some (c, a))) := by
  refine acalls_of envOk Tryd.func38 rfl (by kernel_rfl) (m := 7) rfl ?_
  simp only [errF, ty3, T3, ty73, T73, ty122, T122, Kat_go, Kreg_go, Qseq_normal, aret_ret, aregL_nil, aregL_plain, awpL_region, awpL_seq, awpL_ret, aop_move, aop_assign, aop_makeInterface, aop_build, ev, cst, putT, kd, esz, abuild, zeroC, aplace, afill, splice, AV.cells, D.cells, mkAgg, mkIface, allD, known, List.getD_cons_zero, List.getD_cons_succ, List.set_cons_zero, List.set_cons_succ, List.getElem?_cons_zero, List.getElem?_cons_succ, List.length_cons, List.length_nil, List.map_cons, List.map_nil, List.cons_append, List.nil_append, List.append_nil, List.take_succ_cons, List.take_zero, List.drop_succ_cons, List.drop_zero, List.drop_nil, List.all_cons, List.all_nil, List.reduceReplicate, Nat.reduceAdd, Nat.reduceLeDiff, Option.isSome_some, Bool.and_true, true_and, if_true, Nat.zero_add, and_self]
  refine WK.now ?_
  simp only [Tryd.results38, Kcons_go, Kone_go, Kfin_go, aresL_nil, aresL_tmp, allDefr_nil, offs_nil, one?, List.getD_cons_zero, List.getD_cons_succ, and_self, List.toList_toArray]
theorem fcode_ok (c a : Int) : PCall env 39 [errF (some (c, a))] (.tup [.int .i64 c, .bool true]) := by
  unfold errF
  refine acalls_of envOk Tryd.func39 rfl (by kernel_rfl) (m := 10) rfl ?_
  simp only [ty73, T73, ty77, T77, ext37, Kreg_go, Qseq_normal, aregL_nil, aregL_plain, awpL_region, awpL_seq, aop_move, aop_assign, aop_makeInterface, aop_new, aop_call, acallF_go, ev, cst, putT, kd, zeroC, mkIface, aalloc, List.getD_cons_zero, List.getD_cons_succ, List.set_cons_zero, List.set_cons_succ, List.length_nil, List.map_cons, List.map_nil, List.cons_append, List.nil_append, List.append_nil, List.reduceReplicate]
  refine (as_faultCode c a _).thus (WK.now ?_)
  simp only [ty73, T73, Kat_go, Kreg_go, Qseq_normal, aret_ret, aregL_nil, aregL_plain, awpL_region, awpL_seq, awpL_ret, aop_move, aop_assign, aop_load, ev, putT, aload, ldK, List.getD_cons_zero, List.getD_cons_succ, List.set_cons_zero, List.set_cons_succ, List.getElem?_cons_zero]
  refine WK.now ?_
  simp only [Tryd.results39, Kcons_go, Kone_go, Kfin_go, aresL_nil, aresL_tmp, allDefr_nil, offs_nil, mkTup, allD, one?, List.getD_cons_zero, List.getD_cons_succ, and_self, List.toList_toArray]
theorem fat_ok (c a : Int) : PCall env 40 [errF (some (c, a))] (.tup [.int .i64 a, .bool true]) := by
  unfold errF
  refine acalls_of envOk Tryd.func40 rfl (by kernel_rfl) (m := 11) rfl ?_
  simp only [ty122, T122, ty123, T123, ext37, Kreg_go, Qseq_normal, aregL_nil, aregL_plain, awpL_region, awpL_seq, aop_move, aop_assign, aop_makeInterface, aop_new, aop_call, acallF_go, ev, cst, putT, kd, zeroC, mkIface, aalloc, List.getD_cons_zero, List.getD_cons_succ, List.set_cons_zero, List.set_cons_succ, List.length_nil, List.map_cons, List.map_nil, List.cons_append, List.nil_append, List.append_nil, List.reduceReplicate]
  refine (as_fault c a _ _).thus (WK.now ?_)
  simp only [ty3, T3, ty122, T122, Kat_go, Kreg_go, Qseq_normal, aret_ret, aregL_nil, aregL_plain, awpL_region, awpL_seq, awpL_ret, aop_move, aop_assign, aop_load, aop_fieldAddr, ev, putT, fld, afldAddr, aload, ldK, kd, esz, List.getD_cons_zero, List.getD_cons_succ, List.set_cons_zero, List.set_cons_succ, List.getElem?_cons_zero, List.getElem?_cons_succ, true_and, reduceCtorEq, ne_eq, not_false_eq_true, Nat.zero_add]
  refine WK.now ?_
  simp only [Tryd.results40, Kcons_go, Kone_go, Kfin_go, aresL_nil, aresL_tmp, allDefr_nil, offs_nil, mkTup, allD, one?, List.getD_cons_zero, List.getD_cons_succ, and_self, List.toList_toArray]
theorem wrong_ok (c a c' a' : Int) : PCall env 14 [errF (some (c, a)), .int .i64 c', .int .i64 a'] (.bool (c == c' && a == a')) := by
  unfold errF
  refine acalls_of envOk Tryd.func14 rfl (by kernel_rfl) (m := 32) rfl ?_
  simp only [ext39, Kreg_go, Qseq_normal, aregL_nil, aregL_plain, awpL_region, awpL_seq, aop_move, aop_assign, aop_call, acallF_go, ev, cst, putT, List.getD_cons_zero, List.getD_cons_succ, List.set_cons_zero, List.set_cons_succ, List.length_nil, List.map_cons, List.map_nil, List.cons_append, List.nil_append, List.append_nil, List.reduceReplicate]
  refine (fcode_ok c a).go (by first | exact ⟨.inl rfl, trivial⟩ | exact ⟨.inl rfl, .inl rfl, trivial⟩ | exact ⟨.inl rfl, .inl rfl, .inl rfl, trivial⟩ | simp [argsOk, argOk, sl, sll]) (WK.now ?_)
  simp only [ext40, Kat_go, Kreg_go, Qseq_normal, aregL_nil, aregL_plain, awpL_region, awpL_seq, aop_move, aop_assign, aop_extract, aop_call, acallF_go, ev, putT, aext, List.getD_cons_zero, List.getD_cons_succ, List.set_cons_zero, List.set_cons_succ, List.getElem?_cons_zero, List.getElem?_cons_succ, List.map_cons, List.map_nil, List.append_nil]
  refine (fat_ok c a).go (by first | exact ⟨.inl rfl, trivial⟩ | exact ⟨.inl rfl, .inl rfl, trivial⟩ | exact ⟨.inl rfl, .inl rfl, .inl rfl, trivial⟩ | simp [argsOk, argOk, sl, sll]) (WK.now ?_)
  simp only [ty3, T3, Kat_go, Kreg_go, Qseq_normal, Kbr_true, Vbr_true, Kgo_go, aregL_nil, aregL_plain, aregL_guard, awpL_region, awpL_seq, aop_move, aop_assign, aop_pick, aop_binOp, aop_extract, ev, cst, putT, gval, aopBin, isSl, abin, aint, aext, kd, List.getD_cons_zero, List.getD_cons_succ, List.set_cons_zero, List.set_cons_succ, List.getElem?_cons_zero, List.getElem?_cons_succ, Bool.not_true, beq_self_eq_true, true_and]
  refine Kbr.mk (fun h => ?_) (fun h => ?_)
  · have h' : (c == c') = true := by simpa using h
    simp only [h', ty3, T3, Kat_go, Kreg_go, Qseq_normal, Kbr_true, Vbr_true, Kgo_go, aret_ret, aregL_nil, aregL_plain, aregL_guard, awpL_ret, aop_move, aop_assign, aop_pick, aop_binOp, ev, cst, putT, gval, aopBin, isSl, abin, aint, kd, List.getD_cons_zero, List.getD_cons_succ, List.set_cons_zero, List.set_cons_succ, List.getElem?_cons_zero, List.getElem?_cons_succ, Bool.true_and, Bool.not_true, beq_self_eq_true, true_and]
    refine WK.now ?_
    simp only [Tryd.results14, Kcons_go, Kone_go, Kfin_go, aresL_nil, aresL_tmp, allDefr_nil, offs_nil, one?, List.getD_cons_zero, List.getD_cons_succ, and_self, List.toList_toArray]
  · have h' : (c == c') = false := by simpa using h
    simp only [h', Kat_go, Kreg_go, Qseq_normal, Kbr_false, Vbr_false, Kno_go, aret_ret, aregL_nil, aregL_plain, aregL_guard, awpL_ret, aop_move, aop_assign, aop_pick, ev, cst, putT, gval, List.getD_cons_zero, List.getD_cons_succ, List.set_cons_zero, List.set_cons_succ, List.getElem?_cons_zero, List.getElem?_cons_succ, Bool.false_and, Bool.not_true, Bool.false_beq]
    refine WK.now ?_
    simp only [Tryd.results14, Kcons_go, Kone_go, Kfin_go, aresL_nil, aresL_tmp, allDefr_nil, offs_nil, one?, List.getD_cons_zero, List.getD_cons_succ, and_self, List.toList_toArray]

/-! The store. -/
def Sc (sz : Int) (L : List (Int × Cls)) : List AObj := [.map (entE fC L), .var [.d (.int .i64 sz), .mapo 0], .var [.pvar 1 0]]
theorem snew_ok (n : Int) : ACalls env 9 [.d (.int .i64 n)] [] fun r H' => r = .pvar 2 0 ∧ H' = Sc (max n 0) [] := by
  refine acalls_of envOk Tryd.func9 rfl (by kernel_rfl) (m := 6) rfl ?_
  simp only [ext34, Kreg_go, Qseq_normal, aregL_nil, aregL_plain, awpL_region, awpL_seq, aop_move, aop_assign, aop_call, acallF_go, ev, cst, putT, List.getD_cons_zero, List.getD_cons_succ, List.set_cons_zero, List.set_cons_succ, List.length_nil, List.map_cons, List.map_nil, List.cons_append, List.nil_append, List.append_nil, List.reduceReplicate]
  refine (newC_ok n).thus (WK.now ?_)
  simp only [Tb, ty69, T69, ty72, T72, Kat_go, Kreg_go, Qseq_normal, aret_ret, aregL_nil, aregL_plain, awpL_ret, aop_assign, aop_build, aop_box, ev, cst, putT, kd, esz, abuild, zeroC, aplace, afill, splice, AV.cells, mkAgg, allD, known, abox, List.getD_cons_zero, List.getD_cons_succ, List.set_cons_zero, List.set_cons_succ, List.getElem?_cons_zero, List.length_cons, List.length_nil, List.map_cons, List.map_nil, List.cons_append, List.nil_append, List.append_nil, List.take_zero, List.drop_succ_cons, List.drop_nil, List.all_cons, List.all_nil, Nat.reduceAdd, Nat.reduceLeDiff, Option.isSome_some, Bool.and_true, true_and, if_true, Nat.zero_add, and_self]
  refine WK.now ?_
  simp only [Sc, Tryd.results9, Kcons_go, Kone_go, Kfin_go, aresL_nil, aresL_tmp, allDefr_nil, offs_nil, one?, List.getD_cons_zero, List.getD_cons_succ, and_self, List.toList_toArray]
theorem sclasses_ok (sz : Int) (L : List (Int × Cls)) : ACalls env 35 [.pvar 2 0] (Sc sz L) fun r H' => r = .pvar 1 0 ∧ H' = Sc sz L := by
  unfold Sc
  refine acalls_of envOk Tryd.func35 rfl (by kernel_rfl) (m := 8) rfl ?_
  simp only [ty23, T23, ty69, T69, ty72, T72, Kat_go, Kreg_go, Qseq_normal, Kbr_false, aret_ret, aregL_nil, aregL_plain, awpL_skip, awpL_region, awpL_seq, awpL_cond, awpL_ret, aop_move, aop_assign, aop_load, aop_nilCheck, aop_binOp, aop_fieldAddr, ev, cst, putT, aopBin, isSl, abin, bEq, acmp, ptrish, anil, fld, afldAddr, aload, ldK, kd, esz, List.getD_cons_zero, List.getD_cons_succ, List.set_cons_zero, List.set_cons_succ, List.getElem?_cons_zero, List.length_cons, List.length_nil, List.cons_append, List.nil_append, List.reduceReplicate, Nat.reduceAdd, true_and, reduceCtorEq, ne_eq, not_false_eq_true, Nat.zero_add, Nat.add_zero]
  refine WK.now ?_
  simp only [Tryd.results35, Kcons_go, Kone_go, Kfin_go, aresL_nil, aresL_tmp, allDefr_nil, offs_nil, one?, List.getD_cons_zero, List.getD_cons_succ, and_self, List.toList_toArray]
theorem sclasses_nil : PCall env 35 [.nilp] .nilp := by
  refine acalls_of envOk Tryd.func35 rfl (by kernel_rfl) (m := 8) rfl ?_
  simp only [ty23, T23, Kat_go, Kreg_go, Qseq_normal, Qseq_ret, Kbr_true, aret_ret, aregL_nil, aregL_plain, awpL_region, awpL_seq, awpL_cond, awpL_ret, aop_move, aop_assign, aop_binOp, ev, cst, putT, aopBin, isSl, abin, bEq, acmp, ptrish, kd, List.getD_cons_zero, List.getD_cons_succ, List.set_cons_zero, List.set_cons_succ, List.length_nil, List.map_cons, List.map_nil, List.cons_append, List.nil_append, List.reduceReplicate]
  refine WK.now ?_
  simp only [Tryd.results35, Kcons_go, Kone_go, Kfin_go, aresL_nil, aresL_tmp, allDefr_nil, offs_nil, one?, List.getD_cons_zero, List.getD_cons_succ, and_self, List.toList_toArray]
theorem sget_ok (sz : Int) (L : List (Int × Cls)) (k : Int) : ACalls env 17 [.pvar 2 0, .d (.int .i64 k)] (Sc sz L) fun r H' => r = .d (gotC L k) ∧ H' = Sc sz L := by
  unfold Sc
  refine ACalls.cutTo [0, 1, 2] rfl ?_ (fun l => by simp [sbl, ren_var, ren_map, bel_var, bel_map, AV.renL, AV.ren, AV.belL, AV.bel, rn]) (fun m => by simp [tellL, AV.ren, AV.bel])
  refine acalls_of envOk Tryd.func17 rfl (by kernel_rfl) (m := 10) rfl ?_
  simp only [ty30, T30, ext35, Kreg_go, Qseq_normal, aregL_nil, aregL_plain, awpL_region, awpL_seq, aop_move, aop_assign, aop_new, aop_call, acallF_go, ev, cst, putT, zeroC, aalloc, List.getD_cons_zero, List.getD_cons_succ, List.set_cons_zero, List.set_cons_succ, List.length_cons, List.length_nil, List.map_cons, List.map_nil, List.cons_append, List.nil_append, List.append_nil, List.reduceReplicate, Nat.reduceAdd, Nat.zero_add]
  refine (sclasses_ok sz L).at [0, 1, 2] (by simp [Sc, sbl, ren_var, ren_map, bel_var, bel_map, AV.renL, AV.ren, AV.belL, AV.bel, rn]) (by simp) (by simp [Tb]) (by simp [AV.ren, rn]) (by simp [AV.belL, AV.bel]) (WK.now ?_)
  simp only [Sc, ext42, Kreg_go, aregL_plain, lift, putAll, rn, AV.ren, AV.renL, ren_var, ren_map, aop_move, aop_call, acallF_go, ev, putT, List.getD_cons_zero, List.getD_cons_succ, List.set_cons_zero, List.set_cons_succ, List.length_cons, List.length_nil, List.map_cons, List.map_nil, List.append_nil, List.drop_succ_cons, List.drop_nil, Nat.reduceAdd, Nat.reduceSub, Nat.reduceLT, if_true, Nat.zero_add]
  refine (getC_ok sz L k).at [0, 1] (by simp [Tb, sbl, ren_var, ren_map, bel_var, bel_map, AV.renL, AV.ren, AV.belL, AV.bel, rn]) (by simp) (by simp [Tb]) (by simp [AV.ren, rn]) (by simp [AV.belL, AV.bel]) (WK.now ?_)
  simp only [Tb, gotC, fC, cD, ty30, T30, Kat_go, Kst_go, Kreg_go, Qseq_normal, aret_ret, aregL_nil, aregL_plain, awpL_ret, lift, putAll, rn, AV.ren, AV.renL, ren_var, ren_map, aop_assign, aop_extract, aop_store, ev, putT, aext, esz, splice, AV.cells, D.cells, astore, List.getD_cons_zero, List.getD_cons_succ, List.set_cons_zero, List.set_cons_succ, List.getElem?_cons_zero, List.getElem?_cons_succ, List.length_cons, List.length_nil, List.map_cons, List.map_nil, List.nil_append, List.append_nil, List.take_zero, List.drop_succ_cons, List.drop_nil, Nat.reduceAdd, Nat.reduceSub, Nat.reduceLeDiff, Nat.reduceLT, true_and, if_true, Nat.zero_add]
  refine WK.now ?_
  simp only [ty30, T30, Tryd.results17, Kcons_go, Kres_go, Kone_go, Kfin_go, aresL_nil, aresL_tmp, aresL_cell, allDefr_nil, offs_nil, aload, ldK, mkAgg, mkTup, allD, one?, List.getD_cons_zero, List.getD_cons_succ, List.length_cons, List.length_nil, List.take_succ_cons, List.take_nil, List.drop_zero, Nat.reduceAdd, Nat.reduceLeDiff, true_and, Nat.zero_add, List.toList_toArray]
  first | done | exact ⟨_, rfl⟩ | exact ⟨rfl, _, rfl⟩
def addF {α : Type} (sz : Int) (L : List (Int × α)) (k : Int) : Option (Int × Int) := (addE sz L k).map fun c => (c, 0)
theorem sadd_ok (sz : Int) (L : List (Int × Cls)) (c : Cls) (h : 0 ≤ sz ∧ sz ≤ 9223372036854775807 ∧ L.length ≤ 4611686018427387904) :
    ACalls env 13 [.pvar 2 0, .d (fC c)] (Sc sz L) fun r H' => r = .d (errF (addF sz L c.1)) ∧ H' = Sc sz (addL sz L c.1 c) := by
  unfold Sc
  refine ACalls.cutTo [0, 1, 2] rfl ?_ (fun l => by simp [sbl, ren_var, ren_map, bel_var, bel_map, AV.renL, AV.ren, AV.belL, AV.bel, rn]) (fun m => by simp [tellL, AV.ren, AV.bel])
  refine acalls_of envOk Tryd.func13 rfl (by kernel_rfl) (m := 16) rfl ?_
  simp only [fC, cD, errF, ty73, T73, Kreg_go, Qseq_normal, aregL_nil, aregL_plain, awpL_region, awpL_draw, awpL_seq, aop_assign, aop_box, aop_new, ev, cst, putT, zeroC, AV.cells, D.cells, abox, aalloc, List.getD_cons_zero, List.getD_cons_succ, List.set_cons_zero, List.set_cons_succ, List.length_cons, List.length_nil, List.map_cons, List.map_nil, List.cons_append, List.nil_append, List.reduceReplicate, Nat.reduceAdd, Nat.zero_add]
  refine DRegL.two [0, 2, 3, 4] [1, 5, 6] (by unfold Draw2; kernel_rfl) (by kernel_rfl) (by kernel_rfl) ?_
  simp only [ty3, T3, ty30, T30, ext35, Kdr_go, adrawL_nil, adrawL_plain, Kt0_go, atailL_plain, pickL_nil, pickL_cons, aop_call, qop_move, qop_load, qop_fieldAddr, acallF_go, ev, putT, fld, afldAddr, aload, ldK, kd, esz, mkAgg, allD, List.getD_cons_zero, List.getD_cons_succ, List.set_cons_zero, List.set_cons_succ, List.getElem?_cons_zero, List.getElem?_cons_succ, List.length_cons, List.length_nil, List.map_cons, List.map_nil, List.append_nil, List.take_succ_cons, List.take_nil, List.drop_zero, Nat.reduceAdd, Nat.reduceLeDiff, true_and, reduceCtorEq, ne_eq, not_false_eq_true, Nat.zero_add, Nat.add_zero]
  refine (sclasses_ok sz L).at [0, 1, 2] (by simp [Sc, sbl, ren_var, ren_map, bel_var, bel_map, AV.renL, AV.ren, AV.belL, AV.bel, rn]) (by simp) (by simp [Tb]) (by simp [AV.ren, rn]) (by simp [AV.belL, AV.bel]) ?_
  simp only [Sc, ty3, T3, ty30, T30, ext36, Kdr_go, adrawL_nil, adrawL_plain, Same_go, Kt_go, atailL_plain, lift, putAll, rn, AV.ren, AV.renL, ren_var, ren_map, aop_call, qop_move, qop_load, qop_fieldAddr, acallF_go, ev, putT, fld, afldAddr, aload, ldK, kd, esz, mkAgg, allD, List.getD_cons_zero, List.getD_cons_succ, List.set_cons_zero, List.set_cons_succ, List.getElem?_cons_zero, List.length_cons, List.length_nil, List.map_cons, List.map_nil, List.append_nil, List.take_succ_cons, List.take_nil, List.drop_succ_cons, List.drop_zero, List.drop_nil, Nat.reduceAdd, Nat.reduceSub, Nat.reduceLeDiff, Nat.reduceLT, true_and, if_true, reduceCtorEq, ne_eq, not_false_eq_true, Nat.zero_add, Nat.add_zero, and_self]
  refine (addC_ok sz L c.1 c h).at [0, 1] (by simp [Tb, sbl, ren_var, ren_map, bel_var, bel_map, AV.renL, AV.ren, AV.belL, AV.bel, rn]) (by simp) (by simp [Tb]) (by simp [fC, cD, AV.ren, rn]) (by simp [AV.belL, AV.bel]) ?_
  simp only [Tb, ty3, T3, ty30, T30, ty77, T77, ext37, Kreg_go, Kdr_go, Qseq_normal, aregL_plain, adrawL_nil, adrawL_plain, awpL_region, awpL_seq, Same_go, Kt_go, atailL_nil, atailL_plain, lift, putAll, rn, AV.ren, AV.renL, ren_var, ren_map, aop_move, aop_assign, aop_makeInterface, aop_call, qop_move, qop_load, qop_fieldAddr, acallF_go, ev, putT, fld, afldAddr, aload, ldK, kd, esz, mkAgg, mkIface, allD, List.getD_cons_zero, List.getD_cons_succ, List.set_cons_zero, List.set_cons_succ, List.getElem?_cons_zero, List.length_cons, List.length_nil, List.map_cons, List.map_nil, List.append_nil, List.take_succ_cons, List.take_nil, List.drop_succ_cons, List.drop_zero, List.drop_nil, Nat.reduceAdd, Nat.reduceSub, Nat.reduceLeDiff, Nat.reduceLT, true_and, if_true, reduceCtorEq, ne_eq, not_false_eq_true, Nat.zero_add, Nat.add_zero, and_self]
  unfold addF
  cases hE : addE sz L c.1 with
  | none =>
    simp only [errD, Option.map_none]
    refine (as_nil [.var [.d (.int .i64 0)]] (.iface 77 (.pvar 0 0))).at [4] (by simp [sbl, ren_var, bel_var, AV.renL, AV.ren, AV.belL, AV.bel]) (by simp) (by simp [Tb]) (by simp [AV.ren, rn]) (by simp [AV.belL, AV.bel]) (WK.now ?_)
    simp only [Kreg_go, Qseq_normal, Kbr_false, aret_ret, aregL_nil, aregL_plain, awpL_skip, awpL_region, awpL_seq, awpL_cond, awpL_ret, lift, putAll, AV.ren, AV.renL, ren_var, aop_assign, ev, cst, putT, List.getD_cons_zero, List.getD_cons_succ, List.set_cons_zero, List.set_cons_succ, List.length_cons, List.length_nil, List.map_cons, List.map_nil, List.append_nil, List.drop_succ_cons, List.drop_nil, Nat.reduceAdd, Nat.zero_add]
    refine WK.now ?_
    simp only [Tryd.results13, Kcons_go, Kone_go, Kfin_go, aresL_nil, aresL_tmp, allDefr_nil, offs_nil, one?, List.getD_cons_zero, List.getD_cons_succ, true_and, List.toList_toArray]
    first | done | exact ⟨_, rfl⟩ | exact ⟨rfl, _, rfl⟩
  | some e =>
    simp only [errD, Option.map_some]
    refine (as_hit e (.d (.int .i64 0))).at [4] (by simp [sbl, ren_var, bel_var, AV.renL, AV.ren, AV.belL, AV.bel]) (by simp) (by simp [Tb]) (by simp [AV.ren, rn]) (by simp [AV.belL, AV.bel]) (WK.now ?_)
    simp only [ty73, T73, ext38, Kat_go, Kreg_go, Qseq_normal, Kbr_true, aregL_nil, aregL_plain, awpL_region, awpL_seq, awpL_cond, lift, putAll, AV.ren, AV.renL, ren_var, aop_load, aop_call, acallF_go, ev, cst, putT, aload, ldK, List.getD_cons_zero, List.getD_cons_succ, List.set_cons_zero, List.set_cons_succ, List.getElem?_cons_zero, List.length_cons, List.length_nil, List.map_cons, List.map_nil, List.append_nil, List.drop_succ_cons, List.drop_nil, Nat.reduceAdd, Nat.zero_add]
    refine (fnew_ok e 0).go (by first | exact ⟨.inl rfl, trivial⟩ | exact ⟨.inl rfl, .inl rfl, trivial⟩ | exact ⟨.inl rfl, .inl rfl, .inl rfl, trivial⟩ | simp [argsOk, argOk, sl, sll]) (WK.now ?_)
    simp only [errF, Kreg_go, Qseq_normal, Qseq_ret, aret_ret, aregL_nil, aregL_plain, awpL_ret, aop_assign, ev, putT, List.getD_cons_zero, List.getD_cons_succ, List.set_cons_zero, List.set_cons_succ]
    refine WK.now ?_
    simp only [Tryd.results13, Kcons_go, Kone_go, Kfin_go, aresL_nil, aresL_tmp, allDefr_nil, offs_nil, one?, List.getD_cons_zero, List.getD_cons_succ, true_and, List.toList_toArray]
    first | done | exact ⟨_, rfl⟩ | exact ⟨rfl, _, rfl⟩
theorem sadd_nil (c : Cls) : PCall env 13 [.nilp, fC c] (errF (some (5, 0))) := by
  refine acalls_of envOk Tryd.func13 rfl (by kernel_rfl) (m := 16) rfl ?_
  simp only [fC, cD, errF, ty73, T73, Kreg_go, Qseq_normal, aregL_nil, aregL_plain, awpL_region, awpL_draw, awpL_seq, aop_assign, aop_box, aop_new, ev, cst, putT, zeroC, AV.cells, D.cells, abox, aalloc, List.getD_cons_zero, List.getD_cons_succ, List.set_cons_zero, List.set_cons_succ, List.length_cons, List.length_nil, List.map_cons, List.map_nil, List.cons_append, List.nil_append, List.reduceReplicate, Nat.zero_add]
  refine DRegL.two [0, 2, 3, 4] [1, 5, 6] (by unfold Draw2; kernel_rfl) (by kernel_rfl) (by kernel_rfl) ?_
  simp only [ty3, T3, ty30, T30, ext35, Kdr_go, adrawL_nil, adrawL_plain, Kt0_go, atailL_plain, pickL_nil, pickL_cons, aop_call, qop_move, qop_load, qop_fieldAddr, acallF_go, ev, putT, fld, afldAddr, aload, ldK, kd, esz, mkAgg, allD, List.getD_cons_zero, List.getD_cons_succ, List.set_cons_zero, List.set_cons_succ, List.getElem?_cons_zero, List.getElem?_cons_succ, List.length_cons, List.length_nil, List.map_cons, List.map_nil, List.append_nil, List.take_succ_cons, List.take_nil, List.drop_zero, Nat.reduceAdd, Nat.reduceLeDiff, true_and, reduceCtorEq, ne_eq, not_false_eq_true, Nat.zero_add, Nat.add_zero]
  refine sclasses_nil.go (by first | exact ⟨.inl rfl, trivial⟩ | exact ⟨.inl rfl, .inl rfl, trivial⟩ | exact ⟨.inl rfl, .inl rfl, .inl rfl, trivial⟩ | simp [argsOk, argOk, sl, sll]) ?_
  simp only [ty3, T3, ty30, T30, ext36, Kdr_go, adrawL_nil, adrawL_plain, Same_go, Kt_go, atailL_plain, aop_call, qop_move, qop_load, qop_fieldAddr, acallF_go, ev, putT, fld, afldAddr, aload, ldK, kd, esz, mkAgg, allD, List.getD_cons_zero, List.getD_cons_succ, List.set_cons_zero, List.set_cons_succ, List.getElem?_cons_zero, List.length_cons, List.length_nil, List.map_cons, List.map_nil, List.append_nil, List.take_succ_cons, List.take_nil, List.drop_zero, Nat.reduceAdd, Nat.reduceLeDiff, true_and, reduceCtorEq, ne_eq, not_false_eq_true, Nat.zero_add, Nat.add_zero, and_self]
  refine (addC_nil c.1 c).go (by first | exact ⟨.inl rfl, trivial⟩ | exact ⟨.inl rfl, .inl rfl, trivial⟩ | exact ⟨.inl rfl, .inl rfl, .inl rfl, trivial⟩ | simp [argsOk, argOk, sl, sll]) ?_
  simp only [errD, ty3, T3, ty30, T30, ty77, T77, ext37, Kreg_go, Kdr_go, Qseq_normal, aregL_plain, adrawL_nil, adrawL_plain, awpL_region, awpL_seq, Same_go, Kt_go, atailL_nil, atailL_plain, aop_move, aop_assign, aop_makeInterface, aop_call, qop_move, qop_load, qop_fieldAddr, acallF_go, ev, putT, fld, afldAddr, aload, ldK, kd, esz, mkAgg, mkIface, allD, List.getD_cons_zero, List.getD_cons_succ, List.set_cons_zero, List.set_cons_succ, List.getElem?_cons_zero, List.length_cons, List.length_nil, List.map_cons, List.map_nil, List.append_nil, List.take_succ_cons, List.take_nil, List.drop_zero, Nat.reduceAdd, Nat.reduceLeDiff, true_and, reduceCtorEq, ne_eq, not_false_eq_true, Nat.zero_add, Nat.add_zero, and_self]
  refine (as_hit 5 (.d (.int .i64 0))).at [1] (by simp [sbl, ren_var, bel_var, AV.renL, AV.ren, AV.belL, AV.bel]) (by simp) (by simp [Tb]) (by simp [AV.ren, rn]) (by simp [AV.belL, AV.bel]) (WK.now ?_)
  simp only [ty73, T73, ext38, Kat_go, Kreg_go, Qseq_normal, Kbr_true, aregL_nil, aregL_plain, awpL_region, awpL_seq, awpL_cond, lift, putAll, AV.ren, AV.renL, ren_var, aop_load, aop_call, acallF_go, ev, cst, putT, aload, ldK, List.getD_cons_zero, List.getD_cons_succ, List.set_cons_zero, List.set_cons_succ, List.getElem?_cons_zero, List.length_cons, List.length_nil, List.map_cons, List.map_nil, List.append_nil, List.drop_succ_cons, List.drop_nil, Nat.reduceAdd, Nat.zero_add]
  refine (fnew_ok 5 0).go (by first | exact ⟨.inl rfl, trivial⟩ | exact ⟨.inl rfl, .inl rfl, trivial⟩ | exact ⟨.inl rfl, .inl rfl, .inl rfl, trivial⟩ | simp [argsOk, argOk, sl, sll]) (WK.now ?_)
  simp only [errF, Kreg_go, Qseq_normal, Qseq_ret, aret_ret, aregL_nil, aregL_plain, awpL_ret, aop_assign, ev, putT, List.getD_cons_zero, List.getD_cons_succ, List.set_cons_zero, List.set_cons_succ]
  refine WK.now ?_
  simp only [Tryd.results13, Kcons_go, Kone_go, Kfin_go, aresL_nil, aresL_tmp, allDefr_nil, offs_nil, one?, List.getD_cons_zero, List.getD_cons_succ, and_self, List.toList_toArray]
end Go.Proofs.YtjljjakfebfpfaaDoor
