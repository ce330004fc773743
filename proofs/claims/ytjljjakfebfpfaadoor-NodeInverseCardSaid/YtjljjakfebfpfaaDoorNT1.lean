/-
  The walks of a table's functions at the elements nodes: what each makes of the table, by value.
-/
import Derived.Test.YtjljjakfebfpfaaDoorNV3
import Derived.Test.YtjljjakfebfpfaaDoorAbsT
import Derived.Test.YtjljjakfebfpfaaDoorCSort
import Derived.Test.YtjljjakfebfpfaaDoorAbsS
set_option autoImplicit false
set_option linter.unusedVariables false
set_option linter.unusedSimpArgs false
namespace Go.Proofs.YtjljjakfebfpfaaDoor
open Go.Abs

theorem newE_ok (n : Int) : ACalls env 46 [.d (.int .i64 n)] [] fun r H' => r = .pvar 1 0 ∧ H' = Tb fE (max n 0) [] := by
  refine acalls_of envOk Tryd.func46 rfl (by kernel_rfl) (m := 7) rfl ?_
  simp only [ty3, T3, ty128, T128, ty130, T130, Kat_go, Kreg_go, Qseq_normal, aret_ret, aregL_nil, aregL_plain, awpL_region, awpL_seq, awpL_ret, aop_makeMap, amkmap, aop_move, aop_assign, aop_build, aop_box, aop_max, apureCall, ev, cst, putT, kd, esz, abuild, zeroC, aplace, afill, splice, AV.cells, D.cells, mkAgg, allD, known, abox, List.getD_cons_zero, List.getD_cons_succ, List.set_cons_zero, List.set_cons_succ, List.getElem?_cons_zero, List.getElem?_cons_succ, List.length_cons, List.length_nil, List.map_cons, List.map_nil, List.cons_append, List.nil_append, List.append_nil, List.take_succ_cons, List.take_zero, List.drop_succ_cons, List.drop_zero, List.drop_nil, List.all_cons, List.all_nil, List.reduceReplicate, Nat.reduceAdd, Nat.reduceLeDiff, Option.isSome_some, Option.map_none, Bool.and_true, true_and, if_true, Nat.zero_add, and_self]
  refine WK.now ?_
  simp only [Tryd.results46, Kcons_go, Kone_go, Kfin_go, aresL_nil, aresL_tmp, allDefr_nil, offs_nil, one?, List.getD_cons_zero, List.getD_cons_succ, true_and, List.toList_toArray]
  rfl
def gotE (L : List (Int × (Ent))) (k : Int) : D := .tup [((lget L k).map fE).getD (.agg [.int .i64 0, .nils, .nils]), .bool (lget L k).isSome]
theorem getE_ok (sz : Int) (L : List (Int × (Ent))) (k : Int) : ACalls env 59 [.pvar 1 0, .d (.int .i64 k)] (Tb fE sz L) fun r H' => r = .d (gotE L k) ∧ H' = Tb fE sz L := by
  unfold Tb
  refine ACalls.cutTo [0, 1] rfl ?_ (fun l => by simp [sbl, ren_var, ren_map, bel_var, bel_map, AV.renL, AV.ren, AV.belL, AV.bel, rn]) (fun m => by simp [tellL, AV.ren, AV.bel])
  refine acalls_of envOk Tryd.func59 rfl (by kernel_rfl) (m := 21) rfl ?_
  cases hl : lget L k with
  | none =>
    simp only [hl, Option.map_none, Option.getD_none, Option.isSome_none, key3, entE_get, entE_all, isIntK_int, ty86, T86, ty89, T89, ty128, T128, ty130, T130, Kat_go, Kst_go, Kreg_go, Qseq_normal, Kbr_false, aret_ret, aregL_nil, aregL_plain, awpL_skip, awpL_region, awpL_seq, awpL_cond, awpL_ret, aop_lookup, alook, zeroV, TI.zv, lookRes, aop_move, aop_assign, aop_load, aop_nilCheck, aop_binOp, aop_fieldAddr, aop_extract, aop_new, aop_store, ev, cst, putT, aopBin, isSl, abin, bEq, acmp, ptrish, anil, fld, afldAddr, aext, aload, ldK, kd, esz, zeroC, splice, AV.cells, D.cells, mkAgg, allD, aalloc, astore, List.getD_cons_zero, List.getD_cons_succ, List.set_cons_zero, List.set_cons_succ, List.getElem?_cons_zero, List.getElem?_cons_succ, List.length_cons, List.length_nil, List.map_cons, List.map_nil, List.cons_append, List.nil_append, List.append_nil, List.take_succ_cons, List.take_zero, List.take_nil, List.drop_succ_cons, List.drop_zero, List.drop_nil, List.reduceReplicate, Nat.reduceAdd, Nat.reduceLeDiff, Option.map_none, true_and, reduceCtorEq, ne_eq, not_false_eq_true, Nat.zero_add, Option.getD_none, Option.isSome_none]
    refine WK.now ?_
    simp only [gotE, hl, Option.map_none, Option.getD_none, Option.isSome_none, ty89, T89, Tryd.results59, Kcons_go, Kres_go, Kone_go, Kfin_go, aresL_nil, aresL_tmp, aresL_cell, allDefr_nil, offs_nil, aload, ldK, mkAgg, mkTup, allD, one?, List.getD_cons_zero, List.getD_cons_succ, List.length_cons, List.length_nil, List.take_succ_cons, List.take_nil, List.drop_zero, Nat.reduceAdd, Nat.reduceLeDiff, Option.map_none, true_and, Nat.zero_add, Option.getD_none, Option.isSome_none, List.toList_toArray]
    first | done | exact ⟨_, rfl⟩ | exact ⟨rfl, _, rfl⟩
  | some v =>
    simp only [hl, Option.map_some, Option.getD_some, Option.isSome_some, key3, entE_get, entE_all, isIntK_int, fE, ty86, T86, ty89, T89, ty128, T128, ty130, T130, Kat_go, Kst_go, Kreg_go, Qseq_normal, Kbr_false, aret_ret, aregL_nil, aregL_plain, awpL_skip, awpL_region, awpL_seq, awpL_cond, awpL_ret, aop_lookup, alook, zeroV, TI.zv, lookRes, aop_move, aop_assign, aop_load, aop_nilCheck, aop_binOp, aop_fieldAddr, aop_extract, aop_new, aop_store, ev, cst, putT, aopBin, isSl, abin, bEq, acmp, ptrish, anil, fld, afldAddr, aext, aload, ldK, kd, esz, zeroC, splice, AV.cells, D.cells, mkAgg, allD, aalloc, astore, List.getD_cons_zero, List.getD_cons_succ, List.set_cons_zero, List.set_cons_succ, List.getElem?_cons_zero, List.getElem?_cons_succ, List.length_cons, List.length_nil, List.map_cons, List.map_nil, List.cons_append, List.nil_append, List.append_nil, List.take_succ_cons, List.take_zero, List.take_nil, List.drop_succ_cons, List.drop_zero, List.drop_nil, List.reduceReplicate, Nat.reduceAdd, Nat.reduceLeDiff, Option.isSome_some, Option.map_some, true_and, reduceCtorEq, ne_eq, not_false_eq_true, Nat.zero_add, Option.getD_some]
    refine WK.now ?_
    simp only [gotE, hl, Option.map_some, Option.getD_some, Option.isSome_some, fE, ty89, T89, Tryd.results59, Kcons_go, Kres_go, Kone_go, Kfin_go, aresL_nil, aresL_tmp, aresL_cell, allDefr_nil, offs_nil, aload, ldK, mkAgg, mkTup, allD, one?, List.getD_cons_zero, List.getD_cons_succ, List.length_cons, List.length_nil, List.take_succ_cons, List.take_nil, List.drop_zero, Nat.reduceAdd, Nat.reduceLeDiff, Option.isSome_some, Option.map_some, true_and, Nat.zero_add, Option.getD_some, List.toList_toArray]
    first | done | exact ⟨_, rfl⟩ | exact ⟨rfl, _, rfl⟩
theorem getE_nil (k : Int) : PCall env 59 [.nilp, .int .i64 k] (.tup [.agg [.int .i64 0, .nils, .nils], .bool false]) := by
  refine acalls_of envOk Tryd.func59 rfl (by kernel_rfl) (m := 21) rfl ?_
  simp only [ty86, T86, ty89, T89, Kat_go, Kst_go, Kreg_go, Qseq_normal, Qseq_ret, Kbr_true, aret_ret, aregL_nil, aregL_plain, awpL_region, awpL_seq, awpL_cond, awpL_ret, aop_move, aop_assign, aop_load, aop_binOp, aop_new, aop_store, ev, cst, putT, aopBin, isSl, abin, bEq, acmp, ptrish, aload, ldK, kd, esz, zeroC, splice, AV.cells, D.cells, mkAgg, allD, aalloc, astore, List.getD_cons_zero, List.getD_cons_succ, List.set_cons_zero, List.set_cons_succ, List.length_cons, List.length_nil, List.map_cons, List.map_nil, List.cons_append, List.nil_append, List.append_nil, List.take_succ_cons, List.take_zero, List.take_nil, List.drop_succ_cons, List.drop_zero, List.drop_nil, List.reduceReplicate, Nat.reduceAdd, Nat.reduceLeDiff, true_and, Nat.zero_add]
  refine WK.now ?_
  simp only [ty89, T89, Tryd.results59, Kcons_go, Kres_go, Kone_go, Kfin_go, aresL_nil, aresL_tmp, aresL_cell, allDefr_nil, offs_nil, aload, ldK, mkAgg, mkTup, allD, one?, List.getD_cons_zero, List.getD_cons_succ, List.length_cons, List.length_nil, List.take_succ_cons, List.take_nil, List.drop_zero, Nat.reduceAdd, Nat.reduceLeDiff, Nat.zero_add, and_self, List.toList_toArray]
theorem hasE_ok (sz : Int) (L : List (Int × (Ent))) (k : Int) : ACalls env 72 [.pvar 1 0, .d (.int .i64 k)] (Tb fE sz L) fun r H' => r = .d (.bool (lget L k).isSome) ∧ H' = Tb fE sz L := by
  refine ACalls.cutTo [0, 1] rfl ?_ (fun l => by simp [Tb, sbl, ren_var, ren_map, bel_var, bel_map, AV.renL, AV.ren, AV.belL, AV.bel, rn]) (fun m => by simp [tellL, AV.ren, AV.bel])
  refine acalls_of envOk Tryd.func72 rfl (by kernel_rfl) (m := 12) rfl ?_
  simp only [ext59, Kreg_go, Qseq_normal, aregL_nil, aregL_plain, awpL_region, awpL_seq, aop_move, aop_assign, aop_call, acallF_go, ev, cst, putT, List.getD_cons_zero, List.getD_cons_succ, List.set_cons_zero, List.set_cons_succ, List.map_cons, List.map_nil, List.cons_append, List.nil_append, List.append_nil, List.reduceReplicate]
  refine (getE_ok sz L k).thus (WK.now ?_)
  cases hl : lget L k with
  | none =>
    simp only [Tb, gotE, hl, Option.map_none, Option.getD_none, Option.isSome_none, ty89, T89, Kat_go, Kst_go, Kreg_go, Qseq_normal, aret_ret, aregL_nil, aregL_plain, awpL_region, awpL_seq, awpL_ret, aop_move, aop_assign, aop_extract, aop_new, aop_store, ev, putT, aext, esz, zeroC, splice, AV.cells, D.cells, aalloc, astore, List.getD_cons_zero, List.getD_cons_succ, List.set_cons_zero, List.set_cons_succ, List.getElem?_cons_zero, List.getElem?_cons_succ, List.length_cons, List.length_nil, List.map_cons, List.map_nil, List.cons_append, List.nil_append, List.append_nil, List.take_zero, List.drop_succ_cons, List.drop_nil, Nat.reduceAdd, Nat.reduceLeDiff, Option.map_none, true_and, Nat.zero_add, Option.getD_none, Option.isSome_none]
    refine WK.now ?_
    simp only [Tryd.results72, Kcons_go, Kone_go, Kfin_go, aresL_nil, aresL_tmp, allDefr_nil, offs_nil, one?, List.getD_cons_zero, List.getD_cons_succ, true_and, List.toList_toArray]
    first | done | exact ⟨_, rfl⟩ | exact ⟨rfl, _, rfl⟩
  | some v =>
    simp only [Tb, gotE, hl, Option.map_some, Option.getD_some, Option.isSome_some, fE, ty89, T89, Kat_go, Kst_go, Kreg_go, Qseq_normal, aret_ret, aregL_nil, aregL_plain, awpL_region, awpL_seq, awpL_ret, aop_move, aop_assign, aop_extract, aop_new, aop_store, ev, putT, aext, esz, zeroC, splice, AV.cells, D.cells, aalloc, astore, List.getD_cons_zero, List.getD_cons_succ, List.set_cons_zero, List.set_cons_succ, List.getElem?_cons_zero, List.getElem?_cons_succ, List.length_cons, List.length_nil, List.map_cons, List.map_nil, List.cons_append, List.nil_append, List.append_nil, List.take_zero, List.drop_succ_cons, List.drop_nil, Nat.reduceAdd, Nat.reduceLeDiff, Option.isSome_some, Option.map_some, true_and, Nat.zero_add, Option.getD_some]
    refine WK.now ?_
    simp only [Tryd.results72, Kcons_go, Kone_go, Kfin_go, aresL_nil, aresL_tmp, allDefr_nil, offs_nil, one?, List.getD_cons_zero, List.getD_cons_succ, true_and, List.toList_toArray]
    first | done | exact ⟨_, rfl⟩ | exact ⟨rfl, _, rfl⟩
theorem roomE_ok (sz : Int) (L : List (Int × (Ent))) (h : 0 ≤ sz ∧ sz ≤ 9223372036854775807 ∧ L.length ≤ 4611686018427387904) : ACalls env 73 [.pvar 1 0] (Tb fE sz L) fun r H' => r = .d (.int .i64 (sz - L.length)) ∧ H' = Tb fE sz L := by
  unfold Tb
  refine acalls_of envOk Tryd.func73 rfl (by kernel_rfl) (m := 14) rfl ?_
  simp only [ty86, T86, Kat_go, Kreg_go, Qseq_normal, Kbr_false, aregL_nil, aregL_plain, awpL_skip, awpL_region, awpL_draw, awpL_seq, awpL_cond, aop_move, aop_assign, aop_binOp, ev, cst, putT, aopBin, isSl, abin, bEq, acmp, ptrish, kd, List.getD_cons_zero, List.getD_cons_succ, List.set_cons_zero, List.set_cons_succ, List.length_cons, List.length_nil, List.cons_append, List.nil_append, List.reduceReplicate, Nat.reduceAdd, Nat.zero_add]
  refine DRegL.one (by unfold DrawOK; kernel_rfl) ?_
  simp only [wrapi (show -9223372036854775808 ≤ sz - (L.length : Int) by omega) (show sz - (L.length : Int) ≤ 9223372036854775807 by omega), entE_length, ty3, T3, ty128, T128, ty130, T130, Kdr_go, Qseq_normal, aret_ret, aregL_nil, adrawL_nil, adrawL_plain, awpL_ret, qop_move, qop_assign, qop_load, qop_nilCheck, qop_binOp, qop_fieldAddr, qop_len, apureCall, ev, putT, abin, aint, anil, alen, fld, afldAddr, aload, ldK, kd, esz, isEff, qpre, qtail, List.getD_cons_zero, List.getD_cons_succ, List.set_cons_zero, List.set_cons_succ, List.getElem?_cons_zero, List.getElem?_cons_succ, true_and, reduceCtorEq, ne_eq, not_false_eq_true, Nat.zero_add, Nat.add_zero]
  refine WK.now ?_
  simp only [Tryd.results73, Kcons_go, Kone_go, Kfin_go, aresL_nil, aresL_tmp, allDefr_nil, offs_nil, one?, List.getD_cons_zero, List.getD_cons_succ, and_self, List.toList_toArray]
theorem entE_putE (L : List (Int × (Ent))) (k : Int) (v : Ent) : dput (entE fE L) (.int .i64 k) (.agg [.int .i64 v.1, .slice 1 (ints v.2.1), .slice 1 (ints v.2.2)]) = entE fE (lput L k v) := entE_put fE L k v

theorem addE_ok (sz : Int) (L : List (Int × (Ent))) (k : Int) (v : Ent) (h : 0 ≤ sz ∧ sz ≤ 9223372036854775807 ∧ L.length ≤ 4611686018427387904) :
    ACalls env 52 [.pvar 1 0, .d (.int .i64 k), .d (fE v)] (Tb fE sz L) fun r H' => r = .d (errD (addE sz L k)) ∧ H' = Tb fE sz (addL sz L k v) := by
  refine ACalls.cutTo [0, 1] rfl ?_ (fun l => by simp [Tb, sbl, ren_var, ren_map, bel_var, bel_map, AV.renL, AV.ren, AV.belL, AV.bel, rn]) (fun m => by simp [tellL, AV.ren, AV.bel])
  refine acalls_of envOk Tryd.func52 rfl (by kernel_rfl) (m := 24) rfl ?_
  simp only [Tb, fE, ty86, T86, ext72, Kat_go, Kreg_go, Qseq_normal, Kbr_false, aregL_nil, aregL_plain, awpL_region, awpL_seq, awpL_cond, awpL_block, aop_move, aop_assign, aop_binOp, aop_box, aop_call, acallF_go, ev, cst, putT, aopBin, isSl, abin, bEq, acmp, ptrish, kd, AV.cells, D.cells, abox, List.getD_cons_zero, List.getD_cons_succ, List.set_cons_zero, List.set_cons_succ, List.length_cons, List.length_nil, List.map_cons, List.map_nil, List.cons_append, List.nil_append, List.append_nil, List.reduceReplicate, Nat.reduceAdd, Nat.zero_add]
  refine (hasE_ok sz L k).at [0, 1] (by simp [Tb, sbl, ren_var, ren_map, bel_var, bel_map, AV.renL, AV.ren, AV.belL, AV.bel, rn]) (by simp) (by simp [Tb]) (by simp [AV.ren, rn]) (by simp [AV.belL, AV.bel]) (WK.now ?_)
  simp only [Tb, Kreg_go, Qseq_normal, aregL_nil, aregL_plain, awpL_cond, lift, putAll, rn, AV.ren, AV.renL, ren_var, ren_map, aop_assign, ev, putT, List.getD_cons_zero, List.getD_cons_succ, List.set_cons_zero, List.set_cons_succ, List.length_cons, List.length_nil, List.map_cons, List.map_nil, List.append_nil, List.drop_succ_cons, List.drop_nil, Nat.reduceAdd, Nat.reduceSub, Nat.reduceLT, if_true, Nat.zero_add]
  refine Kbr.mk (fun c => ?_) (fun c => ?_)
  · simp only [ty73, T73, Kreg_go, Qseq_normal, Qseq_ret, Qblk_ret, aret_ret, aregL_nil, aregL_plain, awpL_region, awpL_seq, awpL_ret, aop_assign, aop_makeInterface, ev, cst, putT, kd, mkIface, List.getD_cons_zero, List.getD_cons_succ, List.set_cons_zero, List.set_cons_succ]
    refine WK.now ?_
    simp only [addE, addL, c, errD, Tryd.results52, Kcons_go, Kone_go, Kfin_go, aresL_nil, aresL_tmp, allDefr_nil, offs_nil, one?, List.getD_cons_zero, List.getD_cons_succ, true_and, if_true, List.toList_toArray]
    first | done | exact ⟨_, rfl⟩ | exact ⟨rfl, _, rfl⟩
  · simp only [ext73, Kreg_go, aregL_plain, awpL_region, awpL_seq, aop_move, aop_call, acallF_go, ev, putT, List.getD_cons_zero, List.getD_cons_succ, List.set_cons_zero, List.set_cons_succ, List.map_cons, List.map_nil, List.append_nil]
    refine (roomE_ok sz L h).at [0, 1] (by simp [Tb, sbl, ren_var, ren_map, bel_var, bel_map, AV.renL, AV.ren, AV.belL, AV.bel, rn]) (by simp) (by simp [Tb]) (by simp [AV.ren, rn]) (by simp [AV.belL, AV.bel]) (WK.now ?_)
    simp only [Tb, ty3, T3, Kat_go, Kreg_go, Qseq_normal, aregL_nil, aregL_plain, awpL_cond, lift, putAll, rn, AV.ren, AV.renL, ren_var, ren_map, aop_assign, aop_binOp, ev, cst, putT, aopBin, isSl, abin, aint, kd, List.getD_cons_zero, List.getD_cons_succ, List.set_cons_zero, List.set_cons_succ, List.length_cons, List.length_nil, List.map_cons, List.map_nil, List.append_nil, List.drop_succ_cons, List.drop_nil, Nat.reduceAdd, Nat.reduceSub, Nat.reduceLT, true_and, if_true, Nat.zero_add]
    refine Kbr.mk (fun c2 => ?_) (fun c2 => ?_)
    · have e : sz = L.length := by have := of_decide_eq_true c2; omega
      simp only [ty73, T73, Kreg_go, Qseq_normal, Qseq_ret, Qblk_ret, aret_ret, aregL_nil, aregL_plain, awpL_region, awpL_seq, awpL_ret, aop_assign, aop_makeInterface, ev, cst, putT, kd, mkIface, List.getD_cons_zero, List.getD_cons_succ, List.set_cons_zero, List.set_cons_succ]
      refine WK.now ?_
      simp [addE, addL, c, errD, e, Kfin, allDefr, offs, aresL, Kone, one?]
    · have e : ¬ sz = L.length := by have := of_decide_eq_false c2; omega
      simp only [Qseq_normal, Qblk_normal, awpL_skip, awpL_draw, awpL_seq]
      try refine DRegL.one (by unfold DrawOK; kernel_rfl) ?_
      try simp only [entE_putE, key3, entE_all, isIntK_int, ty89, T89, ty128, T128, ty130, T130, Kst_go, Kreg_go, Kdr_go, Qseq_normal, aret_ret, aregL_nil, aregL_plain, adrawL_nil, adrawL_plain, awpL_region, awpL_seq, awpL_ret, aop_mapUpdate, amapup, aop_assign, qop_move, qop_load, qop_nilCheck, qop_fieldAddr, ev, cst, putT, anil, fld, afldAddr, aload, ldK, kd, esz, mkAgg, allD, AV.low, isEff, qpre, qtail, List.getD_cons_zero, List.getD_cons_succ, List.set_cons_zero, List.set_cons_succ, List.getElem?_cons_zero, List.getElem?_cons_succ, List.length_cons, List.length_nil, List.take_succ_cons, List.take_nil, List.drop_zero, Nat.reduceAdd, Nat.reduceLeDiff, true_and, reduceCtorEq, ne_eq, not_false_eq_true, Nat.zero_add]
      refine WK.now ?_
      simp [addE, addL, c, errD, e, Kfin, allDefr, offs, aresL, Kone, one?]
theorem addE_nil (k : Int) (v : Ent) : PCall env 52 [.nilp, .int .i64 k, fE v] (errD (some 5)) := by
  refine acalls_of envOk Tryd.func52 rfl (by kernel_rfl) (m := 24) rfl ?_
  simp only [fE, ty73, T73, ty86, T86, Kat_go, Kreg_go, Qseq_normal, Qseq_ret, Qblk_ret, Kbr_true, aret_ret, aregL_nil, aregL_plain, awpL_region, awpL_seq, awpL_cond, awpL_block, awpL_ret, aop_move, aop_assign, aop_binOp, aop_makeInterface, aop_box, ev, cst, putT, aopBin, isSl, abin, bEq, acmp, ptrish, kd, AV.cells, D.cells, mkIface, abox, List.getD_cons_zero, List.getD_cons_succ, List.set_cons_zero, List.set_cons_succ, List.length_nil, List.map_cons, List.map_nil, List.cons_append, List.nil_append, List.reduceReplicate]
  refine WK.now ?_
  simp only [errD, Tryd.results52, Kcons_go, Kone_go, Kfin_go, aresL_nil, aresL_tmp, allDefr_nil, offs_nil, one?, List.getD_cons_zero, List.getD_cons_succ, and_self, List.toList_toArray]

theorem keysE_ok (es : List (D × D)) : ACalls env 79 [.mapo 0] [.map es] fun r H' => r = .func 90 [.pvar 1 0] ∧ H' = [.map es, .var [.mapo 0]] := by
  refine acalls_of envOk Tryd.func79 rfl (by kernel_rfl) (m := 3) rfl ?_
  simp only [Kreg_go, Qseq_normal, aret_ret, aregL_nil, aregL_plain, awpL_region, awpL_seq, awpL_ret, aop_assign, aop_makeFunc, aop_box, ev, cst, putT, AV.cells, mkFunc, allD, abox, List.getD_cons_zero, List.getD_cons_succ, List.set_cons_zero, List.set_cons_succ, List.length_cons, List.length_nil, List.map_cons, List.map_nil, List.cons_append, List.nil_append, List.reduceReplicate, true_and, Nat.zero_add]
  refine WK.now ?_
  simp only [Tryd.results79, Kcons_go, Kone_go, Kfin_go, aresL_nil, aresL_tmp, allDefr_nil, offs_nil, one?, List.getD_cons_zero, List.getD_cons_succ, and_self, List.toList_toArray]
theorem idsE_nil : PCall env 61 [.nilp] .nils := by
  refine acalls_of envOk Tryd.func61 rfl (by kernel_rfl) (m := 19) rfl ?_
  simp only [ty86, T86, Kat_go, Kreg_go, Qseq_normal, Qseq_ret, Kbr_true, aret_ret, aregL_nil, aregL_plain, awpL_region, awpL_seq, awpL_cond, awpL_ret, aop_move, aop_assign, aop_binOp, ev, cst, putT, aopBin, isSl, abin, bEq, acmp, ptrish, kd, List.getD_cons_zero, List.getD_cons_succ, List.set_cons_zero, List.set_cons_succ, List.length_nil, List.map_cons, List.map_nil, List.cons_append, List.nil_append, List.reduceReplicate]
  refine WK.now ?_
  simp only [Tryd.results61, Kcons_go, Kone_go, Kfin_go, aresL_nil, aresL_tmp, allDefr_nil, offs_nil, one?, List.getD_cons_zero, List.getD_cons_succ, and_self, List.toList_toArray]

theorem idsE_ok (sz : Int) (L : List (Int × (Ent))) (h : L.length ≤ 1000000000) :
    ACalls env 61 [.pvar 1 0] (Tb fE sz L) fun r H' => r = .sfull 2 ∧ H' = Tb fE sz L ++ [.arr 3 1 (ints (srt (L.map (·.1)))), .none] := by
  unfold Tb
  refine acalls_of envOk Tryd.func61 rfl (by kernel_rfl) (m := 19) rfl ?_
  simp only [ty66, T66, ty86, T86, ty128, T128, ty130, T130, ext79, Kat_go, Kreg_go, Qseq_normal, Kbr_false, aregL_nil, aregL_plain, awpL_skip, awpL_region, awpL_seq, awpL_cond, aop_move, aop_assign, aop_load, aop_nilCheck, aop_binOp, aop_fieldAddr, aop_new, aop_call, acallF_go, ev, cst, putT, aopBin, isSl, abin, bEq, acmp, ptrish, anil, fld, afldAddr, aload, ldK, kd, esz, zeroC, aalloc, List.getD_cons_zero, List.getD_cons_succ, List.set_cons_zero, List.set_cons_succ, List.getElem?_cons_zero, List.getElem?_cons_succ, List.length_cons, List.length_nil, List.map_cons, List.map_nil, List.cons_append, List.nil_append, List.append_nil, List.reduceReplicate, Nat.reduceAdd, true_and, reduceCtorEq, ne_eq, not_false_eq_true, Nat.zero_add]
  refine (keysE_ok (entE fE L)).at [0] (by simp [sbl, ren_map, bel_map]) (by simp) (by simp [Tb]) (by simp [AV.ren, rn]) (by simp [AV.belL, AV.bel]) (WK.now ?_)
  simp only [Qseq_normal, aregL_nil, awpL_block, awpL_rangeFunc, lift, putAll, rn, AV.ren, AV.renL, ren_var, ren_map, ev, putT, List.getD_cons_zero, List.getD_cons_succ, List.getD_nil, List.set_cons_zero, List.set_cons_succ, List.length_cons, List.length_nil, List.map_cons, List.map_nil, List.cons_append, List.nil_append, List.drop_succ_cons, List.drop_zero, Nat.reduceAdd, Nat.reduceSub, Nat.reduceLT, true_and, if_true, if_false, Nat.zero_add]
  refine ARng.funcG (fun fn lo hlo => ?_)
  simp only [List.length_cons, List.length_nil, List.cons_append, List.nil_append, Nat.reduceAdd, Nat.zero_add]
  refine acalls_of envOk Tryd.func90 rfl (by kernel_rfl) (m := 12) rfl ?_
  simp only [ty128, T128, Kat_go, Kreg_go, aregL_plain, awpL_region, awpL_seq, aop_range, arange, aop_load, ev, putT, aload, ldK, kd, List.getD_cons_zero, List.getD_cons_succ, List.set_cons_zero, List.set_cons_succ, List.getElem?_cons_zero, List.length_cons, List.length_nil, List.cons_append, List.nil_append, List.reduceReplicate, Nat.reduceAdd, Nat.zero_add]
  refine Rng.mk (fun bs clk hb hbn hbc => ?_)
  simp only [Kreg_go, Qseq_normal, aregL_nil, awpL_block, awpL_loop, putT, List.set_cons_zero, List.set_cons_succ, List.length_cons, List.length_nil, List.cons_append, List.nil_append, Nat.reduceAdd, Nat.zero_add]
  have hren : ∀ m, lo.ren (rn [0, 1, 2, 3, 4, 5, 6, 8] m) = lo := fun m => by rw [hlo]; simp [AObj.ren, AV.renL, AV.ren, rn]
  have rn_at : ∀ m i, i < 8 → rn [0, 1, 2, 3, 4, 5, 6, 8] m i = [0, 1, 2, 3, 4, 5, 6, 8].getD i 0 := fun m i hi => by simp [rn, hi]
  have hbel : lo.bel 8 = true := by rw [hlo]; simp [AObj.bel, AV.belL, AV.bel]
  refine ALoop.mk (fun k t H ds => ∃ idx : List Nat, k = L.length - idx.length ∧ idx.Nodup ∧ (∀ j ∈ idx, j < L.length) ∧ t = [.yield 5, .pvar 3 0, .dead, .dead, .mapo 0, .pvar 6 0, .dead, .dead, .dead, .dead, .dead, .dead, .dead, .dead] ∧ ds = [] ∧
      ((idx = [] ∧ H = [.mapb (entE fE L) bs clk, .var [.d (.int .i64 sz), .mapo 0], .var [.d .nils], .var [.mapo 0], .defr, lo, .iter 0 bs clk []]) ∨
       (idx ≠ [] ∧ H = [.mapb (entE fE L) bs clk, .var [.d (.int .i64 sz), .mapo 0], .var [.sfull 7], .var [.mapo 0], .defr, lo, .iter 0 bs clk idx, .arr 3 1 (ints (keysAt L idx))]))) L.length
    (WK.fgt (t' := [.yield 5, .pvar 3 0, .dead, .dead, .mapo 0, .pvar 6 0, .dead, .dead, .dead, .dead, .dead, .dead, .dead, .dead]) (by simp [fgt]) (WK.now ⟨[], by simp, by simp, by simp, rfl, rfl, .inl ⟨rfl, rfl⟩⟩)) ?_
  rintro k t H ds ⟨idx, rfl, hn, hl, rfl, rfl, hH⟩
  have hle := idx_le hn hl
  rcases hH with ⟨rfl, rfl⟩ | ⟨hne, rfl⟩
  · simp only [aregL_plain, awpL_region, awpL_seq, aop_next, anext, ev, List.getD_cons_zero, List.getD_cons_succ, List.length_nil, true_and, ne_eq]
    refine Nxt.mk (by simp) (fun j hj hji => ?_) (fun hall => ?_)
    · have hjL : j < L.length := by simpa [entE_length] using hj
      simp only [entE_length, Kat_go, Kreg_go, Qseq_normal, Kbr_true, aregL_nil, aregL_plain, awpL_skip, awpL_region, awpL_seq, awpL_cond, awpL_block, aop_entry, aentry, aop_move, aop_assign, aop_extract, aop_call, ev, putT, aext, List.getD_cons_zero, List.getD_cons_succ, List.set_cons_zero, List.set_cons_succ, List.getElem?_cons_zero, List.map_cons, List.map_nil, List.nil_append, true_and]
      refine ⟨j, by simp, hjL, ?_⟩
      simp only [entE_entry fE L hjL]
      refine AYield.mk envOk (congrArg some hlo) rfl ?_
      simp only [QasgL_normal, ty3, T3, ty66, T66, Kat_go, Kst_go, Kreg_go, KregW_go, Qblk_normal, Kapp_nils, aregL_nil, aregL_plain, awpL_region, awpL_block, Qrnd_normal, putPs, aop_move, aop_assign, aop_load, aop_store, aop_buildSlice, aop_append, aapp_go, ev, cst, putT, aload, ldK, kd, esz, afill, splice, AV.cells, D.cells, allD, astore, abuildS, AV.low, rep, chunk, srcRows, List.getD_cons_zero, List.getD_cons_succ, List.set_cons_zero, List.set_cons_succ, List.getElem?_cons_zero, List.getElem?_cons_succ, List.length_cons, List.length_nil, List.map_cons, List.map_nil, List.cons_append, List.nil_append, List.append_nil, List.take_succ_cons, List.take_zero, List.take_nil, List.drop_succ_cons, List.drop_nil, Nat.reduceAdd, Nat.reduceLeDiff, true_and, if_true, reduceCtorEq, ne_eq, not_false_eq_true, Nat.zero_add, Nat.mul_one, and_self, Option.some.injEq]
      refine ⟨_, _, _, _, hlo, ?_⟩
      refine ⟨room_of (by omega) (by omega), WK.now ⟨_, _, _, _, _, rfl, WK.now ?_⟩⟩
      simp only [Qloop_normal, Kat_go, Kreg_go, Qseq_normal, Qblk_normal, Kbr_false, aregL_nil, aregL_plain, awpL_skip, awpL_cond, aop_unOp, ev, putT, aun, List.getD_cons_zero, List.getD_cons_succ, List.set_cons_zero, List.set_cons_succ, Bool.not_true]
      simp only [← hlo]
      exact ⟨L.length - 1, by omega, WK.fgt (t' := [.yield 5, .pvar 3 0, .dead, .dead, .mapo 0, .pvar 6 0, .dead, .dead, .dead, .dead, .dead, .dead, .dead, .dead]) (by simp [fgt]) (WK.now ⟨[j], by simp, by simp, by simpa using hjL, rfl, rfl, .inr ⟨by simp, rfl⟩⟩)⟩
    · have hL : L = [] := by
        cases L with
        | nil => rfl
        | cons p L => exact absurd (hall 0 (by simp [entE])) (by simp)
      subst hL
      simp only [Qloop_exit, Kat_go, Kreg_go, Qseq_normal, Qseq_exit, Qblk_exit, Kbr_false, aret_normal, aregL_nil, aregL_plain, awpL_seq, awpL_cond, awpL_exit, aop_extract, ev, putT, aext, List.getD_cons_zero, List.getD_cons_succ, List.set_cons_zero, List.set_cons_succ, List.getElem?_cons_zero, List.length_nil, List.map_nil, Nat.reduceSub, if_true]
      refine WK.unb 0 rfl (WK.now ?_)
      simp only [Tryd.results90, Kone_go, Kfin_go, aresL_nil, allDefr_nil, offs_nil, List.set_cons_zero, true_and, List.toList_toArray]
      subst hlo
      refine Krng.go rfl (WK.now ?_)
      simp only [ty66, T66, ext69, Kat_go, Kreg_go, Qseq_normal, Qblk_normal, aregL_plain, awpL_region, awpL_seq, aop_load, aop_call, acallF_go, ev, putT, aload, ldK, List.getD_cons_zero, List.getD_cons_succ, List.set_cons_zero, List.set_cons_succ, List.getElem?_cons_zero, List.map_cons, List.map_nil, List.append_nil]
      refine (sortI_nil (E := env) (g := 69) Go.Proofs.Tryd.sortInt rfl _).thus (WK.now ?_)
      simp only [ty66, T66, Kat_go, Kreg_go, Qseq_normal, aret_ret, aregL_nil, aregL_plain, awpL_region, awpL_seq, awpL_ret, aop_assign, aop_load, ev, putT, aload, ldK, List.getD_cons_zero, List.getD_cons_succ, List.set_cons_zero, List.set_cons_succ, List.getElem?_cons_zero]
      refine WK.nil 2 3 1 rfl ?_
      simp only [List.set_cons_zero, List.set_cons_succ, List.length_cons, List.length_nil, List.cons_append, List.nil_append, Nat.reduceAdd, Nat.zero_add]
      refine WK.pickD [0, 1, 7, 4] (H' := [.map (entE fE []), .var [.d (.int .i64 sz), .mapo 0], .arr 3 1 [], .defr]) (t' := [.dead, .dead, .sfull 2, .dead, .dead, .dead, .dead, .dead, .dead, .dead, .dead, .dead, .dead, .dead, .dead, .dead, .dead, .dead, .dead, .dead]) (ds' := [3]) (by simp [sbl, ren_var, ren_arr, ren_map, ren_defr, bel_var, bel_arr, bel_map, bel_defr, AV.renL, AV.ren, AV.belL, AV.bel, rn]) (by simp) (by simp) (by simp [tellL, AV.ren, AV.bel, rn]) (by simp [rn]) (by simp) (by decide) (WK.now ?_)
      simp only [Tryd.results61, Kcons_go, Kone_go, Kfin_go, aresL_nil, aresL_tmp, allDefr_nil, allDefr_cons, offs_nil, offs_cons, one?, List.getD_cons_zero, List.getD_cons_succ, List.set_cons_zero, List.set_cons_succ, List.getElem?_cons_zero, List.getElem?_cons_succ, true_and, and_self, List.toList_toArray]
      simp [srt, ints]
  · have hlt : idx.length < L.length ∨ ¬ idx.length < L.length := by omega
    simp only [aregL_plain, awpL_region, awpL_seq, aop_next, anext, ev, List.getD_cons_zero, List.getD_cons_succ, true_and, ne_eq]
    refine Nxt.mk (by simpa [entE_length] using hl) (fun j hj hji => ?_) (fun hall => ?_)
    · have hjL : j < L.length := by simpa [entE_length] using hj
      have hn' : (idx ++ [j]).Nodup := by rw [List.nodup_append]; exact ⟨hn, by simp, fun a ha b hb => by simp at hb; subst hb; exact fun e => hji (e ▸ ha)⟩
      have hl' : ∀ q ∈ idx ++ [j], q < L.length := fun q hq => by
        rcases List.mem_append.1 hq with hq | hq
        · exact hl q hq
        · simp at hq; subst hq; exact hjL
      have hle' := idx_le hn' hl'
      simp at hle'
      simp only [entE_length, Kat_go, Kreg_go, Qseq_normal, Kbr_true, aregL_nil, aregL_plain, awpL_skip, awpL_region, awpL_seq, awpL_cond, awpL_block, aop_entry, aentry, aop_move, aop_assign, aop_extract, aop_call, ev, putT, aext, List.getD_cons_zero, List.getD_cons_succ, List.set_cons_zero, List.set_cons_succ, List.getElem?_cons_zero, List.map_cons, List.map_nil, true_and]
      refine ⟨j, by simp, hjL, ?_⟩
      simp only [entE_entry fE L hjL]
      refine AYield.mk envOk (congrArg some hlo) rfl ?_
      simp only [QasgL_normal, ty3, T3, ty66, T66, ints_length, Kat_go, Kst_go, Kreg_go, KregW_go, Qblk_normal, Kapp_sfull, aregL_nil, aregL_plain, awpL_region, awpL_block, Qrnd_normal, putPs, aop_move, aop_assign, aop_load, aop_store, aop_buildSlice, aop_append, aapp_go, ev, cst, putT, aload, ldK, kd, esz, afill, splice, AV.cells, D.cells, allD, astore, abuildS, AV.low, rep, chunk, srcRows, List.getD_cons_zero, List.getD_cons_succ, List.set_cons_zero, List.set_cons_succ, List.getElem?_cons_zero, List.getElem?_cons_succ, List.length_cons, List.length_nil, List.map_cons, List.map_nil, List.cons_append, List.nil_append, List.append_nil, List.take_succ_cons, List.take_zero, List.take_nil, List.drop_succ_cons, List.drop_nil, Nat.reduceAdd, Nat.reduceLeDiff, true_and, if_true, reduceCtorEq, ne_eq, not_false_eq_true, Nat.zero_add, Nat.mul_one, and_self, Option.some.injEq]
      refine ⟨_, _, _, _, hlo, ?_⟩
      refine ⟨room_of (by simp [keysAt]; omega) (by omega), WK.now ⟨_, _, _, _, _, rfl, WK.now ?_⟩⟩
      simp only [Qloop_normal, Kat_go, Kreg_go, Qseq_normal, Qblk_normal, Kbr_false, aregL_nil, aregL_plain, awpL_skip, awpL_cond, aop_unOp, ev, putT, aun, List.getD_cons_zero, List.getD_cons_succ, List.set_cons_zero, List.set_cons_succ, Bool.not_true]
      simp only [← hlo]
      refine ⟨L.length - (idx ++ [j]).length, by simp; omega, WK.pick [0, 1, 2, 3, 4, 5, 6, 8] (t' := [.yield 5, .pvar 3 0, .dead, .dead, .mapo 0, .pvar 6 0, .dead, .dead, .dead, .dead, .dead, .dead, .dead, .dead]) (H' := [.mapb (entE fE L) bs clk, .var [.d (.int .i64 sz), .mapo 0], .var [.sfull 7], .var [.mapo 0], .defr, lo, .iter 0 bs clk (idx ++ [j]), .arr 3 1 (ints (keysAt L idx ++ [(L.map (·.1)).getD j 0]))]) (by simp [ints, sbl, ren_var, ren_arr, ren_mapb, ren_iter, ren_defr, bel_var, bel_arr, bel_mapb, bel_iter, bel_defr, AV.renL, AV.ren, AV.belL, AV.bel, hren, hbel, rn_at]) (by simp) (by simp) (by simp [tellL, AV.ren, AV.bel, rn]) (by decide) (WK.now ⟨idx ++ [j], rfl, hn', hl', rfl, rfl, .inr ⟨by simp, by rw [keysAt_snoc]⟩⟩)⟩
    · have hp := keysAt_perm hn hl (fun j hj => hall j (by simpa [entE_length] using hj))
      simp only [Qloop_exit, Kat_go, Kreg_go, Qseq_normal, Qseq_exit, Qblk_exit, Kbr_false, aret_normal, aregL_nil, aregL_plain, awpL_seq, awpL_cond, awpL_exit, aop_extract, ev, putT, aext, List.getD_cons_zero, List.getD_cons_succ, List.set_cons_zero, List.set_cons_succ, List.getElem?_cons_zero, if_true]
      refine WK.unb 0 rfl (WK.now ?_)
      simp only [Tryd.results90, Kone_go, Kfin_go, aresL_nil, allDefr_nil, offs_nil, List.set_cons_zero, true_and, List.toList_toArray]
      subst hlo
      refine Krng.go rfl (WK.now ?_)
      simp only [ty66, T66, ext69, Kat_go, Kreg_go, Qseq_normal, Qblk_normal, aregL_plain, awpL_region, awpL_seq, aop_load, aop_call, acallF_go, ev, putT, aload, ldK, List.getD_cons_zero, List.getD_cons_succ, List.set_cons_zero, List.set_cons_succ, List.getElem?_cons_zero, List.map_cons, List.map_nil, List.append_nil]
      refine (sortI (E := env) (g := 69) Go.Proofs.Tryd.sortInt rfl (id := 7) (ty := 3) (ks := keysAt L idx) rfl (by simp [keysAt]; omega)).thus (WK.now ?_)
      simp only [ty66, T66, Kat_go, Kreg_go, Qseq_normal, aret_ret, aregL_nil, aregL_plain, awpL_region, awpL_seq, awpL_ret, aop_assign, aop_load, ev, putT, aload, ldK, List.getD_cons_zero, List.getD_cons_succ, List.set_cons_zero, List.set_cons_succ, List.getElem?_cons_zero]
      refine WK.pickD [0, 1, 7, 4] (H' := [.map (entE fE L), .var [.d (.int .i64 sz), .mapo 0], .arr 3 1 (ints (srt (keysAt L idx))), .defr]) (t' := [.dead, .dead, .sfull 2, .dead, .dead, .dead, .dead, .dead, .dead, .dead, .dead, .dead, .dead, .dead, .dead, .dead, .dead, .dead, .dead, .dead]) (ds' := [3]) (by simp [ints, sbl, ren_var, ren_arr, ren_map, ren_defr, bel_var, bel_arr, bel_map, bel_defr, AV.renL, AV.ren, AV.belL, AV.bel, rn]) (by simp) (by simp) (by simp [tellL, AV.ren, AV.bel, rn]) (by simp [rn]) (by simp) (by decide) (WK.now ?_)
      simp only [Tryd.results61, Kcons_go, Kone_go, Kfin_go, aresL_nil, aresL_tmp, allDefr_nil, allDefr_cons, offs_nil, offs_cons, one?, List.getD_cons_zero, List.getD_cons_succ, List.set_cons_zero, List.set_cons_succ, List.getElem?_cons_zero, List.getElem?_cons_succ, true_and, and_self, List.toList_toArray]
      rw [srt_unique ((srt_perm _).trans hp.symm) (srt_sorted _)]
/-- A table's ids, as plain data. -/
theorem idsDE_ok (sz : Int) (L : List (Int × (Ent))) (h : L.length ≤ 1000000000) :
    ACalls env 61 [.pvar 1 0] (Tb fE sz L) fun r H' => r = .d (sl (srt (L.map (·.1)))) ∧ H' = Tb fE sz L :=
  (idsE_ok sz L h).retell (by
    rintro r H' ⟨rfl, rfl⟩
    unfold Tb
    refine WK.frz 2 rfl ?_
    simp only [AV.frzL, AV.frz, AObj.frz, List.cons_append, List.nil_append, List.set_cons_zero, List.set_cons_succ, List.map_cons, List.map_nil, if_true]
    exact WK.pick [0, 1] (t' := [.d (.slice 1 (ints (srt (L.map (·.1)))))]) (H' := [.map (entE fE L), .var [.d (.int .i64 sz), .mapo 0]]) (by simp [sbl, ren_var, ren_map, bel_var, bel_map, AV.renL, AV.ren, AV.belL, AV.bel, rn]) (by simp) (by simp) (by simp [tellL, AV.ren, AV.bel]) (by intro id h; rcases id with _ | _ | id; rfl; rfl; exact absurd h (by simp)) (WK.now ⟨_, rfl, rfl, rfl⟩))

end Go.Proofs.YtjljjakfebfpfaaDoor
