/-
  The walks of the package node, continued: adding and reading.
-/
import Derived.Test.YtjljjakfebfpfaaDoorNN
set_option autoImplicit false
set_option linter.unusedVariables false
set_option linter.unusedSimpArgs false
namespace Go.Proofs.YtjljjakfebfpfaaDoor
open Go.Abs


theorem clone_nil : ACalls env 45 [.d .nils] [] fun r H' => r = .sfull 0 ∧ H' = [.arr 2 1 (ints [])] :=
  (clone_ok [] (by unfold Sz; simp)).argv (by simp [avsOk, avOk, argOk, ints])
def nodeD : Option Ent → D
  | none => .tup [.agg [.int .i64 0, .slice 1 []], .bool false]
  | some e => .tup [.agg [.int .i64 e.1, .slice 1 (ints e.2.1)], .bool true]
set_option maxRecDepth 8000 in
theorem nget_ok (d sz : Int) (L : List (Int × Ent)) (k : Int) (hL : InE L) :
    ACalls env 32 [.pvar 2 0, .d (.int .i64 k)] (Ns d sz L) fun r H' => r = .d (nodeD (lget L k)) ∧ H' = Ns d sz L := by
  unfold Ns
  refine ACalls.cutTo [0, 1, 2] rfl ?_ (fun l => by simp [sbl, ren_var, ren_map, bel_var, bel_map, AV.renL, AV.ren, AV.belL, AV.bel, rn]) (fun m => by simp [tellL, AV.ren, AV.bel])
  refine acalls_of envOk Tryd.func32 rfl (by kernel_rfl) (m := 22) rfl ?_
  simp only [ty59, T59, ext58, Kreg_go, Qseq_normal, aregL_nil, aregL_plain, awpL_region, awpL_seq, aop_move, aop_assign, aop_new, aop_call, acallF_go, ev, cst, putT, zeroC, aalloc, List.getD_cons_zero, List.getD_cons_succ, List.set_cons_zero, List.set_cons_succ, List.length_cons, List.length_nil, List.map_cons, List.map_nil, List.cons_append, List.nil_append, List.append_nil, List.reduceReplicate, Nat.reduceAdd, Nat.zero_add]
  refine (nnodes_ok d sz L).at [0, 1, 2] (by simp [Ns, sbl, ren_var, ren_map, bel_var, bel_map, AV.renL, AV.ren, AV.belL, AV.bel, rn]) (by simp) (by simp [Tb]) (by simp [AV.ren, rn]) (by simp [AV.belL, AV.bel]) (WK.now ?_)
  simp only [Ns, ext59, Kreg_go, aregL_plain, lift, putAll, rn, AV.ren, AV.renL, ren_var, ren_map, aop_move, aop_call, acallF_go, ev, putT, List.getD_cons_zero, List.getD_cons_succ, List.set_cons_zero, List.set_cons_succ, List.length_cons, List.length_nil, List.map_cons, List.map_nil, List.append_nil, List.drop_succ_cons, List.drop_nil, Nat.reduceAdd, Nat.reduceSub, Nat.reduceLT, if_true, Nat.zero_add]
  refine (getE_ok sz L k).at [0, 1] (by simp [Tb, sbl, ren_var, ren_map, bel_var, bel_map, AV.renL, AV.ren, AV.belL, AV.bel, rn]) (by simp) (by simp [Tb]) (by simp [AV.ren, rn]) (by simp [AV.belL, AV.bel]) (WK.now ?_)
  simp only [Tb, gotE, ty89, T89, Kat_go, Kst_go, Kreg_go, Qseq_normal, aregL_nil, aregL_plain, awpL_draw, awpL_seq, lift, putAll, rn, AV.ren, AV.renL, ren_var, ren_map, aop_move, aop_assign, aop_extract, aop_new, aop_store, ev, putT, aext, esz, zeroC, splice, AV.cells, D.cells, aalloc, astore, List.getD_cons_zero, List.getD_cons_succ, List.set_cons_zero, List.set_cons_succ, List.getElem?_cons_zero, List.getElem?_cons_succ, List.length_cons, List.length_nil, List.map_cons, List.map_nil, List.cons_append, List.nil_append, List.append_nil, List.take_zero, List.drop_succ_cons, List.drop_nil, Nat.reduceAdd, Nat.reduceSub, Nat.reduceLT, if_true, Nat.zero_add, Option.some.injEq]
  cases hl : lget L k with
  | none =>
    simp only [List.length_cons, List.length_nil, List.map_cons, List.map_nil, List.append_nil, List.drop_succ_cons, List.drop_nil, Nat.reduceAdd, Nat.reduceLeDiff, Option.map_none, true_and, Nat.zero_add, Option.getD_none, Option.isSome_none]
    refine DRegL.two [0, 1, 2, 3, 4, 5, 8] [6, 7, 9, 10] (by unfold Draw2; kernel_rfl) (by kernel_rfl) (by kernel_rfl) ?_
    simp only [ty3, T3, ty43, T43, ty59, T59, ty89, T89, ext45, Kdr_go, adrawL_nil, adrawL_plain, Kt0_go, atailL_plain, pickL_nil, pickL_cons, aop_call, qop_move, qop_load, qop_fieldAddr, acallF_go, ev, putT, fld, afldAddr, aload, ldK, kd, esz, List.getD_cons_zero, List.getD_cons_succ, List.set_cons_zero, List.set_cons_succ, List.getElem?_cons_zero, List.getElem?_cons_succ, List.map_cons, List.map_nil, List.append_nil, true_and, reduceCtorEq, ne_eq, not_false_eq_true, Nat.zero_add, Nat.add_zero]
    refine clone_nil.at [] (by simp [sbl]) (by simp) (by simp [Tb]) (by simp [AV.ren]) (by simp [AV.belL, AV.bel]) ?_
    simp only [ty3, T3, ty43, T43, ty59, T59, ty89, T89, Kat_go, Kst_go, Kdr_go, Qseq_normal, aret_ret, adrawL_nil, adrawL_plain, awpL_ret, Same_go, Kt_go, atailL_nil, atailL_plain, lift, putAll, rn, AV.ren, ren_arr, aop_assign, aop_build, aop_store, qop_move, qop_load, qop_fieldAddr, ev, cst, putT, fld, afldAddr, aload, ldK, kd, esz, abuild, zeroC, aplace, afill, splice, AV.cells, D.cells, mkAgg, allD, known, astore, List.getD_cons_zero, List.getD_cons_succ, List.getD_nil, List.set_cons_zero, List.set_cons_succ, List.getElem?_cons_zero, List.getElem?_cons_succ, List.length_cons, List.length_nil, List.map_cons, List.map_nil, List.cons_append, List.nil_append, List.append_nil, List.take_succ_cons, List.take_zero, List.drop_succ_cons, List.drop_zero, List.drop_nil, List.all_cons, List.all_nil, Nat.reduceAdd, Nat.reduceSub, Nat.reduceLeDiff, Nat.reduceLT, Option.isSome_some, Bool.and_true, true_and, if_true, if_false, reduceCtorEq, ne_eq, not_false_eq_true, Nat.zero_add, Nat.add_zero, and_self]
    refine WK.frz 5 rfl (WK.now ?_)
    simp only [nodeD, ty59, T59, Tryd.results32, AV.frzL, AV.frz, AObj.frz, Kcons_go, Kres_go, Kone_go, Kfin_go, aresL_nil, aresL_tmp, aresL_cell, allDefr_nil, offs_nil, aload, ldK, mkAgg, mkTup, allD, one?, List.getD_cons_zero, List.getD_cons_succ, List.set_cons_zero, List.set_cons_succ, List.length_cons, List.length_nil, List.map_cons, List.map_nil, List.take_succ_cons, List.take_nil, List.drop_zero, Nat.reduceAdd, Nat.reduceLeDiff, true_and, if_true, Nat.zero_add, List.toList_toArray]
    first | done | exact ⟨_, rfl⟩ | exact ⟨rfl, _, rfl⟩
  | some e =>
    have he := (hL k e hl).2.2.1
    simp only [fE, List.length_cons, List.length_nil, List.map_cons, List.map_nil, List.append_nil, List.drop_succ_cons, List.drop_nil, Nat.reduceAdd, Nat.reduceLeDiff, Option.isSome_some, Option.map_some, true_and, Nat.zero_add, Option.getD_some]
    refine DRegL.two [0, 1, 2, 3, 4, 5, 8] [6, 7, 9, 10] (by unfold Draw2; kernel_rfl) (by kernel_rfl) (by kernel_rfl) ?_
    simp only [ty3, T3, ty43, T43, ty59, T59, ty89, T89, ext45, Kdr_go, adrawL_nil, adrawL_plain, Kt0_go, atailL_plain, pickL_nil, pickL_cons, aop_call, qop_move, qop_load, qop_fieldAddr, acallF_go, ev, putT, fld, afldAddr, aload, ldK, kd, esz, List.getD_cons_zero, List.getD_cons_succ, List.set_cons_zero, List.set_cons_succ, List.getElem?_cons_zero, List.getElem?_cons_succ, List.map_cons, List.map_nil, List.append_nil, true_and, reduceCtorEq, ne_eq, not_false_eq_true, Nat.zero_add, Nat.add_zero]
    refine (clone_ok e.2.1 he).at [] (by simp [sbl]) (by simp) (by simp [Tb]) (by simp [AV.ren]) (by simp [AV.belL, AV.bel]) ?_
    simp only [ty3, T3, ty43, T43, ty59, T59, ty89, T89, Kat_go, Kst_go, Kdr_go, Qseq_normal, aret_ret, adrawL_nil, adrawL_plain, awpL_ret, Same_go, Kt_go, atailL_nil, atailL_plain, lift, putAll, rn, AV.ren, ren_arr, aop_assign, aop_build, aop_store, qop_move, qop_load, qop_fieldAddr, ev, cst, putT, fld, afldAddr, aload, ldK, kd, esz, abuild, zeroC, aplace, afill, splice, AV.cells, D.cells, mkAgg, allD, known, astore, List.getD_cons_zero, List.getD_cons_succ, List.getD_nil, List.set_cons_zero, List.set_cons_succ, List.getElem?_cons_zero, List.getElem?_cons_succ, List.length_cons, List.length_nil, List.map_cons, List.map_nil, List.cons_append, List.nil_append, List.append_nil, List.take_succ_cons, List.take_zero, List.drop_succ_cons, List.drop_zero, List.drop_nil, List.all_cons, List.all_nil, Nat.reduceAdd, Nat.reduceSub, Nat.reduceLeDiff, Nat.reduceLT, Option.isSome_some, Bool.and_true, true_and, if_true, if_false, reduceCtorEq, ne_eq, not_false_eq_true, Nat.zero_add, Nat.add_zero, and_self]
    refine WK.frz 5 rfl (WK.now ?_)
    simp only [nodeD, ty59, T59, Tryd.results32, AV.frzL, AV.frz, AObj.frz, Kcons_go, Kres_go, Kone_go, Kfin_go, aresL_nil, aresL_tmp, aresL_cell, allDefr_nil, offs_nil, aload, ldK, mkAgg, mkTup, allD, one?, List.getD_cons_zero, List.getD_cons_succ, List.set_cons_zero, List.set_cons_succ, List.length_cons, List.length_nil, List.map_cons, List.map_nil, List.take_succ_cons, List.take_nil, List.drop_zero, Nat.reduceAdd, Nat.reduceLeDiff, true_and, if_true, Nat.zero_add, List.toList_toArray]
    first | done | exact ⟨_, rfl⟩ | exact ⟨rfl, _, rfl⟩
theorem nids_ok (d sz : Int) (L : List (Int × Ent)) (h : L.length ≤ 1000000000) :
    ACalls env 33 [.pvar 2 0] (Ns d sz L) fun r H' => r = .d (sl (srt (L.map (·.1)))) ∧ H' = Ns d sz L := by
  unfold Ns
  refine ACalls.cutTo [0, 1, 2] rfl ?_ (fun l => by simp [sbl, ren_var, ren_map, bel_var, bel_map, AV.renL, AV.ren, AV.belL, AV.bel, rn]) (fun m => by simp [tellL, AV.ren, AV.bel])
  refine acalls_of envOk Tryd.func33 rfl (by kernel_rfl) (m := 5) rfl ?_
  simp only [ext58, sl, Kreg_go, Qseq_normal, aregL_nil, aregL_plain, awpL_region, awpL_seq, aop_move, aop_assign, aop_call, acallF_go, ev, cst, putT, List.getD_cons_zero, List.getD_cons_succ, List.set_cons_zero, List.set_cons_succ, List.length_cons, List.length_nil, List.map_cons, List.map_nil, List.cons_append, List.nil_append, List.append_nil, List.reduceReplicate, Nat.reduceAdd, Nat.zero_add]
  refine (nnodes_ok d sz L).at [0, 1, 2] (by simp [Ns, sbl, ren_var, ren_map, bel_var, bel_map, AV.renL, AV.ren, AV.belL, AV.bel, rn]) (by simp) (by simp [Tb]) (by simp [AV.ren, rn]) (by simp [AV.belL, AV.bel]) (WK.now ?_)
  simp only [Ns, ext61, aregL_plain, lift, putAll, rn, AV.ren, AV.renL, ren_var, ren_map, aop_call, acallF_go, ev, putT, List.getD_cons_zero, List.getD_cons_succ, List.set_cons_zero, List.set_cons_succ, List.length_cons, List.length_nil, List.map_cons, List.map_nil, List.append_nil, List.drop_succ_cons, List.drop_nil, Nat.reduceAdd, Nat.reduceSub, Nat.reduceLT, if_true, Nat.zero_add]
  refine (idsDE_ok sz L h).at [0, 1] (by simp [Tb, sbl, ren_var, ren_map, bel_var, bel_map, AV.renL, AV.ren, AV.belL, AV.bel, rn]) (by simp) (by simp [Tb]) (by simp [AV.ren, rn]) (by simp [AV.belL, AV.bel]) (WK.now ?_)
  simp only [Tb, sl, Kreg_go, Qseq_normal, aret_ret, aregL_nil, aregL_plain, awpL_ret, lift, putAll, rn, AV.ren, AV.renL, ren_var, ren_map, aop_assign, ev, putT, List.getD_cons_zero, List.getD_cons_succ, List.set_cons_zero, List.set_cons_succ, List.length_cons, List.length_nil, List.map_cons, List.map_nil, List.append_nil, List.drop_succ_cons, List.drop_nil, Nat.reduceAdd, Nat.reduceSub, Nat.reduceLT, if_true, Nat.zero_add]
  refine WK.now ?_
  simp only [Tryd.results33, Kcons_go, Kone_go, Kfin_go, aresL_nil, aresL_tmp, allDefr_nil, offs_nil, one?, List.getD_cons_zero, List.getD_cons_succ, true_and, List.toList_toArray]
  first | done | exact ⟨_, rfl⟩ | exact ⟨rfl, _, rfl⟩
def usedD : Option Ent → List Int
  | none => []
  | some e => e.2.2
theorem nused_ok (d sz : Int) (L : List (Int × Ent)) (k : Int) (hL : InE L) :
    ACalls env 30 [.pvar 2 0, .d (.int .i64 k)] (Ns d sz L) fun r H' => r = .d (sl (usedD (lget L k))) ∧ H' = Ns d sz L := by
  unfold Ns
  refine ACalls.cutTo [0, 1, 2] rfl ?_ (fun l => by simp [sbl, ren_var, ren_map, bel_var, bel_map, AV.renL, AV.ren, AV.belL, AV.bel, rn]) (fun m => by simp [tellL, AV.ren, AV.bel])
  refine acalls_of envOk Tryd.func30 rfl (by kernel_rfl) (m := 15) rfl ?_
  simp only [ext58, sl, Kreg_go, Qseq_normal, aregL_nil, aregL_plain, awpL_region, awpL_seq, aop_move, aop_assign, aop_call, acallF_go, ev, cst, putT, List.getD_cons_zero, List.getD_cons_succ, List.set_cons_zero, List.set_cons_succ, List.length_cons, List.length_nil, List.map_cons, List.map_nil, List.cons_append, List.nil_append, List.append_nil, List.reduceReplicate, Nat.reduceAdd, Nat.zero_add]
  refine (nnodes_ok d sz L).at [0, 1, 2] (by simp [Ns, sbl, ren_var, ren_map, bel_var, bel_map, AV.renL, AV.ren, AV.belL, AV.bel, rn]) (by simp) (by simp [Tb]) (by simp [AV.ren, rn]) (by simp [AV.belL, AV.bel]) (WK.now ?_)
  simp only [Ns, ext59, Kreg_go, aregL_plain, lift, putAll, rn, AV.ren, AV.renL, ren_var, ren_map, aop_move, aop_call, acallF_go, ev, putT, List.getD_cons_zero, List.getD_cons_succ, List.set_cons_zero, List.set_cons_succ, List.length_cons, List.length_nil, List.map_cons, List.map_nil, List.append_nil, List.drop_succ_cons, List.drop_nil, Nat.reduceAdd, Nat.reduceSub, Nat.reduceLT, if_true, Nat.zero_add]
  refine (getE_ok sz L k).at [0, 1] (by simp [Tb, sbl, ren_var, ren_map, bel_var, bel_map, AV.renL, AV.ren, AV.belL, AV.bel, rn]) (by simp) (by simp [Tb]) (by simp [AV.ren, rn]) (by simp [AV.belL, AV.bel]) (WK.now ?_)
  simp only [Tb, gotE, ty43, T43, ty89, T89, ext45, Kat_go, Kst_go, Kreg_go, Qseq_normal, aregL_nil, aregL_plain, awpL_region, awpL_seq, lift, putAll, rn, AV.ren, AV.renL, ren_var, ren_map, aop_move, aop_assign, aop_load, aop_fieldAddr, aop_extract, aop_new, aop_store, aop_call, acallF_go, ev, putT, fld, afldAddr, aext, aload, ldK, kd, esz, zeroC, splice, AV.cells, D.cells, aalloc, astore, List.getD_cons_zero, List.getD_cons_succ, List.set_cons_zero, List.set_cons_succ, List.getElem?_cons_zero, List.getElem?_cons_succ, List.length_cons, List.length_nil, List.map_cons, List.map_nil, List.cons_append, List.nil_append, List.append_nil, List.take_zero, List.drop_succ_cons, List.drop_nil, Nat.reduceAdd, Nat.reduceSub, Nat.reduceLT, true_and, if_true, reduceCtorEq, ne_eq, not_false_eq_true, Nat.zero_add, Option.some.injEq]
  cases hl : lget L k with
  | none =>
    simp only [List.getElem?_cons_zero, List.getElem?_cons_succ, List.length_cons, List.length_nil, List.map_cons, List.map_nil, List.append_nil, List.drop_succ_cons, List.drop_nil, Nat.reduceAdd, Nat.reduceLeDiff, Option.map_none, true_and, Nat.zero_add, Option.getD_none, Option.isSome_none]
    refine clone_nil.at [] (by simp [sbl]) (by simp) (by simp [Tb]) (by simp [AV.ren]) (by simp [AV.belL, AV.bel]) (WK.now ?_)
    simp only [Kreg_go, Qseq_normal, aret_ret, aregL_nil, aregL_plain, awpL_ret, lift, putAll, rn, AV.ren, ren_arr, aop_assign, ev, putT, List.getD_cons_zero, List.getD_cons_succ, List.getD_nil, List.set_cons_zero, List.set_cons_succ, List.length_cons, List.length_nil, List.map_cons, List.map_nil, List.cons_append, List.nil_append, List.drop_zero, Nat.reduceAdd, Nat.reduceSub, Nat.reduceLT, if_false, Nat.zero_add]
    refine WK.frz 4 rfl (WK.now ?_)
    simp only [usedD, Tryd.results30, AV.frzL, AV.frz, AObj.frz, Kcons_go, Kone_go, Kfin_go, aresL_nil, aresL_tmp, allDefr_nil, offs_nil, one?, List.getD_cons_zero, List.getD_cons_succ, List.set_cons_zero, List.set_cons_succ, List.map_cons, List.map_nil, true_and, if_true, List.toList_toArray]
    first | done | exact ⟨_, rfl⟩ | exact ⟨rfl, _, rfl⟩
  | some e =>
    have he := (hL k e hl).2.2.2
    simp only [fE, List.getElem?_cons_zero, List.getElem?_cons_succ, List.length_cons, List.length_nil, List.map_cons, List.map_nil, List.append_nil, List.drop_succ_cons, List.drop_nil, Nat.reduceAdd, Nat.reduceLeDiff, Option.isSome_some, Option.map_some, true_and, Nat.zero_add, Option.getD_some]
    refine (clone_ok e.2.2 he).at [] (by simp [sbl]) (by simp) (by simp [Tb]) (by simp [AV.ren]) (by simp [AV.belL, AV.bel]) (WK.now ?_)
    simp only [Kreg_go, Qseq_normal, aret_ret, aregL_nil, aregL_plain, awpL_ret, lift, putAll, rn, AV.ren, ren_arr, aop_assign, ev, putT, List.getD_cons_zero, List.getD_cons_succ, List.getD_nil, List.set_cons_zero, List.set_cons_succ, List.length_cons, List.length_nil, List.map_cons, List.map_nil, List.cons_append, List.nil_append, List.drop_zero, Nat.reduceAdd, Nat.reduceSub, Nat.reduceLT, if_false, Nat.zero_add]
    refine WK.frz 4 rfl (WK.now ?_)
    simp only [usedD, Tryd.results30, AV.frzL, AV.frz, AObj.frz, Kcons_go, Kone_go, Kfin_go, aresL_nil, aresL_tmp, allDefr_nil, offs_nil, one?, List.getD_cons_zero, List.getD_cons_succ, List.set_cons_zero, List.set_cons_succ, List.map_cons, List.map_nil, true_and, if_true, List.toList_toArray]
    first | done | exact ⟨_, rfl⟩ | exact ⟨rfl, _, rfl⟩
theorem nused_nil (k : Int) : PCall env 30 [.nilp, .int .i64 k] (sl []) := by
  refine acalls_of envOk Tryd.func30 rfl (by kernel_rfl) (m := 15) rfl ?_
  simp only [ext58, sl, Kreg_go, Qseq_normal, aregL_nil, aregL_plain, awpL_region, awpL_seq, aop_move, aop_assign, aop_call, acallF_go, ev, cst, putT, List.getD_cons_zero, List.getD_cons_succ, List.set_cons_zero, List.set_cons_succ, List.length_nil, List.map_cons, List.map_nil, List.cons_append, List.nil_append, List.append_nil, List.reduceReplicate]
  refine nnodes_nil.go (by first | exact ⟨.inl rfl, trivial⟩ | exact ⟨.inl rfl, .inl rfl, trivial⟩ | exact ⟨.inl rfl, .inl rfl, .inl rfl, trivial⟩ | simp [argsOk, argOk, sl, sll]) (WK.now ?_)
  simp only [ext59, Kreg_go, aregL_plain, aop_move, aop_call, acallF_go, ev, putT, List.getD_cons_zero, List.getD_cons_succ, List.set_cons_zero, List.set_cons_succ, List.map_cons, List.map_nil, List.append_nil]
  refine (getE_nil k).go (by first | exact ⟨.inl rfl, trivial⟩ | exact ⟨.inl rfl, .inl rfl, trivial⟩ | exact ⟨.inl rfl, .inl rfl, .inl rfl, trivial⟩ | simp [argsOk, argOk, sl, sll]) (WK.now ?_)
  simp only [ty43, T43, ty89, T89, ext45, Kat_go, Kst_go, Kreg_go, Qseq_normal, aregL_nil, aregL_plain, awpL_region, awpL_seq, aop_move, aop_assign, aop_load, aop_fieldAddr, aop_extract, aop_new, aop_store, aop_call, acallF_go, ev, putT, fld, afldAddr, aext, aload, ldK, kd, esz, zeroC, splice, AV.cells, D.cells, aalloc, astore, List.getD_cons_zero, List.getD_cons_succ, List.set_cons_zero, List.set_cons_succ, List.getElem?_cons_zero, List.getElem?_cons_succ, List.length_cons, List.length_nil, List.map_cons, List.map_nil, List.nil_append, List.append_nil, List.take_zero, List.drop_succ_cons, List.drop_nil, Nat.reduceAdd, Nat.reduceLeDiff, true_and, reduceCtorEq, ne_eq, not_false_eq_true, Nat.zero_add]
  refine clone_nil.at [] (by simp [sbl]) (by simp) (by simp [Tb]) (by simp [AV.ren]) (by simp [AV.belL, AV.bel]) (WK.now ?_)
  simp only [Kreg_go, Qseq_normal, aret_ret, aregL_nil, aregL_plain, awpL_ret, lift, putAll, rn, AV.ren, ren_arr, aop_assign, ev, putT, List.getD_cons_zero, List.getD_cons_succ, List.getD_nil, List.set_cons_zero, List.set_cons_succ, List.length_cons, List.length_nil, List.map_cons, List.map_nil, List.cons_append, List.nil_append, List.drop_zero, Nat.reduceSub, Nat.reduceLT, if_false, Nat.zero_add]
  refine WK.frz 1 rfl (WK.now ?_)
  simp only [Tryd.results30, AV.frzL, AV.frz, AObj.frz, Kcons_go, Kone_go, Kfin_go, aresL_nil, aresL_tmp, allDefr_nil, offs_nil, one?, List.getD_cons_zero, List.getD_cons_succ, List.set_cons_zero, List.set_cons_succ, List.map_cons, List.map_nil, if_true, and_self, List.toList_toArray]
noncomputable def freeD : Option Ent → Option (List Int)
  | none => some []
  | some e => subS e.2.1 e.2.2
def rowD : Option (List Int) → D
  | none => .nils
  | some u => sl u
theorem nfree_ok (d sz : Int) (L : List (Int × Ent)) (k : Int) (hL : InE L) :
    ACalls env 31 [.pvar 2 0, .d (.int .i64 k)] (Ns d sz L) fun r H' => r = .d (rowD (freeD (lget L k))) ∧ H' = Ns d sz L := by
  unfold Ns
  refine ACalls.cutTo [0, 1, 2] rfl ?_ (fun l => by simp [sbl, ren_var, ren_map, bel_var, bel_map, AV.renL, AV.ren, AV.belL, AV.bel, rn]) (fun m => by simp [tellL, AV.ren, AV.bel])
  refine acalls_of envOk Tryd.func31 rfl (by kernel_rfl) (m := 24) rfl ?_
  simp only [ext58, Kreg_go, Qseq_normal, aregL_nil, aregL_plain, awpL_region, awpL_seq, aop_move, aop_assign, aop_call, acallF_go, ev, cst, putT, List.getD_cons_zero, List.getD_cons_succ, List.set_cons_zero, List.set_cons_succ, List.length_cons, List.length_nil, List.map_cons, List.map_nil, List.cons_append, List.nil_append, List.append_nil, List.reduceReplicate, Nat.reduceAdd, Nat.zero_add]
  refine (nnodes_ok d sz L).at [0, 1, 2] (by simp [Ns, sbl, ren_var, ren_map, bel_var, bel_map, AV.renL, AV.ren, AV.belL, AV.bel, rn]) (by simp) (by simp [Tb]) (by simp [AV.ren, rn]) (by simp [AV.belL, AV.bel]) (WK.now ?_)
  simp only [Ns, ext59, Kreg_go, aregL_plain, lift, putAll, rn, AV.ren, AV.renL, ren_var, ren_map, aop_move, aop_call, acallF_go, ev, putT, List.getD_cons_zero, List.getD_cons_succ, List.set_cons_zero, List.set_cons_succ, List.length_cons, List.length_nil, List.map_cons, List.map_nil, List.append_nil, List.drop_succ_cons, List.drop_nil, Nat.reduceAdd, Nat.reduceSub, Nat.reduceLT, if_true, Nat.zero_add]
  refine (getE_ok sz L k).at [0, 1] (by simp [Tb, sbl, ren_var, ren_map, bel_var, bel_map, AV.renL, AV.ren, AV.belL, AV.bel, rn]) (by simp) (by simp [Tb]) (by simp [AV.ren, rn]) (by simp [AV.belL, AV.bel]) (WK.now ?_)
  simp only [Tb, gotE, ty43, T43, ty59, T59, ty89, T89, ext60, Kat_go, Kst_go, Kreg_go, Qseq_normal, aregL_nil, aregL_plain, awpL_region, awpL_seq, lift, putAll, rn, AV.ren, AV.renL, ren_var, ren_map, aop_move, aop_assign, aop_load, aop_fieldAddr, aop_extract, aop_new, aop_store, aop_call, acallF_go, ev, putT, fld, afldAddr, aext, aload, ldK, kd, esz, zeroC, splice, AV.cells, D.cells, aalloc, astore, List.getD_cons_zero, List.getD_cons_succ, List.set_cons_zero, List.set_cons_succ, List.getElem?_cons_zero, List.getElem?_cons_succ, List.length_cons, List.length_nil, List.map_cons, List.map_nil, List.cons_append, List.nil_append, List.append_nil, List.take_zero, List.drop_succ_cons, List.drop_nil, Nat.reduceAdd, Nat.reduceSub, Nat.reduceLT, true_and, if_true, reduceCtorEq, ne_eq, not_false_eq_true, Nat.zero_add, Nat.add_zero, Option.some.injEq]
  cases hl : lget L k with
  | none =>
    have hs := vsub_ok [] [] (by unfold Sz; simp) (by intro k; simp [I64]) (by intro k; simp [I64])
    rw [show bothS _ _ [] [] = some [] from subS_yes rfl (by simp)] at hs
    simp only [List.getElem?_cons_zero, List.getElem?_cons_succ, List.length_cons, List.length_nil, List.map_cons, List.map_nil, List.append_nil, List.drop_succ_cons, List.drop_nil, Nat.reduceAdd, Nat.reduceLeDiff, Option.map_none, true_and, Nat.zero_add, Option.getD_none, Option.isSome_none]
    refine (hs.anywhere _).argv (bs := [.d .nils, .d .nils]) (by simp [avsOk, avOk, argOk, ints, sl]) |>.thus (WK.now ?_)
    simp only [resS, sl, Kat_go, Kreg_go, Qseq_normal, aret_ret, aregL_nil, aregL_plain, awpL_region, awpL_seq, awpL_ret, aop_move, aop_assign, aop_extract, ev, putT, aext, List.getD_cons_zero, List.getD_cons_succ, List.set_cons_zero, List.set_cons_succ, List.getElem?_cons_zero, List.getElem?_cons_succ]
    refine WK.now ?_
    simp only [freeD, rowD, Tryd.results31, sl, Kcons_go, Kone_go, Kfin_go, aresL_nil, aresL_tmp, allDefr_nil, offs_nil, one?, List.getD_cons_zero, List.getD_cons_succ, true_and, List.toList_toArray]
    first | done | exact ⟨_, rfl⟩ | exact ⟨rfl, _, rfl⟩
  | some e =>
    obtain ⟨h1, h2, h3, h4⟩ := hL k e hl
    have hs := vsub_ok e.2.1 e.2.2 h3 h1 h2
    rw [show bothS _ _ e.2.1 e.2.2 = subS e.2.1 e.2.2 from rfl] at hs
    simp only [fE, List.getElem?_cons_zero, List.getElem?_cons_succ, List.length_cons, List.length_nil, List.map_cons, List.map_nil, List.append_nil, List.drop_succ_cons, List.drop_nil, Nat.reduceAdd, Nat.reduceLeDiff, Option.isSome_some, Option.map_some, true_and, Nat.zero_add, Option.getD_some]
    refine hs.go (by first | exact ⟨.inl rfl, trivial⟩ | exact ⟨.inl rfl, .inl rfl, trivial⟩ | exact ⟨.inl rfl, .inl rfl, .inl rfl, trivial⟩ | simp [argsOk, argOk, sl, sll]) (WK.now ?_)
    cases hb : subS e.2.1 e.2.2 with
    | none =>
      simp only [resS, Kat_go, Kreg_go, Qseq_normal, aret_ret, aregL_nil, aregL_plain, awpL_region, awpL_seq, awpL_ret, aop_move, aop_assign, aop_extract, ev, putT, aext, List.getD_cons_zero, List.getD_cons_succ, List.set_cons_zero, List.set_cons_succ, List.getElem?_cons_zero, List.getElem?_cons_succ]
      refine WK.now ?_
      simp only [freeD, rowD, hb, Tryd.results31, Kcons_go, Kone_go, Kfin_go, aresL_nil, aresL_tmp, allDefr_nil, offs_nil, one?, List.getD_cons_zero, List.getD_cons_succ, true_and, List.toList_toArray]
      first | done | exact ⟨_, rfl⟩ | exact ⟨rfl, _, rfl⟩
    | some u =>
      simp only [resS, sl, Kat_go, Kreg_go, Qseq_normal, aret_ret, aregL_nil, aregL_plain, awpL_region, awpL_seq, awpL_ret, aop_move, aop_assign, aop_extract, ev, putT, aext, List.getD_cons_zero, List.getD_cons_succ, List.set_cons_zero, List.set_cons_succ, List.getElem?_cons_zero, List.getElem?_cons_succ]
      refine WK.now ?_
      simp only [freeD, rowD, hb, Tryd.results31, sl, Kcons_go, Kone_go, Kfin_go, aresL_nil, aresL_tmp, allDefr_nil, offs_nil, one?, List.getD_cons_zero, List.getD_cons_succ, true_and, List.toList_toArray]
      first | done | exact ⟨_, rfl⟩ | exact ⟨rfl, _, rfl⟩
noncomputable def naddE (d sz : Int) (L : List (Int × Ent)) (k : Int) (cap : List Int) : Option (Int × Int) := if 0 ≤ wrongS cap d then some (3, wrongS cap d) else addF sz L k
noncomputable def naddL (d sz : Int) (L : List (Int × Ent)) (k : Int) (cap : List Int) : List (Int × Ent) := if 0 ≤ wrongS cap d then L else addL sz L k (k, cap, List.replicate (max d 0).toNat 0)
set_option maxRecDepth 8000 in
theorem nadd_ok (d sz : Int) (L : List (Int × Ent)) (k : Int) (cap : List Int) (hd : d ≤ 1000000) (h : 0 ≤ sz ∧ sz ≤ 9223372036854775807 ∧ L.length ≤ 4611686018427387904) (hc : cap.length ≤ 9223372036854775807) :
    ACalls env 26 [.pvar 2 0, .d (.agg [.int .i64 k, .slice 1 (ints cap)])] (Ns d sz L) fun r H' => r = .d (errF (naddE d sz L k cap)) ∧ H' = Ns d sz (naddL d sz L k cap) := by
  unfold Ns
  refine ACalls.cutTo [0, 1, 2] rfl ?_ (fun l => by simp [sbl, ren_var, ren_map, bel_var, bel_map, AV.renL, AV.ren, AV.belL, AV.bel, rn]) (fun m => by simp [tellL, AV.ren, AV.bel])
  refine acalls_of envOk Tryd.func26 rfl (by kernel_rfl) (m := 43) rfl ?_
  simp only [ty55, T55, Kat_go, Kreg_go, Qseq_normal, Kbr_false, aregL_nil, aregL_plain, awpL_skip, awpL_region, awpL_draw, awpL_seq, awpL_cond, aop_move, aop_assign, aop_binOp, aop_box, ev, cst, putT, aopBin, isSl, abin, bEq, acmp, ptrish, kd, AV.cells, D.cells, abox, List.getD_cons_zero, List.getD_cons_succ, List.set_cons_zero, List.set_cons_succ, List.length_cons, List.length_nil, List.map_cons, List.map_nil, List.cons_append, List.nil_append, List.reduceReplicate, Nat.reduceAdd, Nat.zero_add]
  refine DRegL.one (by unfold DrawOK; kernel_rfl) ?_
  simp only [ty3, T3, ty43, T43, ty59, T59, ty91, T91, ext51, Kdr_go, adrawL_plain, qop_move, qop_load, qop_nilCheck, qop_fieldAddr, qop_call, qcallF_go, ev, putT, anil, fld, afldAddr, aload, ldK, kd, esz, isEff, qpre, qtail, List.getD_cons_zero, List.getD_cons_succ, List.set_cons_zero, List.set_cons_succ, List.getElem?_cons_zero, List.getElem?_cons_succ, List.map_cons, List.map_nil, List.append_nil, true_and, reduceCtorEq, ne_eq, not_false_eq_true, Nat.zero_add, Nat.add_zero]
  refine (vwrong_ok cap d hc).quiet' (by first | exact ⟨.inl rfl, trivial⟩ | exact ⟨.inl rfl, .inl rfl, trivial⟩ | exact ⟨.inl rfl, .inl rfl, .inl rfl, trivial⟩ | simp [argsOk, argOk, sl, sll]) ?_
  simp only [ty3, T3, Kat_go, Kreg_go, Kdr_go, Qseq_normal, aregL_nil, aregL_plain, adrawL_nil, adrawL_plain, awpL_region, awpL_seq, awpL_cond, aop_move, aop_binOp, qop_assign, ev, cst, putT, aopBin, isSl, abin, aint, kd, List.getD_cons_zero, List.getD_cons_succ, List.set_cons_zero, List.set_cons_succ, true_and]
  refine Kbr.mk (fun c => ?_) (fun c => ?_)
  · have c1 : 0 ≤ wrongS cap d := by have := of_decide_eq_true c; omega
    simp only [ext38, Kreg_go, aregL_plain, awpL_region, awpL_seq, aop_move, aop_call, acallF_go, ev, cst, putT, List.getD_cons_zero, List.getD_cons_succ, List.set_cons_zero, List.set_cons_succ, List.map_cons, List.map_nil, List.append_nil]
    refine (fnew_ok 3 (wrongS cap d)).go (by first | exact ⟨.inl rfl, trivial⟩ | exact ⟨.inl rfl, .inl rfl, trivial⟩ | exact ⟨.inl rfl, .inl rfl, .inl rfl, trivial⟩ | simp [argsOk, argOk, sl, sll]) (WK.now ?_)
    simp only [Kreg_go, Qseq_normal, Qseq_ret, aret_ret, aregL_nil, aregL_plain, awpL_ret, aop_assign, ev, putT, List.getD_cons_zero, List.getD_cons_succ, List.set_cons_zero, List.set_cons_succ]
    refine WK.now ?_
    simp only [naddE, naddL, c1, if_true, Tryd.results26, Kcons_go, Kone_go, Kfin_go, aresL_nil, aresL_tmp, allDefr_nil, offs_nil, one?, List.getD_cons_zero, List.getD_cons_succ, true_and, if_true, decide_true, List.toList_toArray]
    first | done | exact ⟨_, rfl⟩ | exact ⟨rfl, _, rfl⟩
  · have c1 : ¬ 0 ≤ wrongS cap d := by have := of_decide_eq_false c; omega
    simp only [ty43, T43, ty59, T59, ext45, Kat_go, Kreg_go, Qseq_normal, aregL_plain, awpL_skip, awpL_region, awpL_seq, aop_load, aop_fieldAddr, aop_call, acallF_go, ev, putT, fld, afldAddr, aload, ldK, kd, esz, List.getD_cons_zero, List.getD_cons_succ, List.set_cons_zero, List.set_cons_succ, List.getElem?_cons_zero, List.getElem?_cons_succ, List.map_cons, List.map_nil, List.append_nil, true_and, reduceCtorEq, ne_eq, not_false_eq_true, Nat.zero_add]
    have hc' : Sz cap := by have := (wrongS_neg c1).1; unfold Sz; omega
    refine (clone_ok cap hc').at [] (by simp [sbl]) (by simp) (by simp [Tb]) (by simp [AV.ren]) (by simp [AV.belL, AV.bel]) (WK.frz 4 rfl (WK.now ?_))
    simp only [ty43, T43, ty59, T59, ty73, T73, AV.frzL, AV.frz, AObj.frz, Kat_go, Kst_go, Kreg_go, Qseq_normal, aregL_nil, aregL_plain, awpL_region, awpL_draw, awpL_seq, lift, putAll, rn, AV.ren, ren_arr, aop_fieldAddr, aop_new, aop_store, ev, putT, fld, afldAddr, kd, esz, zeroC, splice, AV.cells, D.cells, aalloc, astore, List.getD_cons_zero, List.getD_cons_succ, List.getD_nil, List.set_cons_zero, List.set_cons_succ, List.getElem?_cons_zero, List.getElem?_cons_succ, List.length_cons, List.length_nil, List.map_cons, List.map_nil, List.cons_append, List.nil_append, List.append_nil, List.take_succ_cons, List.take_zero, List.drop_succ_cons, List.drop_zero, List.drop_nil, Nat.reduceAdd, Nat.reduceSub, Nat.reduceLeDiff, Nat.reduceLT, true_and, if_true, if_false, reduceCtorEq, ne_eq, not_false_eq_true, Nat.zero_add]
    refine DRegL.two [0, 1, 2, 3, 4, 5, 6, 7, 8, 9, 10] [11, 12, 13, 14] (by unfold Draw2; kernel_rfl) (by kernel_rfl) (by kernel_rfl) ?_
    simp only [ty3, T3, ty59, T59, ty86, T86, ty91, T91, ext53, Kdr_go, adrawL_nil, adrawL_plain, Kt0_go, atailL_plain, pickL_nil, pickL_cons, aop_call, qop_move, qop_load, qop_nilCheck, qop_fieldAddr, acallF_go, ev, putT, anil, fld, afldAddr, aload, ldK, kd, esz, mkAgg, allD, List.getD_cons_zero, List.getD_cons_succ, List.set_cons_zero, List.set_cons_succ, List.getElem?_cons_zero, List.getElem?_cons_succ, List.length_cons, List.length_nil, List.map_cons, List.map_nil, List.append_nil, List.take_succ_cons, List.take_nil, List.drop_zero, Nat.reduceAdd, Nat.reduceLeDiff, true_and, reduceCtorEq, ne_eq, not_false_eq_true, Nat.zero_add, Nat.add_zero]
    refine (zero_ok d hd).go (by first | exact ⟨.inl rfl, trivial⟩ | exact ⟨.inl rfl, .inl rfl, trivial⟩ | exact ⟨.inl rfl, .inl rfl, .inl rfl, trivial⟩ | simp [argsOk, argOk, sl, sll]) ?_
    simp only [ty3, T3, ty43, T43, ty59, T59, ty86, T86, ty89, T89, ty91, T91, ext52, sl, Kat_go, Kdr_go, adrawL_nil, adrawL_plain, Same_go, Kt_go, atailL_plain, aop_build, aop_call, qop_move, qop_load, qop_nilCheck, qop_fieldAddr, acallF_go, ev, cst, putT, anil, fld, afldAddr, aload, ldK, kd, esz, abuild, zeroC, aplace, afill, splice, AV.cells, D.cells, mkAgg, allD, known, List.getD_cons_zero, List.getD_cons_succ, List.set_cons_zero, List.set_cons_succ, List.getElem?_cons_zero, List.getElem?_cons_succ, List.length_cons, List.length_nil, List.map_cons, List.map_nil, List.cons_append, List.nil_append, List.append_nil, List.take_succ_cons, List.take_zero, List.take_nil, List.drop_succ_cons, List.drop_zero, List.drop_nil, List.all_cons, List.all_nil, Nat.reduceAdd, Nat.reduceLeDiff, Option.isSome_some, Bool.and_true, true_and, if_true, reduceCtorEq, ne_eq, not_false_eq_true, Nat.zero_add, Nat.add_zero, and_self]
    refine (addE_ok sz L k (k, cap, List.replicate (max d 0).toNat 0) h).at [0, 1] (by simp [Tb, sbl, ren_var, ren_map, bel_var, bel_map, AV.renL, AV.ren, AV.belL, AV.bel, rn]) (by simp) (by simp [Tb]) (by simp [fE, AV.ren, rn]) (by simp [AV.belL, AV.bel]) ?_
    simp only [Tb, ty3, T3, ty59, T59, ty77, T77, ty86, T86, ty91, T91, ext37, Kreg_go, Kdr_go, Qseq_normal, aregL_plain, adrawL_nil, adrawL_plain, awpL_region, awpL_seq, Same_go, Kt_go, atailL_nil, atailL_plain, lift, putAll, rn, AV.ren, AV.renL, ren_var, ren_map, aop_move, aop_assign, aop_makeInterface, aop_call, qop_move, qop_load, qop_nilCheck, qop_fieldAddr, acallF_go, ev, putT, anil, fld, afldAddr, aload, ldK, kd, esz, mkAgg, mkIface, allD, List.getD_cons_zero, List.getD_cons_succ, List.set_cons_zero, List.set_cons_succ, List.getElem?_cons_zero, List.getElem?_cons_succ, List.length_cons, List.length_nil, List.map_cons, List.map_nil, List.append_nil, List.take_succ_cons, List.take_nil, List.drop_succ_cons, List.drop_zero, List.drop_nil, Nat.reduceAdd, Nat.reduceSub, Nat.reduceLeDiff, Nat.reduceLT, true_and, if_true, reduceCtorEq, ne_eq, not_false_eq_true, Nat.zero_add, Nat.add_zero, and_self]
    cases hE : addE sz L k with
    | none =>
      simp only [errD]
      refine (as_nil [.var [.d (.int .i64 0)]] (.iface 77 (.pvar 0 0))).at [5] (by simp [sbl, ren_var, bel_var, AV.renL, AV.ren, AV.belL, AV.bel]) (by simp) (by simp [Tb]) (by simp [AV.ren, rn]) (by simp [AV.belL, AV.bel]) (WK.now ?_)
      simp only [Kreg_go, Qseq_normal, Kbr_false, aret_ret, aregL_nil, aregL_plain, awpL_skip, awpL_region, awpL_seq, awpL_cond, awpL_ret, lift, putAll, AV.ren, AV.renL, ren_var, aop_assign, ev, cst, putT, List.getD_cons_zero, List.getD_cons_succ, List.set_cons_zero, List.set_cons_succ, List.length_cons, List.length_nil, List.map_cons, List.map_nil, List.append_nil, List.drop_succ_cons, List.drop_nil, Nat.reduceAdd, Nat.zero_add]
      refine WK.now ?_
      simp only [naddE, naddL, addF, hE, c1, if_false, Option.map_none, errF, Tryd.results26, Kcons_go, Kone_go, Kfin_go, aresL_nil, aresL_tmp, allDefr_nil, offs_nil, one?, List.getD_cons_zero, List.getD_cons_succ, Option.map_none, true_and, if_false, decide_false, List.toList_toArray]
      first | done | exact ⟨_, rfl⟩ | exact ⟨rfl, _, rfl⟩
    | some e =>
      simp only [errD]
      refine (as_hit e (.d (.int .i64 0))).at [5] (by simp [sbl, ren_var, bel_var, AV.renL, AV.ren, AV.belL, AV.bel]) (by simp) (by simp [Tb]) (by simp [AV.ren, rn]) (by simp [AV.belL, AV.bel]) (WK.now ?_)
      simp only [ty73, T73, ext38, Kat_go, Kreg_go, Qseq_normal, Kbr_true, aregL_nil, aregL_plain, awpL_region, awpL_seq, awpL_cond, lift, putAll, AV.ren, AV.renL, ren_var, aop_load, aop_call, acallF_go, ev, cst, putT, aload, ldK, List.getD_cons_zero, List.getD_cons_succ, List.set_cons_zero, List.set_cons_succ, List.getElem?_cons_zero, List.length_cons, List.length_nil, List.map_cons, List.map_nil, List.append_nil, List.drop_succ_cons, List.drop_nil, Nat.reduceAdd, Nat.zero_add]
      refine (fnew_ok e 0).go (by first | exact ⟨.inl rfl, trivial⟩ | exact ⟨.inl rfl, .inl rfl, trivial⟩ | exact ⟨.inl rfl, .inl rfl, .inl rfl, trivial⟩ | simp [argsOk, argOk, sl, sll]) (WK.now ?_)
      simp only [Kreg_go, Qseq_normal, Qseq_ret, aret_ret, aregL_nil, aregL_plain, awpL_ret, aop_assign, ev, putT, List.getD_cons_zero, List.getD_cons_succ, List.set_cons_zero, List.set_cons_succ]
      refine WK.now ?_
      simp only [naddE, naddL, addF, hE, c1, if_false, Option.map_some, errF, Tryd.results26, Kcons_go, Kone_go, Kfin_go, aresL_nil, aresL_tmp, allDefr_nil, offs_nil, one?, List.getD_cons_zero, List.getD_cons_succ, Option.map_some, true_and, if_false, decide_false, List.toList_toArray]
      first | done | exact ⟨_, rfl⟩ | exact ⟨rfl, _, rfl⟩
end Go.Proofs.YtjljjakfebfpfaaDoor
