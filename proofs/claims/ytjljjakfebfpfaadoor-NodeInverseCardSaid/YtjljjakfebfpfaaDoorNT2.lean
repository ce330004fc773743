/-
  A table's Set at the elements nodes.
-/
import Derived.Test.YtjljjakfebfpfaaDoorNT1
set_option autoImplicit false
set_option linter.unusedVariables false
set_option linter.unusedSimpArgs false
namespace Go.Proofs.YtjljjakfebfpfaaDoor
open Go.Abs

theorem setE_ok (sz : Int) (L : List (Int × (Ent))) (k : Int) (v : Ent) :
    ACalls env 74 [.pvar 1 0, .d (.int .i64 k), .d (fE v)] (Tb fE sz L) fun r H' => r = .d (errD (setE L k)) ∧ H' = Tb fE sz (setL L k v) := by
  refine ACalls.cutTo [0, 1] rfl ?_ (fun l => by simp [Tb, sbl, ren_var, ren_map, bel_var, bel_map, AV.renL, AV.ren, AV.belL, AV.bel, rn]) (fun m => by simp [tellL, AV.ren, AV.bel])
  refine acalls_of envOk Tryd.func74 rfl (by kernel_rfl) (m := 15) rfl ?_
  simp only [Tb, fE, ext72, Kreg_go, Qseq_normal, aregL_nil, aregL_plain, awpL_region, awpL_seq, aop_move, aop_assign, aop_box, aop_call, acallF_go, ev, cst, putT, AV.cells, D.cells, abox, List.getD_cons_zero, List.getD_cons_succ, List.set_cons_zero, List.set_cons_succ, List.length_cons, List.length_nil, List.map_cons, List.map_nil, List.cons_append, List.nil_append, List.append_nil, List.reduceReplicate, Nat.reduceAdd, Nat.zero_add]
  refine (hasE_ok sz L k).at [0, 1] (by simp [Tb, sbl, ren_var, ren_map, bel_var, bel_map, AV.renL, AV.ren, AV.belL, AV.bel, rn]) (by simp) (by simp [Tb]) (by simp [AV.ren, rn]) (by simp [AV.belL, AV.bel]) (WK.now ?_)
  simp only [Tb, Kat_go, Kreg_go, Qseq_normal, aregL_nil, aregL_plain, awpL_cond, lift, putAll, rn, AV.ren, AV.renL, ren_var, ren_map, aop_unOp, ev, putT, aun, List.getD_cons_zero, List.getD_cons_succ, List.set_cons_zero, List.set_cons_succ, List.length_cons, List.length_nil, List.map_cons, List.map_nil, List.append_nil, List.drop_succ_cons, List.drop_nil, Nat.reduceAdd, Nat.reduceSub, Nat.reduceLT, if_true, Nat.zero_add]
  refine Kbr.mk (fun c => ?_) (fun c => ?_)
  · have c : (lget L k).isSome = false := by simpa using c
    simp only [ty73, T73, Kreg_go, Qseq_normal, Qseq_ret, aret_ret, aregL_nil, aregL_plain, awpL_region, awpL_seq, awpL_ret, aop_assign, aop_makeInterface, ev, cst, putT, kd, mkIface, List.getD_cons_zero, List.getD_cons_succ, List.set_cons_zero, List.set_cons_succ]
    refine WK.now ?_
    simp only [setE, setL, c, errD, Tryd.results74, Kcons_go, Kone_go, Kfin_go, aresL_nil, aresL_tmp, allDefr_nil, offs_nil, one?, List.getD_cons_zero, List.getD_cons_succ, Bool.not_false, true_and, if_false, reduceCtorEq, List.toList_toArray]
    simp [Tb]
  · have c : (lget L k).isSome = true := by simpa using c
    simp only [Qseq_normal, awpL_skip, awpL_draw, awpL_seq]
    try refine DRegL.one (by unfold DrawOK; kernel_rfl) ?_
    try simp only [entE_putE, key3, entE_all, isIntK_int, ty89, T89, ty128, T128, ty130, T130, Kst_go, Kreg_go, Kdr_go, Qseq_normal, aret_ret, aregL_nil, aregL_plain, adrawL_nil, adrawL_plain, awpL_region, awpL_seq, awpL_ret, aop_mapUpdate, amapup, aop_assign, qop_move, qop_load, qop_nilCheck, qop_fieldAddr, ev, cst, putT, anil, fld, afldAddr, aload, ldK, kd, esz, mkAgg, allD, AV.low, isEff, qpre, qtail, List.getD_cons_zero, List.getD_cons_succ, List.set_cons_zero, List.set_cons_succ, List.getElem?_cons_zero, List.getElem?_cons_succ, List.length_cons, List.length_nil, List.take_succ_cons, List.take_nil, List.drop_zero, Nat.reduceAdd, Nat.reduceLeDiff, true_and, reduceCtorEq, ne_eq, not_false_eq_true, Nat.zero_add]
    refine WK.now ?_
    simp [setE, setL, c, errD, Kfin, allDefr, offs, aresL, Kone, one?]
end Go.Proofs.YtjljjakfebfpfaaDoor
