/-
  The walks of the package node: what each function makes of a store.
-/
import Derived.Test.YtjljjakfebfpfaaDoorNT2
import Derived.Test.YtjljjakfebfpfaaDoorNP
import Derived.Test.YtjljjakfebfpfaaDoorCP
set_option autoImplicit false
set_option linter.unusedVariables false
set_option linter.unusedSimpArgs false
namespace Go.Proofs.YtjljjakfebfpfaaDoor
open Go.Abs

/-- A store of nodes. -/
def Ns (d sz : Int) (L : List (Int × Ent)) : List AObj := [.map (entE fE L), .var [.d (.int .i64 sz), .mapo 0], .var [.d (.int .i64 d), .pvar 1 0]]

theorem nnew_ok (d n : Int) : ACalls env 24 [.d (.int .i64 d), .d (.int .i64 n)] [] fun r H' => r = .pvar 2 0 ∧ H' = Ns (max d 0) (max n 0) [] := by
  refine acalls_of envOk Tryd.func24 rfl (by kernel_rfl) (m := 9) rfl ?_
  simp only [ext46, Kat_go, Kreg_go, Qseq_normal, aregL_nil, aregL_plain, awpL_region, awpL_seq, aop_move, aop_assign, aop_max, aop_call, acallF_go, apureCall, ev, cst, putT, List.getD_cons_zero, List.getD_cons_succ, List.set_cons_zero, List.set_cons_succ, List.length_nil, List.map_cons, List.map_nil, List.cons_append, List.nil_append, List.append_nil, List.reduceReplicate]
  refine (newE_ok n).thus (WK.now ?_)
  simp only [Tb, ty3, T3, ty86, T86, ty91, T91, Kat_go, Kreg_go, Qseq_normal, aret_ret, aregL_nil, aregL_plain, awpL_ret, aop_assign, aop_build, aop_box, ev, cst, putT, kd, esz, abuild, zeroC, aplace, afill, splice, AV.cells, D.cells, mkAgg, allD, known, abox, List.getD_cons_zero, List.getD_cons_succ, List.set_cons_zero, List.set_cons_succ, List.getElem?_cons_zero, List.getElem?_cons_succ, List.length_cons, List.length_nil, List.map_cons, List.map_nil, List.cons_append, List.nil_append, List.append_nil, List.take_succ_cons, List.take_zero, List.drop_succ_cons, List.drop_zero, List.drop_nil, List.all_cons, List.all_nil, Nat.reduceAdd, Nat.reduceLeDiff, Option.isSome_some, Bool.and_true, true_and, if_true, Nat.zero_add, and_self]
  refine WK.now ?_
  simp only [Ns, Tryd.results24, Kcons_go, Kone_go, Kfin_go, aresL_nil, aresL_tmp, allDefr_nil, offs_nil, one?, List.getD_cons_zero, List.getD_cons_succ, and_self, List.toList_toArray]
theorem nnodes_ok (d sz : Int) (L : List (Int × Ent)) : ACalls env 58 [.pvar 2 0] (Ns d sz L) fun r H' => r = .pvar 1 0 ∧ H' = Ns d sz L := by
  unfold Ns
  refine acalls_of envOk Tryd.func58 rfl (by kernel_rfl) (m := 8) rfl ?_
  simp only [ty55, T55, ty86, T86, ty91, T91, Kat_go, Kreg_go, Qseq_normal, Kbr_false, aret_ret, aregL_nil, aregL_plain, awpL_skip, awpL_region, awpL_seq, awpL_cond, awpL_ret, aop_move, aop_assign, aop_load, aop_nilCheck, aop_binOp, aop_fieldAddr, ev, cst, putT, aopBin, isSl, abin, bEq, acmp, ptrish, anil, fld, afldAddr, aload, ldK, kd, esz, List.getD_cons_zero, List.getD_cons_succ, List.set_cons_zero, List.set_cons_succ, List.getElem?_cons_zero, List.getElem?_cons_succ, List.length_cons, List.length_nil, List.cons_append, List.nil_append, List.reduceReplicate, Nat.reduceAdd, true_and, reduceCtorEq, ne_eq, not_false_eq_true, Nat.zero_add]
  refine WK.now ?_
  simp only [Tryd.results58, Kcons_go, Kone_go, Kfin_go, aresL_nil, aresL_tmp, allDefr_nil, offs_nil, one?, List.getD_cons_zero, List.getD_cons_succ, and_self, List.toList_toArray]
theorem nnodes_nil : PCall env 58 [.nilp] .nilp := by
  refine acalls_of envOk Tryd.func58 rfl (by kernel_rfl) (m := 8) rfl ?_
  simp only [ty55, T55, Kat_go, Kreg_go, Qseq_normal, Qseq_ret, Kbr_true, aret_ret, aregL_nil, aregL_plain, awpL_region, awpL_seq, awpL_cond, awpL_ret, aop_move, aop_assign, aop_binOp, ev, cst, putT, aopBin, isSl, abin, bEq, acmp, ptrish, kd, List.getD_cons_zero, List.getD_cons_succ, List.set_cons_zero, List.set_cons_succ, List.length_nil, List.map_cons, List.map_nil, List.cons_append, List.nil_append, List.reduceReplicate]
  refine WK.now ?_
  simp only [Tryd.results58, Kcons_go, Kone_go, Kfin_go, aresL_nil, aresL_tmp, allDefr_nil, offs_nil, one?, List.getD_cons_zero, List.getD_cons_succ, and_self, List.toList_toArray]
theorem ndims_ok (d sz : Int) (L : List (Int × Ent)) : ACalls env 49 [.pvar 2 0] (Ns d sz L) fun r H' => r = .d (.int .i64 d) ∧ H' = Ns d sz L := by
  unfold Ns
  refine acalls_of envOk Tryd.func49 rfl (by kernel_rfl) (m := 8) rfl ?_
  simp only [ty3, T3, ty55, T55, ty91, T91, Kat_go, Kreg_go, Qseq_normal, Kbr_false, aret_ret, aregL_nil, aregL_plain, awpL_skip, awpL_region, awpL_seq, awpL_cond, awpL_ret, aop_move, aop_assign, aop_load, aop_nilCheck, aop_binOp, aop_fieldAddr, ev, cst, putT, aopBin, isSl, abin, bEq, acmp, ptrish, anil, fld, afldAddr, aload, ldK, kd, esz, List.getD_cons_zero, List.getD_cons_succ, List.set_cons_zero, List.set_cons_succ, List.getElem?_cons_zero, List.length_cons, List.length_nil, List.cons_append, List.nil_append, List.reduceReplicate, Nat.reduceAdd, true_and, reduceCtorEq, ne_eq, not_false_eq_true, Nat.zero_add, Nat.add_zero]
  refine WK.now ?_
  simp only [Tryd.results49, Kcons_go, Kone_go, Kfin_go, aresL_nil, aresL_tmp, allDefr_nil, offs_nil, one?, List.getD_cons_zero, List.getD_cons_succ, and_self, List.toList_toArray]
theorem nunk_ok : PCall env 50 [] (errF (some (5, 0))) := by
  refine acalls_of envOk Tryd.func50 rfl (by kernel_rfl) (m := 2) rfl ?_
  simp only [ext38, Kreg_go, Qseq_normal, aregL_nil, aregL_plain, awpL_region, awpL_seq, aop_assign, aop_call, acallF_go, ev, cst, putT, List.set_cons_zero, List.length_nil, List.map_cons, List.map_nil, List.nil_append, List.append_nil, List.reduceReplicate]
  refine (fnew_ok 5 0).go (by first | exact ⟨.inl rfl, trivial⟩ | exact ⟨.inl rfl, .inl rfl, trivial⟩ | exact ⟨.inl rfl, .inl rfl, .inl rfl, trivial⟩ | simp [argsOk, argOk, sl, sll]) (WK.now ?_)
  simp only [Kreg_go, Qseq_normal, aret_ret, aregL_nil, aregL_plain, awpL_ret, aop_assign, ev, putT, List.getD_cons_zero, List.getD_cons_succ, List.set_cons_zero, List.set_cons_succ]
  refine WK.now ?_
  simp only [Tryd.results50, Kcons_go, Kone_go, Kfin_go, aresL_nil, aresL_tmp, allDefr_nil, offs_nil, one?, List.getD_cons_zero, and_self, List.toList_toArray]
theorem nchange_nil (k : Int) (v : List Int) (g : FuncId) : PCall env 54 [.nilp, .int .i64 k, sl v, .func g []] (errF (some (5, 0))) := by
  refine acalls_of envOk Tryd.func54 rfl (by kernel_rfl) (m := 48) rfl ?_
  simp only [ext58, sl, Kreg_go, Qseq_normal, aregL_nil, aregL_plain, awpL_region, awpL_seq, aop_move, aop_assign, aop_call, acallF_go, ev, cst, putT, List.getD_cons_zero, List.getD_cons_succ, List.set_cons_zero, List.set_cons_succ, List.length_nil, List.map_cons, List.map_nil, List.cons_append, List.nil_append, List.append_nil, List.reduceReplicate]
  refine nnodes_nil.go (by first | exact ⟨.inl rfl, trivial⟩ | exact ⟨.inl rfl, .inl rfl, trivial⟩ | exact ⟨.inl rfl, .inl rfl, .inl rfl, trivial⟩ | simp [argsOk, argOk, sl, sll]) (WK.now ?_)
  simp only [ext59, Kreg_go, aregL_plain, aop_move, aop_call, acallF_go, ev, putT, List.getD_cons_zero, List.getD_cons_succ, List.set_cons_zero, List.set_cons_succ, List.map_cons, List.map_nil, List.append_nil]
  refine (getE_nil k).go (by first | exact ⟨.inl rfl, trivial⟩ | exact ⟨.inl rfl, .inl rfl, trivial⟩ | exact ⟨.inl rfl, .inl rfl, .inl rfl, trivial⟩ | simp [argsOk, argOk, sl, sll]) (WK.now ?_)
  simp only [ty89, T89, ext50, Kat_go, Kst_go, Kreg_go, Qseq_normal, Kbr_true, aregL_nil, aregL_plain, awpL_region, awpL_seq, awpL_cond, aop_move, aop_assign, aop_unOp, aop_extract, aop_new, aop_store, aop_call, acallF_go, ev, putT, aun, aext, esz, zeroC, splice, AV.cells, D.cells, aalloc, astore, List.getD_cons_zero, List.getD_cons_succ, List.set_cons_zero, List.set_cons_succ, List.getElem?_cons_zero, List.getElem?_cons_succ, List.length_cons, List.length_nil, List.map_cons, List.map_nil, List.nil_append, List.append_nil, List.take_zero, List.drop_succ_cons, List.drop_nil, Nat.reduceAdd, Nat.reduceLeDiff, Bool.not_false, true_and, Nat.zero_add]
  refine nunk_ok.go (by first | exact ⟨.inl rfl, trivial⟩ | exact ⟨.inl rfl, .inl rfl, trivial⟩ | exact ⟨.inl rfl, .inl rfl, .inl rfl, trivial⟩ | simp [argsOk]) (WK.now ?_)
  simp only [Kreg_go, Qseq_normal, Qseq_ret, aret_ret, aregL_nil, aregL_plain, awpL_ret, aop_assign, ev, putT, List.getD_cons_zero, List.getD_cons_succ, List.set_cons_zero, List.set_cons_succ]
  refine WK.now ?_
  simp only [Tryd.results54, Kcons_go, Kone_go, Kfin_go, aresL_nil, aresL_tmp, allDefr_nil, offs_nil, one?, List.getD_cons_zero, List.getD_cons_succ, and_self, List.toList_toArray]
def InE (L : List (Int × Ent)) : Prop := ∀ k e, lget L k = some e → InR e.2.1 ∧ InR e.2.2 ∧ Sz e.2.1 ∧ Sz e.2.2
set_option maxRecDepth 8000 in
theorem nchange_ok (g : FuncId) (hx : env.ext g = none) (f : Ent → Option (List Int)) (d sz : Int) (L : List (Int × Ent)) (k : Int) (v : List Int) (hv : Sz v)
    (hg : ∀ e, lget L k = some e → ∃ x, PCall env g [fE e, sl v] (.tup [x, .bool (f e).isSome]) ∧ ∀ u, f e = some u → x = sl u) :
    ACalls env 54 [.pvar 2 0, .d (.int .i64 k), .d (sl v), .d (.func g [])] (Ns d sz L) fun r H' => r = .d (errF (chgE L d k v f)) ∧ H' = Ns d sz (chgL L d k v f) := by
  unfold Ns
  refine ACalls.cutTo [0, 1, 2] rfl ?_ (fun l => by simp [sbl, ren_var, ren_map, bel_var, bel_map, AV.renL, AV.ren, AV.belL, AV.bel, rn]) (fun m => by simp [tellL, AV.ren, AV.bel])
  refine acalls_of envOk Tryd.func54 rfl (by kernel_rfl) (m := 48) rfl ?_
  simp only [ext58, sl, Kreg_go, Qseq_normal, aregL_nil, aregL_plain, awpL_region, awpL_seq, aop_move, aop_assign, aop_call, acallF_go, ev, cst, putT, List.getD_cons_zero, List.getD_cons_succ, List.set_cons_zero, List.set_cons_succ, List.length_cons, List.length_nil, List.map_cons, List.map_nil, List.cons_append, List.nil_append, List.append_nil, List.reduceReplicate, Nat.reduceAdd, Nat.zero_add]
  refine (nnodes_ok d sz L).at [0, 1, 2] (by simp [Ns, sbl, ren_var, ren_map, bel_var, bel_map, AV.renL, AV.ren, AV.belL, AV.bel, rn]) (by simp) (by simp [Tb]) (by simp [AV.ren, rn]) (by simp [AV.belL, AV.bel]) (WK.now ?_)
  simp only [Ns, ext59, Kreg_go, aregL_plain, lift, putAll, rn, AV.ren, AV.renL, ren_var, ren_map, aop_move, aop_call, acallF_go, ev, putT, List.getD_cons_zero, List.getD_cons_succ, List.set_cons_zero, List.set_cons_succ, List.length_cons, List.length_nil, List.map_cons, List.map_nil, List.append_nil, List.drop_succ_cons, List.drop_nil, Nat.reduceAdd, Nat.reduceSub, Nat.reduceLT, if_true, Nat.zero_add]
  refine (getE_ok sz L k).at [0, 1] (by simp [Tb, sbl, ren_var, ren_map, bel_var, bel_map, AV.renL, AV.ren, AV.belL, AV.bel, rn]) (by simp) (by simp [Tb]) (by simp [AV.ren, rn]) (by simp [AV.belL, AV.bel]) (WK.now ?_)
  simp only [Tb, gotE, ty89, T89, Kat_go, Kst_go, Kreg_go, Qseq_normal, aregL_nil, aregL_plain, awpL_region, awpL_seq, awpL_cond, lift, putAll, rn, AV.ren, AV.renL, ren_var, ren_map, aop_move, aop_assign, aop_unOp, aop_extract, aop_new, aop_store, ev, putT, aun, aext, esz, zeroC, splice, AV.cells, D.cells, aalloc, astore, List.getD_cons_zero, List.getD_cons_succ, List.set_cons_zero, List.set_cons_succ, List.getElem?_cons_zero, List.getElem?_cons_succ, List.length_cons, List.length_nil, List.map_cons, List.map_nil, List.cons_append, List.nil_append, List.append_nil, List.take_zero, List.drop_succ_cons, List.drop_nil, Nat.reduceAdd, Nat.reduceSub, Nat.reduceLT, if_true, Nat.zero_add, Option.some.injEq]
  cases hl : lget L k with
  | none =>
    simp only [ext50, Kbr_true, aregL_plain, awpL_region, awpL_seq, aop_call, acallF_go, ev, List.length_cons, List.length_nil, List.map_cons, List.map_nil, List.append_nil, List.drop_succ_cons, List.drop_nil, Nat.reduceAdd, Nat.reduceLeDiff, Option.map_none, Bool.not_false, true_and, Nat.zero_add, Option.getD_none, Option.isSome_none]
    refine nunk_ok.go (by first | exact ⟨.inl rfl, trivial⟩ | exact ⟨.inl rfl, .inl rfl, trivial⟩ | exact ⟨.inl rfl, .inl rfl, .inl rfl, trivial⟩ | simp [argsOk]) (WK.now ?_)
    simp only [Kreg_go, Qseq_normal, Qseq_ret, aret_ret, aregL_nil, aregL_plain, awpL_ret, aop_assign, ev, putT, List.getD_cons_zero, List.getD_cons_succ, List.set_cons_zero, List.set_cons_succ]
    refine WK.now ?_
    simp only [chgE, chgL, hl, Tryd.results54, Kcons_go, Kone_go, Kfin_go, aresL_nil, aresL_tmp, allDefr_nil, offs_nil, one?, List.getD_cons_zero, List.getD_cons_succ, true_and, List.toList_toArray]
    first | done | exact ⟨_, rfl⟩ | exact ⟨rfl, _, rfl⟩
  | some e =>
    obtain ⟨x, hp, hu⟩ := hg e hl
    simp only [fE, ty3, T3, ty91, T91, ext51, Kat_go, Kreg_go, Qseq_normal, Kbr_false, aregL_plain, awpL_skip, awpL_region, awpL_seq, aop_move, aop_load, aop_nilCheck, aop_fieldAddr, aop_call, acallF_go, ev, putT, anil, fld, afldAddr, aload, ldK, kd, esz, List.getD_cons_zero, List.getD_cons_succ, List.set_cons_zero, List.set_cons_succ, List.getElem?_cons_zero, List.length_cons, List.length_nil, List.map_cons, List.map_nil, List.append_nil, List.drop_succ_cons, List.drop_nil, Nat.reduceAdd, Nat.reduceLeDiff, Option.isSome_some, Option.map_some, Bool.not_true, true_and, reduceCtorEq, ne_eq, not_false_eq_true, Nat.zero_add, Nat.add_zero, Option.getD_some]
    refine (vwrong_ok v d (Nat.le_trans hv (by omega))).go (by first | exact ⟨.inl rfl, trivial⟩ | exact ⟨.inl rfl, .inl rfl, trivial⟩ | exact ⟨.inl rfl, .inl rfl, .inl rfl, trivial⟩ | simp [argsOk, argOk, sl, sll]) (WK.now ?_)
    simp only [ty3, T3, Kat_go, Kreg_go, Qseq_normal, aregL_nil, aregL_plain, awpL_region, awpL_seq, awpL_cond, aop_move, aop_assign, aop_binOp, ev, cst, putT, aopBin, isSl, abin, aint, kd, List.getD_cons_zero, List.getD_cons_succ, List.set_cons_zero, List.set_cons_succ, true_and]
    refine Kbr.mk (fun c => ?_) (fun c => ?_)
    · have c1 : 0 ≤ wrongS v d := by have := of_decide_eq_true c; omega
      simp only [ext38, Kreg_go, aregL_plain, awpL_region, awpL_seq, aop_move, aop_call, acallF_go, ev, cst, putT, List.getD_cons_zero, List.getD_cons_succ, List.set_cons_zero, List.set_cons_succ, List.map_cons, List.map_nil, List.append_nil]
      refine (fnew_ok 3 (wrongS v d)).go (by first | exact ⟨.inl rfl, trivial⟩ | exact ⟨.inl rfl, .inl rfl, trivial⟩ | exact ⟨.inl rfl, .inl rfl, .inl rfl, trivial⟩ | simp [argsOk, argOk, sl, sll]) (WK.now ?_)
      simp only [Kreg_go, Qseq_normal, Qseq_ret, aret_ret, aregL_nil, aregL_plain, awpL_ret, aop_assign, ev, putT, List.getD_cons_zero, List.getD_cons_succ, List.set_cons_zero, List.set_cons_succ]
      refine WK.now ?_
      simp only [chgE, chgL, hl, c1, if_true, Tryd.results54, Kcons_go, Kone_go, Kfin_go, aresL_nil, aresL_tmp, allDefr_nil, offs_nil, one?, List.getD_cons_zero, List.getD_cons_succ, true_and, if_true, decide_true, List.toList_toArray]
      first | done | exact ⟨_, rfl⟩ | exact ⟨rfl, _, rfl⟩
    · have c1 : ¬ 0 ≤ wrongS v d := by have := of_decide_eq_false c; omega
      simp only [hx, ty89, T89, Kat_go, Kreg_go, Qseq_normal, aregL_plain, awpL_skip, awpL_region, awpL_seq, aop_move, aop_load, aop_call, acallF_go, ev, putT, aload, ldK, mkAgg, allD, List.getD_cons_zero, List.getD_cons_succ, List.set_cons_zero, List.set_cons_succ, List.length_cons, List.length_nil, List.map_cons, List.map_nil, List.append_nil, List.take_succ_cons, List.take_nil, List.drop_zero, Nat.reduceAdd, Nat.reduceLeDiff, true_and, Nat.zero_add]
      refine hp.go (by first | exact ⟨.inl rfl, trivial⟩ | exact ⟨.inl rfl, .inl rfl, trivial⟩ | exact ⟨.inl rfl, .inl rfl, .inl rfl, trivial⟩ | simp [argsOk, argOk, sl, sll]) (WK.now ?_)
      cases hf : f e with
      | none =>
        simp only [ext38, Kat_go, Kreg_go, Qseq_normal, Kbr_true, aregL_nil, aregL_plain, awpL_region, awpL_seq, awpL_cond, aop_move, aop_assign, aop_unOp, aop_extract, aop_call, acallF_go, ev, cst, putT, aun, aext, List.getD_cons_zero, List.getD_cons_succ, List.set_cons_zero, List.set_cons_succ, List.getElem?_cons_zero, List.getElem?_cons_succ, List.map_cons, List.map_nil, List.append_nil, Bool.not_false, Option.isSome_none]
        refine (fnew_ok 10 0).go (by first | exact ⟨.inl rfl, trivial⟩ | exact ⟨.inl rfl, .inl rfl, trivial⟩ | exact ⟨.inl rfl, .inl rfl, .inl rfl, trivial⟩ | simp [argsOk, argOk, sl, sll]) (WK.now ?_)
        simp only [Kreg_go, Qseq_normal, Qseq_ret, aret_ret, aregL_nil, aregL_plain, awpL_ret, aop_assign, ev, putT, List.getD_cons_zero, List.getD_cons_succ, List.set_cons_zero, List.set_cons_succ]
        refine WK.now ?_
        simp only [chgE, chgL, hl, hf, c1, if_false, Tryd.results54, Kcons_go, Kone_go, Kfin_go, aresL_nil, aresL_tmp, allDefr_nil, offs_nil, one?, List.getD_cons_zero, List.getD_cons_succ, true_and, if_false, decide_false, List.toList_toArray]
        first | done | exact ⟨_, rfl⟩ | exact ⟨rfl, _, rfl⟩
      | some u =>
        obtain rfl := hu u hf
        simp only [ty43, T43, ty89, T89, sl, Kat_go, Kst_go, Kreg_go, Qseq_normal, Kbr_false, aregL_nil, aregL_plain, awpL_skip, awpL_region, awpL_draw, awpL_seq, awpL_cond, aop_move, aop_assign, aop_unOp, aop_fieldAddr, aop_extract, aop_store, ev, putT, aun, fld, afldAddr, aext, kd, esz, splice, AV.cells, D.cells, astore, List.getD_cons_zero, List.getD_cons_succ, List.set_cons_zero, List.set_cons_succ, List.getElem?_cons_zero, List.getElem?_cons_succ, List.length_cons, List.length_nil, List.map_cons, List.map_nil, List.cons_append, List.nil_append, List.append_nil, List.take_succ_cons, List.take_zero, List.drop_succ_cons, List.drop_nil, Nat.reduceAdd, Nat.reduceLeDiff, Option.isSome_some, Bool.not_true, true_and, reduceCtorEq, ne_eq, not_false_eq_true, Nat.zero_add]
        refine DRegL.two [0, 1, 2, 3, 4, 5] [6, 7] (by unfold Draw2; kernel_rfl) (by kernel_rfl) (by kernel_rfl) ?_
        simp only [ty86, T86, ty89, T89, ty91, T91, ext74, Kdr_go, adrawL_nil, adrawL_plain, Kt0_go, atailL_plain, pickL_nil, pickL_cons, aop_call, qop_move, qop_load, qop_nilCheck, qop_fieldAddr, acallF_go, ev, putT, anil, fld, afldAddr, aload, ldK, kd, esz, mkAgg, allD, List.getD_cons_zero, List.getD_cons_succ, List.set_cons_zero, List.set_cons_succ, List.getElem?_cons_zero, List.getElem?_cons_succ, List.length_cons, List.length_nil, List.map_cons, List.map_nil, List.append_nil, List.take_succ_cons, List.take_nil, List.drop_zero, Nat.reduceAdd, Nat.reduceLeDiff, true_and, reduceCtorEq, ne_eq, not_false_eq_true, Nat.zero_add]
        refine (setE_ok sz L k (e.1, e.2.1, u)).at [0, 1] (by simp [Tb, sbl, ren_var, ren_map, bel_var, bel_map, AV.renL, AV.ren, AV.belL, AV.bel, rn]) (by simp) (by simp [Tb]) (by simp [fE, AV.ren, rn]) (by simp [AV.belL, AV.bel]) ?_
        simp only [Tb, setE, setL, hl, ty86, T86, ty89, T89, ty91, T91, Kdr_go, Qseq_normal, aret_ret, adrawL_nil, adrawL_plain, awpL_ret, Same_go, Kt_go, atailL_nil, atailL_plain, lift, putAll, rn, AV.ren, AV.renL, ren_var, ren_map, aop_assign, qop_move, qop_load, qop_nilCheck, qop_fieldAddr, ev, putT, anil, fld, afldAddr, aload, ldK, kd, esz, mkAgg, allD, List.getD_cons_zero, List.getD_cons_succ, List.set_cons_zero, List.set_cons_succ, List.getElem?_cons_zero, List.getElem?_cons_succ, List.length_cons, List.length_nil, List.map_cons, List.map_nil, List.append_nil, List.take_succ_cons, List.take_nil, List.drop_succ_cons, List.drop_zero, List.drop_nil, Nat.reduceAdd, Nat.reduceSub, Nat.reduceLeDiff, Nat.reduceLT, Option.isSome_some, true_and, if_true, reduceCtorEq, ne_eq, not_false_eq_true, Nat.zero_add, and_self]
        refine WK.now ?_
        simp only [chgE, chgL, hl, hf, c1, if_false, errF, errD, Tryd.results54, Kcons_go, Kone_go, Kfin_go, aresL_nil, aresL_tmp, allDefr_nil, offs_nil, one?, List.getD_cons_zero, List.getD_cons_succ, true_and, if_false, decide_false, List.toList_toArray]
        first | done | exact ⟨_, rfl⟩ | exact ⟨rfl, _, rfl⟩
theorem two_rows (u v : List Int) : [[D.slice 1 (ints u)], [D.slice 1 (ints v)]] = intss [u, v] := rfl
theorem held_ok (e : Ent) (v : List Int) (h1 : InR e.2.1) (h2 : InR e.2.2) (h3 : Sz e.2.2) (h4 : InR v) (h5 : Sz v) :
    ∃ x, PCall env 55 [fE e, sl v] (.tup [x, .bool (heldS v e).isSome]) ∧ ∀ u, heldS v e = some u → x = sl u := by
  cases ha : addS [e.2.2, v] with
  | none =>
    refine ⟨.nils, ?_, fun u hu => by simp [heldS, ha] at hu⟩
    unfold fE
    refine acalls_of envOk Tryd.func55 rfl (by kernel_rfl) (m := 23) rfl ?_
    simp only [two_rows, ty43, T43, ty54, T54, ty89, T89, ext75, sl, Kat_go, Kreg_go, Qseq_normal, aregL_nil, aregL_plain, awpL_region, awpL_seq, aop_move, aop_assign, aop_load, aop_fieldAddr, aop_box, aop_buildSlice, aop_call, acallF_go, ev, cst, putT, fld, afldAddr, aload, ldK, kd, esz, afill, splice, AV.cells, D.cells, allD, abox, abuildS, AV.low, rep, chunk, List.getD_cons_zero, List.getD_cons_succ, List.set_cons_zero, List.set_cons_succ, List.getElem?_cons_zero, List.getElem?_cons_succ, List.length_cons, List.length_nil, List.map_cons, List.map_nil, List.cons_append, List.nil_append, List.append_nil, List.take_succ_cons, List.take_zero, List.take_nil, List.drop_succ_cons, List.drop_zero, List.drop_nil, List.reduceReplicate, Nat.reduceAdd, Nat.reduceLeDiff, true_and, if_true, reduceCtorEq, ne_eq, not_false_eq_true, Nat.zero_add, Nat.mul_one, and_self]
    refine (vadd_ok [e.2.2, v] (by unfold Sz; simp) (rows2 h3 h5) (rows2 h2 h4)).go (by first | exact ⟨.inl rfl, trivial⟩ | exact ⟨.inl rfl, .inl rfl, trivial⟩ | exact ⟨.inl rfl, .inl rfl, .inl rfl, trivial⟩ | simp [argsOk, argOk, sll]) (WK.now ?_)
    simp only [ha, resS, Kat_go, Kreg_go, Qseq_normal, Kbr_false, Vbr_false, Kno_go, aret_ret, aregL_nil, aregL_plain, aregL_guard, awpL_region, awpL_seq, awpL_ret, aop_move, aop_assign, aop_pick, aop_extract, ev, cst, putT, gval, aext, List.getD_cons_zero, List.getD_cons_succ, List.set_cons_zero, List.set_cons_succ, List.getElem?_cons_zero, List.getElem?_cons_succ, Bool.not_true, Bool.false_beq]
    refine WK.now ?_
    simp only [heldS, ha, Option.bind_none, Option.isSome_none, Tryd.results55, Kcons_go, Kone_go, Kfin_go, aresL_nil, aresL_tmp, allDefr_nil, offs_nil, mkTup, allD, one?, List.getD_cons_zero, List.getD_cons_succ, and_self, Option.isSome_none, List.toList_toArray]
  | some s =>
    refine ⟨sl s, ?_, fun u hu => ?_⟩
    · unfold fE
      refine acalls_of envOk Tryd.func55 rfl (by kernel_rfl) (m := 23) rfl ?_
      simp only [two_rows, ty43, T43, ty54, T54, ty89, T89, ext75, sl, Kat_go, Kreg_go, Qseq_normal, aregL_nil, aregL_plain, awpL_region, awpL_seq, aop_move, aop_assign, aop_load, aop_fieldAddr, aop_box, aop_buildSlice, aop_call, acallF_go, ev, cst, putT, fld, afldAddr, aload, ldK, kd, esz, afill, splice, AV.cells, D.cells, allD, abox, abuildS, AV.low, rep, chunk, List.getD_cons_zero, List.getD_cons_succ, List.set_cons_zero, List.set_cons_succ, List.getElem?_cons_zero, List.getElem?_cons_succ, List.length_cons, List.length_nil, List.map_cons, List.map_nil, List.cons_append, List.nil_append, List.append_nil, List.take_succ_cons, List.take_zero, List.take_nil, List.drop_succ_cons, List.drop_zero, List.drop_nil, List.reduceReplicate, Nat.reduceAdd, Nat.reduceLeDiff, true_and, if_true, reduceCtorEq, ne_eq, not_false_eq_true, Nat.zero_add, Nat.mul_one, and_self]
      refine (vadd_ok [e.2.2, v] (by unfold Sz; simp) (rows2 h3 h5) (rows2 h2 h4)).go (by first | exact ⟨.inl rfl, trivial⟩ | exact ⟨.inl rfl, .inl rfl, trivial⟩ | exact ⟨.inl rfl, .inl rfl, .inl rfl, trivial⟩ | simp [argsOk, argOk, sll]) (WK.now ?_)
      simp only [ha, resS, ty43, T43, ty59, T59, ty89, T89, ext76, sl, Kat_go, Kreg_go, Qseq_normal, Kbr_true, Kgo_go, aregL_nil, aregL_plain, aregL_guard, awpL_region, awpL_seq, aop_move, aop_assign, aop_load, aop_fieldAddr, aop_extract, aop_call, acallF_go, ev, putT, gval, fld, afldAddr, aext, aload, ldK, kd, esz, List.getD_cons_zero, List.getD_cons_succ, List.set_cons_zero, List.set_cons_succ, List.getElem?_cons_zero, List.getElem?_cons_succ, List.map_cons, List.map_nil, List.append_nil, Bool.not_true, beq_self_eq_true, true_and, reduceCtorEq, ne_eq, not_false_eq_true, Nat.zero_add, Nat.add_zero]
      refine (vfits_ok s e.2.1 (addS_sz ha (rows2 h3 h5)) (addS_inR ha) h1).go (by first | exact ⟨.inl rfl, trivial⟩ | exact ⟨.inl rfl, .inl rfl, trivial⟩ | exact ⟨.inl rfl, .inl rfl, .inl rfl, trivial⟩ | simp [argsOk, argOk, sl, sll]) (WK.now ?_)
      simp only [Kat_go, Kreg_go, Qseq_normal, Vbr_true, aret_ret, aregL_nil, aregL_plain, awpL_ret, aop_assign, aop_pick, ev, cst, putT, List.getD_cons_zero, List.getD_cons_succ, List.set_cons_zero, List.set_cons_succ]
      refine WK.now ?_
      simp only [heldS, ha, Option.bind_some, Tryd.results55, Kcons_go, Kone_go, Kfin_go, aresL_nil, aresL_tmp, allDefr_nil, offs_nil, mkTup, allD, one?, List.getD_cons_zero, List.getD_cons_succ, true_and, List.toList_toArray]
      cases B (FitsP s e.2.1) <;> rfl
    · simp only [heldS, ha, Option.bind_some] at hu
      cases hb : B (FitsP s e.2.1) with
      | true => rw [hb] at hu; exact congrArg sl (Option.some.inj hu)
      | false => rw [hb] at hu; cases hu
theorem released_ok (e : Ent) (v : List Int) (h2 : InR e.2.2) (h3 : Sz e.2.2) (h4 : InR v) :
    ∃ x, PCall env 56 [fE e, sl v] (.tup [x, .bool (freedS v e).isSome]) ∧ ∀ u, freedS v e = some u → x = sl u := by
  have key : ∀ x, resS (freedS v e) = .tup [x, .bool (freedS v e).isSome] → PCall env 56 [fE e, sl v] (.tup [x, .bool (freedS v e).isSome]) := fun x hx => by
    unfold fE
    refine acalls_of envOk Tryd.func56 rfl (by kernel_rfl) (m := 10) rfl ?_
    simp only [ty43, T43, ty89, T89, ext60, sl, Kat_go, Kreg_go, Qseq_normal, aregL_nil, aregL_plain, awpL_region, awpL_seq, aop_move, aop_assign, aop_load, aop_fieldAddr, aop_box, aop_call, acallF_go, ev, cst, putT, fld, afldAddr, aload, ldK, kd, esz, AV.cells, D.cells, abox, List.getD_cons_zero, List.getD_cons_succ, List.set_cons_zero, List.set_cons_succ, List.getElem?_cons_zero, List.getElem?_cons_succ, List.length_nil, List.map_cons, List.map_nil, List.cons_append, List.nil_append, List.append_nil, List.reduceReplicate, true_and, reduceCtorEq, ne_eq, not_false_eq_true, Nat.zero_add]
    have hs := vsub_ok e.2.2 v h3 h2 h4
    rw [show bothS _ _ e.2.2 v = freedS v e from rfl, hx] at hs
    refine hs.go (by first | exact ⟨.inl rfl, trivial⟩ | exact ⟨.inl rfl, .inl rfl, trivial⟩ | exact ⟨.inl rfl, .inl rfl, .inl rfl, trivial⟩ | simp [argsOk, argOk, sl, sll]) (WK.now ?_)
    simp only [Kat_go, Kreg_go, Qseq_normal, aret_ret, aregL_nil, aregL_plain, awpL_ret, aop_assign, aop_extract, ev, putT, aext, List.getD_cons_zero, List.getD_cons_succ, List.set_cons_zero, List.set_cons_succ, List.getElem?_cons_zero, List.getElem?_cons_succ]
    refine WK.now ?_
    simp only [Tryd.results56, Kcons_go, Kone_go, Kfin_go, aresL_nil, aresL_tmp, allDefr_nil, offs_nil, mkTup, allD, one?, List.getD_cons_zero, List.getD_cons_succ, and_self, List.toList_toArray]
  cases hf : freedS v e with
  | none =>
    have := key .nils (by rw [hf]; rfl)
    rw [hf] at this
    exact ⟨_, this, fun u hu => by cases hu⟩
  | some s =>
    have := key (sl s) (by rw [hf]; rfl)
    rw [hf] at this
    exact ⟨_, this, fun u hu => by rw [Option.some.inj hu]⟩
theorem nhold_ok (d sz : Int) (L : List (Int × Ent)) (k : Int) (v : List Int) (hL : InE L) (hv : Sz v) (rv : InR v) :
    ACalls env 27 [.pvar 2 0, .d (.int .i64 k), .d (sl v)] (Ns d sz L) fun r H' => r = .d (errF (chgE L d k v (heldS v))) ∧ H' = Ns d sz (chgL L d k v (heldS v)) := by
  unfold Ns
  refine acalls_of envOk Tryd.func27 rfl (by kernel_rfl) (m := 8) rfl ?_
  simp only [ext54, sl, Kreg_go, Qseq_normal, aregL_nil, aregL_plain, awpL_region, awpL_seq, aop_move, aop_assign, aop_call, acallF_go, ev, cst, putT, List.getD_cons_zero, List.getD_cons_succ, List.set_cons_zero, List.set_cons_succ, List.length_cons, List.length_nil, List.map_cons, List.map_nil, List.cons_append, List.nil_append, List.append_nil, List.reduceReplicate, Nat.reduceAdd, Nat.zero_add]
  refine (nchange_ok 55 rfl (heldS v) d sz L k v hv (fun e he => held_ok e v (hL k e he).1 (hL k e he).2.1 (hL k e he).2.2.2 rv hv)).thus (WK.now ?_)
  simp only [Ns, Kreg_go, Qseq_normal, aret_ret, aregL_nil, aregL_plain, awpL_ret, aop_assign, ev, putT, List.getD_cons_zero, List.getD_cons_succ, List.set_cons_zero, List.set_cons_succ]
  refine WK.now ?_
  simp only [Tryd.results27, Kcons_go, Kone_go, Kfin_go, aresL_nil, aresL_tmp, allDefr_nil, offs_nil, one?, List.getD_cons_zero, List.getD_cons_succ, and_self, List.toList_toArray]
theorem nrel_ok (d sz : Int) (L : List (Int × Ent)) (k : Int) (v : List Int) (hL : InE L) (hv : Sz v) (rv : InR v) :
    ACalls env 28 [.pvar 2 0, .d (.int .i64 k), .d (sl v)] (Ns d sz L) fun r H' => r = .d (errF (chgE L d k v (freedS v))) ∧ H' = Ns d sz (chgL L d k v (freedS v)) := by
  unfold Ns
  refine acalls_of envOk Tryd.func28 rfl (by kernel_rfl) (m := 8) rfl ?_
  simp only [ext54, sl, Kreg_go, Qseq_normal, aregL_nil, aregL_plain, awpL_region, awpL_seq, aop_move, aop_assign, aop_call, acallF_go, ev, cst, putT, List.getD_cons_zero, List.getD_cons_succ, List.set_cons_zero, List.set_cons_succ, List.length_cons, List.length_nil, List.map_cons, List.map_nil, List.cons_append, List.nil_append, List.append_nil, List.reduceReplicate, Nat.reduceAdd, Nat.zero_add]
  refine (nchange_ok 56 rfl (freedS v) d sz L k v hv (fun e he => released_ok e v (hL k e he).2.1 (hL k e he).2.2.2 rv)).thus (WK.now ?_)
  simp only [Ns, Kreg_go, Qseq_normal, aret_ret, aregL_nil, aregL_plain, awpL_ret, aop_assign, ev, putT, List.getD_cons_zero, List.getD_cons_succ, List.set_cons_zero, List.set_cons_succ]
  refine WK.now ?_
  simp only [Tryd.results28, Kcons_go, Kone_go, Kfin_go, aresL_nil, aresL_tmp, allDefr_nil, offs_nil, one?, List.getD_cons_zero, List.getD_cons_succ, and_self, List.toList_toArray]
theorem nhold_nil (k : Int) (v : List Int) : PCall env 27 [.nilp, .int .i64 k, sl v] (errF (some (5, 0))) := by
  refine acalls_of envOk Tryd.func27 rfl (by kernel_rfl) (m := 8) rfl ?_
  simp only [ext54, sl, Kreg_go, Qseq_normal, aregL_nil, aregL_plain, awpL_region, awpL_seq, aop_move, aop_assign, aop_call, acallF_go, ev, cst, putT, List.getD_cons_zero, List.getD_cons_succ, List.set_cons_zero, List.set_cons_succ, List.length_nil, List.map_cons, List.map_nil, List.cons_append, List.nil_append, List.append_nil, List.reduceReplicate]
  refine (nchange_nil k v 55).go (by first | exact ⟨.inl rfl, trivial⟩ | exact ⟨.inl rfl, .inl rfl, trivial⟩ | exact ⟨.inl rfl, .inl rfl, .inl rfl, trivial⟩ | simp [argsOk, argOk, sl]) (WK.now ?_)
  simp only [Kreg_go, Qseq_normal, aret_ret, aregL_nil, aregL_plain, awpL_ret, aop_assign, ev, putT, List.getD_cons_zero, List.getD_cons_succ, List.set_cons_zero, List.set_cons_succ]
  refine WK.now ?_
  simp only [Tryd.results27, Kcons_go, Kone_go, Kfin_go, aresL_nil, aresL_tmp, allDefr_nil, offs_nil, one?, List.getD_cons_zero, List.getD_cons_succ, and_self, List.toList_toArray]
end Go.Proofs.YtjljjakfebfpfaaDoor
