/-
  A table's ids: collected in whatever order the map's range brings them, and sorted.
-/
import Derived.Test.YtdmdjiaocbccpaaDoorT2
import Derived.Test.YtdmdjiaocbccpaaDoorTSort
import Derived.Test.YtdmdjiaocbccpaaDoorAbsS
set_option autoImplicit false
set_option linter.unusedVariables false
set_option linter.unusedSimpArgs false
namespace Go.Proofs.YtdmdjiaocbccpaaDoor
open Go.Abs

theorem keys_ok (es : List (D × D)) : ACalls env 33 [.mapo 0] [.map es] fun r H' => r = .func 38 [.pvar 1 0] ∧ H' = [.map es, .var [.mapo 0]] := by
  refine acalls_of envOk Tryd.func33 rfl (by kernel_rfl) (m := 3) rfl ?_
  simp only [Kreg_go, Qseq_normal, aret_ret, aregL_nil, aregL_plain, awpL_region, awpL_seq, awpL_ret, aop_assign, aop_makeFunc, aop_box, ev, cst, putT, AV.cells, mkFunc, allD, abox, List.getD_cons_zero, List.getD_cons_succ, List.set_cons_zero, List.set_cons_succ, List.length_cons, List.length_nil, List.map_cons, List.map_nil, List.cons_append, List.nil_append, List.reduceReplicate, true_and, Nat.zero_add]
  refine WK.now ?_
  simp only [Tryd.results33, Kcons_go, Kone_go, Kfin_go, aresL_nil, aresL_tmp, allDefr_nil, offs_nil, one?, List.getD_cons_zero, List.getD_cons_succ, and_self, List.toList_toArray]

theorem idsI_nil : PCall env 17 [.nilp] .nils := by
  refine acalls_of envOk Tryd.func17 rfl (by kernel_rfl) (m := 19) rfl ?_
  simp only [ty35, T35, Kat_go, Kreg_go, Qseq_normal, Qseq_ret, Kbr_true, aret_ret, aregL_nil, aregL_plain, awpL_region, awpL_seq, awpL_cond, awpL_ret, aop_move, aop_assign, aop_binOp, ev, cst, putT, abin, bEq, acmp, ptrish, kd, List.getD_cons_zero, List.getD_cons_succ, List.set_cons_zero, List.set_cons_succ, List.length_nil, List.map_cons, List.map_nil, List.cons_append, List.nil_append, List.reduceReplicate]
  refine WK.now ?_
  simp only [Tryd.results17, Kcons_go, Kone_go, Kfin_go, aresL_nil, aresL_tmp, allDefr_nil, offs_nil, one?, List.getD_cons_zero, List.getD_cons_succ, and_self, List.toList_toArray]

theorem idsI_ok (sz : Int) (L : List (Int × Int)) (h : L.length ≤ 1000000000) :
    ACalls env 17 [.pvar 1 0] (Tb fI sz L) fun r H' => r = .sfull 2 ∧ H' = Tb fI sz L ++ [.arr 3 1 (ints (srt (L.map (·.1)))), .none] := by
  unfold Tb
  refine acalls_of envOk Tryd.func17 rfl (by kernel_rfl) (m := 19) rfl ?_
  simp only [ty35, T35, ty45, T45, ty65, T65, ty67, T67, ext33, Kat_go, Kreg_go, Qseq_normal, Kbr_false, aregL_nil, aregL_plain, awpL_skip, awpL_region, awpL_seq, awpL_cond, aop_move, aop_assign, aop_load, aop_nilCheck, aop_binOp, aop_fieldAddr, aop_new, aop_call, acallF_go, ev, cst, putT, abin, bEq, acmp, ptrish, anil, fld, afldAddr, aload, ldK, kd, esz, zeroC, aalloc, List.getD_cons_zero, List.getD_cons_succ, List.set_cons_zero, List.set_cons_succ, List.getElem?_cons_zero, List.getElem?_cons_succ, List.length_cons, List.length_nil, List.map_cons, List.map_nil, List.cons_append, List.nil_append, List.append_nil, List.reduceReplicate, Nat.reduceAdd, true_and, reduceCtorEq, ne_eq, not_false_eq_true, Nat.zero_add]
  refine (keys_ok (entE fI L)).at [0] (by simp [sbl, ren_map, bel_map]) (by simp) (by simp [Tb]) (by simp [AV.ren, rn]) (by simp [AV.belL, AV.bel]) (WK.now ?_)
  simp only [Qseq_normal, aregL_nil, awpL_block, awpL_rangeFunc, lift, putAll, rn, AV.ren, AV.renL, ren_var, ren_map, ev, putT, List.getD_cons_zero, List.getD_cons_succ, List.getD_nil, List.set_cons_zero, List.set_cons_succ, List.length_cons, List.length_nil, List.map_cons, List.map_nil, List.cons_append, List.nil_append, List.drop_succ_cons, List.drop_zero, Nat.reduceAdd, Nat.reduceSub, Nat.reduceLT, true_and, if_true, if_false, Nat.zero_add]
  refine ARng.funcG (fun fn lo hlo => ?_)
  simp only [List.length_cons, List.length_nil, List.cons_append, List.nil_append, Nat.reduceAdd, Nat.zero_add]
  refine acalls_of envOk Tryd.func38 rfl (by kernel_rfl) (m := 12) rfl ?_
  simp only [ty65, T65, Kat_go, Kreg_go, aregL_plain, awpL_region, awpL_seq, aop_range, arange, aop_load, ev, putT, aload, ldK, kd, List.getD_cons_zero, List.getD_cons_succ, List.set_cons_zero, List.set_cons_succ, List.getElem?_cons_zero, List.length_cons, List.length_nil, List.cons_append, List.nil_append, List.reduceReplicate, Nat.reduceAdd, Nat.zero_add]
  refine Rng.mk (fun bs clk hb hbn hbc => ?_)
  simp only [Kreg_go, Qseq_normal, aregL_nil, awpL_block, awpL_loop, putT, List.set_cons_zero, List.set_cons_succ, List.length_cons, List.length_nil, List.cons_append, List.nil_append, Nat.reduceAdd, Nat.zero_add]
  have hren : ∀ m, lo.ren (rn [0, 1, 2, 3, 4, 5, 6, 8] m) = lo := fun m => by rw [hlo]; simp [AObj.ren, AV.renL, AV.ren, rn]
  have rn_at : ∀ m i, i < 8 → rn [0, 1, 2, 3, 4, 5, 6, 8] m i = [0, 1, 2, 3, 4, 5, 6, 8].getD i 0 := fun m i hi => by simp [rn, hi]
  have hbel : lo.bel 8 = true := by rw [hlo]; simp [AObj.bel, AV.belL, AV.bel]
  refine ALoop.mk (fun k t H ds => ∃ idx : List Nat, k = L.length - idx.length ∧ idx.Nodup ∧ (∀ j ∈ idx, j < L.length) ∧ t = [.yield 5, .pvar 3 0, .dead, .dead, .mapo 0, .pvar 6 0, .dead, .dead, .dead, .dead, .dead, .dead, .dead, .dead] ∧ ds = [] ∧
      ((idx = [] ∧ H = [.mapb (entE fI L) bs clk, .var [.d (.int .i64 sz), .mapo 0], .var [.d .nils], .var [.mapo 0], .defr, lo, .iter 0 bs clk []]) ∨
       (idx ≠ [] ∧ H = [.mapb (entE fI L) bs clk, .var [.d (.int .i64 sz), .mapo 0], .var [.sfull 7], .var [.mapo 0], .defr, lo, .iter 0 bs clk idx, .arr 3 1 (ints (keysAt L idx))]))) L.length
    (WK.fgt (t' := [.yield 5, .pvar 3 0, .dead, .dead, .mapo 0, .pvar 6 0, .dead, .dead, .dead, .dead, .dead, .dead, .dead, .dead]) (by simp [fgt]) (WK.now ⟨[], by simp, by simp, by simp, rfl, rfl, .inl ⟨rfl, rfl⟩⟩)) ?_
  rintro k t H ds ⟨idx, rfl, hn, hl, rfl, rfl, hH⟩
  have hle := idx_le hn hl
  rcases hH with ⟨rfl, rfl⟩ | ⟨hne, rfl⟩
  · simp only [aregL_plain, awpL_region, awpL_seq, aop_next, anext, ev, List.getD_cons_zero, List.getD_cons_succ, List.length_nil, true_and, ne_eq]
    refine Nxt.mk (by simp) (fun j hj hji => ?_) (fun hall => ?_)
    · have hjL : j < L.length := by simpa [entE_length] using hj
      simp only [entE_length, Kat_go, Kreg_go, Qseq_normal, Kbr_true, aregL_nil, aregL_plain, awpL_skip, awpL_region, awpL_seq, awpL_cond, awpL_block, aop_entry, aentry, aop_move, aop_assign, aop_extract, aop_call, ev, putT, aext, List.getD_cons_zero, List.getD_cons_succ, List.set_cons_zero, List.set_cons_succ, List.getElem?_cons_zero, List.map_cons, List.map_nil, List.nil_append, true_and]
      refine ⟨j, by simp, hjL, ?_⟩
      simp only [entE_entry fI L hjL]
      refine AYield.mk envOk (congrArg some hlo) rfl ?_
      simp only [QasgL_normal, ty3, T3, ty45, T45, Kat_go, Kst_go, Kreg_go, KregW_go, Qblk_normal, Kapp_nils, aregL_nil, aregL_plain, awpL_region, awpL_block, Qrnd_normal, putPs, aop_move, aop_assign, aop_load, aop_store, aop_buildSlice, aop_append, aapp_go, ev, cst, putT, aload, ldK, kd, esz, afill, splice, AV.cells, D.cells, allD, astore, abuildS, AV.low, rep, chunk, srcRows, List.getD_cons_zero, List.getD_cons_succ, List.set_cons_zero, List.set_cons_succ, List.getElem?_cons_zero, List.getElem?_cons_succ, List.length_cons, List.length_nil, List.map_cons, List.map_nil, List.cons_append, List.nil_append, List.append_nil, List.take_succ_cons, List.take_zero, List.take_nil, List.drop_succ_cons, List.drop_nil, Nat.reduceAdd, Nat.reduceLeDiff, true_and, if_true, reduceCtorEq, ne_eq, not_false_eq_true, Nat.zero_add, Nat.mul_one, and_self, Option.some.injEq]
      refine ⟨_, _, _, _, hlo, ?_⟩
      refine ⟨room_of (by omega) (by omega), WK.now ⟨_, _, _, _, _, rfl, WK.now ?_⟩⟩
      simp only [Qloop_normal, Kat_go, Kreg_go, Qseq_normal, Qblk_normal, Kbr_false, aregL_nil, aregL_plain, awpL_skip, awpL_cond, aop_unOp, ev, putT, aun, List.getD_cons_zero, List.getD_cons_succ, List.set_cons_zero, List.set_cons_succ, Bool.not_true]
      simp only [← hlo]
      exact ⟨L.length - 1, by omega, WK.fgt (t' := [.yield 5, .pvar 3 0, .dead, .dead, .mapo 0, .pvar 6 0, .dead, .dead, .dead, .dead, .dead, .dead, .dead, .dead]) (by simp [fgt]) (WK.now ⟨[j], by simp, by simp, by simpa using hjL, rfl, rfl, .inr ⟨by simp, rfl⟩⟩)⟩
    · have hL : L = [] := by
        cases L with
        | nil => rfl
        | cons p L => exact absurd (hall 0 (by simp [entE])) (by simp)
      subst hL
      simp only [Qloop_exit, Kat_go, Kreg_go, Qseq_normal, Qseq_exit, Qblk_exit, Kbr_false, aret_normal, aregL_nil, aregL_plain, awpL_seq, awpL_cond, awpL_exit, aop_extract, ev, putT, aext, List.getD_cons_zero, List.getD_cons_succ, List.set_cons_zero, List.set_cons_succ, List.getElem?_cons_zero, List.length_nil, List.map_nil, Nat.reduceSub, if_true]
      refine WK.unb 0 rfl (WK.now ?_)
      simp only [Tryd.results38, Kone_go, Kfin_go, aresL_nil, allDefr_nil, offs_nil, List.set_cons_zero, true_and, List.toList_toArray]
      subst hlo
      refine Krng.go rfl (WK.now ?_)
      simp only [ty45, T45, ext34, Kat_go, Kreg_go, Qseq_normal, Qblk_normal, aregL_plain, awpL_region, awpL_seq, aop_load, aop_call, acallF_go, ev, putT, aload, ldK, List.getD_cons_zero, List.getD_cons_succ, List.set_cons_zero, List.set_cons_succ, List.getElem?_cons_zero, List.map_cons, List.map_nil, List.append_nil]
      refine (sortI_nil (E := env) (g := 34) Go.Proofs.Tryd.sortInt rfl _).thus (WK.now ?_)
      simp only [ty45, T45, Kat_go, Kreg_go, Qseq_normal, aret_ret, aregL_nil, aregL_plain, awpL_region, awpL_seq, awpL_ret, aop_assign, aop_load, ev, putT, aload, ldK, List.getD_cons_zero, List.getD_cons_succ, List.set_cons_zero, List.set_cons_succ, List.getElem?_cons_zero]
      refine WK.nil 2 3 1 rfl ?_
      simp only [List.set_cons_zero, List.set_cons_succ, List.length_cons, List.length_nil, List.cons_append, List.nil_append, Nat.reduceAdd, Nat.zero_add]
      refine WK.pickD [0, 1, 7, 4] (H' := [.map (entE fI []), .var [.d (.int .i64 sz), .mapo 0], .arr 3 1 [], .defr]) (t' := [.dead, .dead, .sfull 2, .dead, .dead, .dead, .dead, .dead, .dead, .dead, .dead, .dead, .dead, .dead, .dead, .dead, .dead, .dead, .dead, .dead]) (ds' := [3]) (by simp [sbl, ren_var, ren_arr, ren_map, ren_defr, bel_var, bel_arr, bel_map, bel_defr, AV.renL, AV.ren, AV.belL, AV.bel, rn]) (by simp) (by simp) (by simp [tellL, AV.ren, AV.bel, rn]) (by simp [rn]) (by simp) (by decide) (WK.now ?_)
      simp only [Tryd.results17, Kcons_go, Kone_go, Kfin_go, aresL_nil, aresL_tmp, allDefr_nil, allDefr_cons, offs_nil, offs_cons, one?, List.getD_cons_zero, List.getD_cons_succ, List.set_cons_zero, List.set_cons_succ, List.getElem?_cons_zero, List.getElem?_cons_succ, true_and, and_self, List.toList_toArray]
      simp [srt, ints]
  · have hlt : idx.length < L.length ∨ ¬ idx.length < L.length := by omega
    simp only [aregL_plain, awpL_region, awpL_seq, aop_next, anext, ev, List.getD_cons_zero, List.getD_cons_succ, true_and, ne_eq]
    refine Nxt.mk (by simpa [entE_length] using hl) (fun j hj hji => ?_) (fun hall => ?_)
    · have hjL : j < L.length := by simpa [entE_length] using hj
      have hn' : (idx ++ [j]).Nodup := by rw [List.nodup_append]; exact ⟨hn, by simp, fun a ha b hb => by simp at hb; subst hb; exact fun e => hji (e ▸ ha)⟩
      have hl' : ∀ q ∈ idx ++ [j], q < L.length := fun q hq => by
        rcases List.mem_append.1 hq with hq | hq
        · exact hl q hq
        · simp at hq; subst hq; exact hjL
      have hle' := idx_le hn' hl'
      simp at hle'
      simp only [entE_length, Kat_go, Kreg_go, Qseq_normal, Kbr_true, aregL_nil, aregL_plain, awpL_skip, awpL_region, awpL_seq, awpL_cond, awpL_block, aop_entry, aentry, aop_move, aop_assign, aop_extract, aop_call, ev, putT, aext, List.getD_cons_zero, List.getD_cons_succ, List.set_cons_zero, List.set_cons_succ, List.getElem?_cons_zero, List.map_cons, List.map_nil, true_and]
      refine ⟨j, by simp, hjL, ?_⟩
      simp only [entE_entry fI L hjL]
      refine AYield.mk envOk (congrArg some hlo) rfl ?_
      simp only [QasgL_normal, ty3, T3, ty45, T45, ints_length, Kat_go, Kst_go, Kreg_go, KregW_go, Qblk_normal, Kapp_sfull, aregL_nil, aregL_plain, awpL_region, awpL_block, Qrnd_normal, putPs, aop_move, aop_assign, aop_load, aop_store, aop_buildSlice, aop_append, aapp_go, ev, cst, putT, aload, ldK, kd, esz, afill, splice, AV.cells, D.cells, allD, astore, abuildS, AV.low, rep, chunk, srcRows, List.getD_cons_zero, List.getD_cons_succ, List.set_cons_zero, List.set_cons_succ, List.getElem?_cons_zero, List.getElem?_cons_succ, List.length_cons, List.length_nil, List.map_cons, List.map_nil, List.cons_append, List.nil_append, List.append_nil, List.take_succ_cons, List.take_zero, List.take_nil, List.drop_succ_cons, List.drop_nil, Nat.reduceAdd, Nat.reduceLeDiff, true_and, if_true, reduceCtorEq, ne_eq, not_false_eq_true, Nat.zero_add, Nat.mul_one, and_self, Option.some.injEq]
      refine ⟨_, _, _, _, hlo, ?_⟩
      refine ⟨room_of (by simp [keysAt]; omega) (by omega), WK.now ⟨_, _, _, _, _, rfl, WK.now ?_⟩⟩
      simp only [Qloop_normal, Kat_go, Kreg_go, Qseq_normal, Qblk_normal, Kbr_false, aregL_nil, aregL_plain, awpL_skip, awpL_cond, aop_unOp, ev, putT, aun, List.getD_cons_zero, List.getD_cons_succ, List.set_cons_zero, List.set_cons_succ, Bool.not_true]
      simp only [← hlo]
      refine ⟨L.length - (idx ++ [j]).length, by simp; omega, WK.pick [0, 1, 2, 3, 4, 5, 6, 8] (t' := [.yield 5, .pvar 3 0, .dead, .dead, .mapo 0, .pvar 6 0, .dead, .dead, .dead, .dead, .dead, .dead, .dead, .dead]) (H' := [.mapb (entE fI L) bs clk, .var [.d (.int .i64 sz), .mapo 0], .var [.sfull 7], .var [.mapo 0], .defr, lo, .iter 0 bs clk (idx ++ [j]), .arr 3 1 (ints (keysAt L idx ++ [(L.map (·.1)).getD j 0]))]) (by simp [ints, sbl, ren_var, ren_arr, ren_mapb, ren_iter, ren_defr, bel_var, bel_arr, bel_mapb, bel_iter, bel_defr, AV.renL, AV.ren, AV.belL, AV.bel, hren, hbel, rn_at]) (by simp) (by simp) (by simp [tellL, AV.ren, AV.bel, rn]) (by decide) (WK.now ⟨idx ++ [j], rfl, hn', hl', rfl, rfl, .inr ⟨by simp, by rw [keysAt_snoc]⟩⟩)⟩
    · have hp := keysAt_perm hn hl (fun j hj => hall j (by simpa [entE_length] using hj))
      simp only [Qloop_exit, Kat_go, Kreg_go, Qseq_normal, Qseq_exit, Qblk_exit, Kbr_false, aret_normal, aregL_nil, aregL_plain, awpL_seq, awpL_cond, awpL_exit, aop_extract, ev, putT, aext, List.getD_cons_zero, List.getD_cons_succ, List.set_cons_zero, List.set_cons_succ, List.getElem?_cons_zero, if_true]
      refine WK.unb 0 rfl (WK.now ?_)
      simp only [Tryd.results38, Kone_go, Kfin_go, aresL_nil, allDefr_nil, offs_nil, List.set_cons_zero, true_and, List.toList_toArray]
      subst hlo
      refine Krng.go rfl (WK.now ?_)
      simp only [ty45, T45, ext34, Kat_go, Kreg_go, Qseq_normal, Qblk_normal, aregL_plain, awpL_region, awpL_seq, aop_load, aop_call, acallF_go, ev, putT, aload, ldK, List.getD_cons_zero, List.getD_cons_succ, List.set_cons_zero, List.set_cons_succ, List.getElem?_cons_zero, List.map_cons, List.map_nil, List.append_nil]
      refine (sortI (E := env) (g := 34) Go.Proofs.Tryd.sortInt rfl (id := 7) (ty := 3) (ks := keysAt L idx) rfl (by simp [keysAt]; omega)).thus (WK.now ?_)
      simp only [ty45, T45, Kat_go, Kreg_go, Qseq_normal, aret_ret, aregL_nil, aregL_plain, awpL_region, awpL_seq, awpL_ret, aop_assign, aop_load, ev, putT, aload, ldK, List.getD_cons_zero, List.getD_cons_succ, List.set_cons_zero, List.set_cons_succ, List.getElem?_cons_zero]
      refine WK.pickD [0, 1, 7, 4] (H' := [.map (entE fI L), .var [.d (.int .i64 sz), .mapo 0], .arr 3 1 (ints (srt (keysAt L idx))), .defr]) (t' := [.dead, .dead, .sfull 2, .dead, .dead, .dead, .dead, .dead, .dead, .dead, .dead, .dead, .dead, .dead, .dead, .dead, .dead, .dead, .dead, .dead]) (ds' := [3]) (by simp [ints, sbl, ren_var, ren_arr, ren_map, ren_defr, bel_var, bel_arr, bel_map, bel_defr, AV.renL, AV.ren, AV.belL, AV.bel, rn]) (by simp) (by simp) (by simp [tellL, AV.ren, AV.bel, rn]) (by simp [rn]) (by simp) (by decide) (WK.now ?_)
      simp only [Tryd.results17, Kcons_go, Kone_go, Kfin_go, aresL_nil, aresL_tmp, allDefr_nil, allDefr_cons, offs_nil, offs_cons, one?, List.getD_cons_zero, List.getD_cons_succ, List.set_cons_zero, List.set_cons_succ, List.getElem?_cons_zero, List.getElem?_cons_succ, true_and, and_self, List.toList_toArray]
      rw [srt_unique ((srt_perm _).trans hp.symm) (srt_sorted _)]
end Go.Proofs.YtdmdjiaocbccpaaDoor
