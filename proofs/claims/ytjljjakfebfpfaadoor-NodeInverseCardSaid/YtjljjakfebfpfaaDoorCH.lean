/-
  All classes of a store, and the highest one.
-/
import Derived.Test.YtjljjakfebfpfaaDoorCF
set_option autoImplicit false
set_option linter.unusedVariables false
set_option linter.unusedSimpArgs false
namespace Go.Proofs.YtjljjakfebfpfaaDoor
open Go.Abs

def lk (L : List (Int × Cls)) (k : Int) : Cls := (lget L k).getD (0, 0, false)
def allOf (L : List (Int × Cls)) (ks : List Int) : List Cls := ks.map (lk L)
theorem allOf_snoc (L : List (Int × Cls)) {ks : List Int} {i : Nat} (h : i < ks.length) : cls (allOf L (ks.take i)) ++ [cD (lk L (ks.getD i 0))] = cls (allOf L (ks.take (i + 1))) := by
  show cls (allOf L (ks.take i)) ++ cls [lk L (ks.getD i 0)] = _
  rw [cls_app]
  congr 1
  unfold allOf
  rw [List.take_add_one, List.map_append]
  simp [List.getD_eq_getElem?_getD, h]

theorem sall_ok (sz : Int) (L : List (Int × Cls)) (h : L.length ≤ 1000000) :
    ACalls env 16 [.pvar 2 0] (Sc sz L) fun r H' => r = .sfull 3 ∧ H' = Sc sz L ++ [.arr 30 3 (cls (allOf L (srt (L.map (·.1)))))] := by
  refine acalls_of envOk Tryd.func16 rfl (by kernel_rfl) (m := 27) rfl ?_
  simp only [ext35, Kreg_go, Qseq_normal, aregL_nil, aregL_plain, awpL_region, awpL_seq, aop_move, aop_assign, aop_call, acallF_go, ev, cst, putT, List.getD_cons_zero, List.getD_cons_succ, List.set_cons_zero, List.set_cons_succ, List.map_cons, List.map_nil, List.cons_append, List.nil_append, List.append_nil, List.reduceReplicate]
  refine (sclasses_ok sz L).thus (WK.now ?_)
  simp only [Sc, ext41, aregL_plain, aop_call, acallF_go, ev, putT, List.getD_cons_zero, List.getD_cons_succ, List.set_cons_zero, List.set_cons_succ, List.length_cons, List.length_nil, List.map_cons, List.map_nil, List.cons_append, List.nil_append, List.append_nil, Nat.reduceAdd, Nat.zero_add]
  refine (idsDC_ok sz L (by omega)).at [0, 1] (by simp [Tb, sbl, ren_var, ren_map, bel_var, bel_map, AV.renL, AV.ren, AV.belL, AV.bel, rn]) (by simp) (by simp [Tb]) (by simp [AV.ren, rn]) (by simp [AV.belL, AV.bel]) (WK.now ?_)
  generalize hks : srt (L.map (·.1)) = ks
  have hkl : ks.length ≤ 1000000 := by rw [← hks, srt_length, List.length_map]; exact h
  simp only [Tb, ints_length, ty66, T66, ints_length, sl, Kat_go, Kreg_go, Qseq_normal, aregL_nil, aregL_plain, awpL_block, awpL_loop, lift, putAll, rn, AV.ren, AV.renL, ren_var, ren_map, aop_move, aop_len, apureCall, ev, cst, putT, rowLen, alen, kd, List.getD_cons_zero, List.getD_cons_succ, List.set_cons_zero, List.set_cons_succ, List.length_cons, List.length_nil, List.map_cons, List.map_nil, List.append_nil, List.drop_succ_cons, List.drop_nil, Nat.reduceAdd, Nat.reduceSub, Nat.reduceLT, if_true, Nat.zero_add]
  refine ALoop.mk (fun n t H ds => ∃ i : Nat, n = ks.length - i ∧ i ≤ ks.length ∧ t = [.pvar 2 0, .dead, .dead, .sfull 3, .dead, .dead, .dead, .dead, .dead, .dead, .d (.slice 1 (ints ks)), .d (.int .i64 ks.length), .d (.int .i64 (i : Nat)), .dead, .dead, .dead, .dead, .dead, .dead, .dead, .dead, .dead, .dead, .dead, .dead, .dead, .dead, .dead] ∧ H = Sc sz L ++ [.arr 30 3 (cls (allOf L (ks.take i)))] ∧ ds = []) ks.length
    (WK.nil 3 30 3 rfl (WK.fgt (t' := [.pvar 2 0, .dead, .dead, .sfull 3, .dead, .dead, .dead, .dead, .dead, .dead, .d (.slice 1 (ints ks)), .d (.int .i64 ks.length), .d (.int .i64 (0 : Nat)), .dead, .dead, .dead, .dead, .dead, .dead, .dead, .dead, .dead, .dead, .dead, .dead, .dead, .dead, .dead]) (by simp [fgt]) (WK.now ⟨0, by omega, by omega, rfl, by simp [Sc, allOf, cls], rfl⟩))) ?_
  rintro n t H ds ⟨i, rfl, hi, rfl, rfl, rfl⟩
  simp only [Sc, ty3, T3, Int.ofNat_lt, Kat_go, Kreg_go, Qseq_normal, aregL_nil, aregL_plain, awpL_region, awpL_seq, awpL_cond, aop_binOp, ev, putT, aopBin, isSl, abin, aint, kd, List.getD_cons_zero, List.getD_cons_succ, List.set_cons_zero, List.set_cons_succ, List.cons_append, List.nil_append, true_and]
  refine Kbr.mk (fun c => ?_) (fun c => ?_)
  · have c2 : i < ks.length := by simpa using c
    simp only [c2, cel_ints, ints_length, ty3, T3, ty66, T66, ext17, ints_length, Int.natCast_nonneg, Int.ofNat_lt, Kat_go, Kreg_go, Qseq_normal, aregL_nil, aregL_plain, awpL_skip, awpL_region, awpL_seq, awpL_block, aop_move, aop_assign, aop_load, aop_indexAddr, aop_call, acallF_go, ev, putT, rowPtr, aidx, aload, rdRow, ldK, kd, esz, List.getD_cons_zero, List.getD_cons_succ, List.set_cons_zero, List.set_cons_succ, List.map_cons, List.map_nil, List.append_nil, Nat.reduceLT, true_and, Int.toNat_natCast, decide_true]
    refine (sget_ok sz L (ks.getD i 0)).at [0, 1, 2] (by simp [Sc, sbl, ren_var, ren_map, bel_var, bel_map, AV.renL, AV.ren, AV.belL, AV.bel, rn]) (by simp) (by simp [Tb]) (by simp [AV.ren, rn]) (by simp [AV.belL, AV.bel]) (WK.now ?_)
    simp only [Sc, gotC, fC, cD, succ64 c2 (show ks.length ≤ 4611686018427387904 by omega), cls_length, ty3, T3, ty22, T22, ty30, T30, Qloop_normal, Kat_go, Kst_go, Kreg_go, Qseq_normal, Qblk_normal, Kapp_sfull, aregL_nil, aregL_plain, awpL_region, lift, putAll, rn, AV.ren, AV.renL, ren_var, ren_map, aop_move, aop_assign, aop_load, aop_binOp, aop_extract, aop_new, aop_store, aop_buildSlice, aop_append, aapp_go, ev, cst, putT, aopBin, isSl, abin, aint, aext, aload, ldK, kd, esz, zeroC, afill, splice, AV.cells, D.cells, mkAgg, allD, aalloc, astore, abuildS, AV.low, rep, chunk, srcRows, List.getD_cons_zero, List.getD_cons_succ, List.set_cons_zero, List.set_cons_succ, List.getElem?_cons_zero, List.getElem?_cons_succ, List.length_cons, List.length_nil, List.map_cons, List.map_nil, List.cons_append, List.nil_append, List.append_nil, List.take_succ_cons, List.take_zero, List.take_nil, List.drop_succ_cons, List.drop_zero, List.drop_nil, Nat.reduceAdd, Nat.reduceSub, Nat.reduceLeDiff, Nat.reduceLT, true_and, if_true, reduceCtorEq, ne_eq, not_false_eq_true, Nat.zero_add, Nat.zero_mul, Nat.one_mul, and_self]
    have e := allOf_snoc L c2
    simp only [cD, lk] at e
    have hr : room ((allOf L (List.take i ks)).length + 1) 24 := room_of (by simp [allOf]; omega) (by omega)
    refine ⟨hr, ks.length - (i + 1), by omega, WK.pick [0, 1, 2, 5] (t' := [.pvar 2 0, .dead, .dead, .sfull 3, .dead, .dead, .dead, .dead, .dead, .dead, .d (.slice 1 (ints ks)), .d (.int .i64 ks.length), .d (.int .i64 (i + 1 : Nat)), .dead, .dead, .dead, .dead, .dead, .dead, .dead, .dead, .dead, .dead, .dead, .dead, .dead, .dead, .dead]) (H' := [.map (entE fC L), .var [.d (.int .i64 sz), .mapo 0], .var [.pvar 1 0], .arr 30 3 (cls (allOf L (ks.take i)) ++ [[.int .i64 ((lget L (ks.getD i 0)).getD (0, 0, false)).1, .int .i64 ((lget L (ks.getD i 0)).getD (0, 0, false)).2.1, .bool ((lget L (ks.getD i 0)).getD (0, 0, false)).2.2]])]) (by simp [sbl, ren_var, ren_arr, ren_map, bel_var, bel_arr, bel_map, AV.renL, AV.ren, AV.belL, AV.bel, rn]) (by simp) (by simp) (by simp [tellL, AV.ren, AV.bel, rn]) (by decide) (WK.now ⟨i + 1, rfl, by omega, rfl, by rw [e], rfl⟩)⟩
  · have c2 : ¬ i < ks.length := by simpa using c
    have e : ks.take i = ks := List.take_of_length_le (by omega)
    simp only [e, Qloop_exit, Kreg_go, Qseq_normal, Qseq_exit, Qblk_exit, aret_ret, aregL_nil, aregL_plain, awpL_region, awpL_seq, awpL_exit, awpL_ret, aop_move, aop_assign, ev, putT, List.getD_cons_zero, List.getD_cons_succ, List.set_cons_zero, List.set_cons_succ, if_true]
    refine WK.now ?_
    simp only [Tryd.results16, Kcons_go, Kone_go, Kfin_go, aresL_nil, aresL_tmp, allDefr_nil, offs_nil, one?, List.getD_cons_zero, List.getD_cons_succ, and_self, List.toList_toArray]

/-- The rows, as plain data. -/
theorem sallD_ok (sz : Int) (L : List (Int × Cls)) (h : L.length ≤ 1000000) :
    ACalls env 16 [.pvar 2 0] (Sc sz L) fun r H' => r = .d (.slice 3 (cls (allOf L (srt (L.map (·.1)))))) ∧ H' = Sc sz L :=
  (sall_ok sz L h).retell (by
    rintro r H' ⟨rfl, rfl⟩
    unfold Sc
    refine WK.frz 3 rfl ?_
    simp only [AV.frzL, AV.frz, AObj.frz, List.cons_append, List.nil_append, List.set_cons_zero, List.set_cons_succ, List.map_cons, List.map_nil, if_true]
    exact WK.pick [0, 1, 2] (t' := [.d (.slice 3 (cls (allOf L (srt (L.map (·.1))))))]) (H' := [.map (entE fC L), .var [.d (.int .i64 sz), .mapo 0], .var [.pvar 1 0]]) (by simp [sbl, ren_var, ren_map, bel_var, bel_map, AV.renL, AV.ren, AV.belL, AV.bel, rn]) (by simp) (by simp) (by simp [tellL, AV.ren, AV.bel]) (show ∀ id, id < 3 → ([0, 1, 2] : List Nat)[id]? = some id by decide) (WK.now ⟨_, rfl, rfl, rfl⟩))

def cmpC (a b : Cls) : Int := if a.2.1 = b.2.1 then IntKind.wrap .i64 (b.1 - a.1) else IntKind.wrap .i64 (a.2.1 - b.2.1)
theorem cmpC_ok (a b : Cls) : PCall env 44 [fC a, fC b] (.int .i64 (cmpC a b)) := by
  unfold fC cD
  refine acalls_of envOk Tryd.func44 rfl (by kernel_rfl) (m := 18) rfl ?_
  simp only [ty3, T3, ty30, T30, Kat_go, Kreg_go, Qseq_normal, aregL_nil, aregL_plain, awpL_region, awpL_seq, awpL_cond, aop_assign, aop_load, aop_binOp, aop_fieldAddr, aop_box, ev, cst, putT, aopBin, isSl, abin, aint, fld, afldAddr, aload, ldK, kd, esz, AV.cells, D.cells, abox, List.getD_cons_zero, List.getD_cons_succ, List.set_cons_zero, List.set_cons_succ, List.getElem?_cons_zero, List.getElem?_cons_succ, List.length_cons, List.length_nil, List.map_cons, List.map_nil, List.cons_append, List.nil_append, List.reduceReplicate, true_and, reduceCtorEq, ne_eq, not_false_eq_true, Nat.zero_add]
  refine Kbr.mk (fun c => ?_) (fun c => ?_)
  · have c2 : a.2.1 = b.2.1 := by simpa using c
    simp only [ty3, T3, ty30, T30, Kat_go, Kreg_go, Qseq_normal, Qseq_ret, aret_ret, aregL_nil, aregL_plain, awpL_region, awpL_seq, awpL_ret, aop_assign, aop_load, aop_binOp, aop_fieldAddr, ev, putT, aopBin, isSl, abin, aint, fld, afldAddr, aload, ldK, kd, esz, List.getD_cons_zero, List.getD_cons_succ, List.set_cons_zero, List.set_cons_succ, List.getElem?_cons_zero, true_and, reduceCtorEq, ne_eq, not_false_eq_true, Nat.add_zero]
    refine WK.now ?_
    simp only [cmpC, c2, Tryd.results44, Kcons_go, Kone_go, Kfin_go, aresL_nil, aresL_tmp, allDefr_nil, offs_nil, one?, List.getD_cons_zero, List.getD_cons_succ, beq_self_eq_true, if_true, and_self, List.toList_toArray]
  · have c2 : ¬ a.2.1 = b.2.1 := by simpa using c
    simp only [ty3, T3, ty30, T30, Kat_go, Kreg_go, Qseq_normal, aret_ret, aregL_nil, aregL_plain, awpL_skip, awpL_region, awpL_seq, awpL_ret, aop_assign, aop_load, aop_binOp, aop_fieldAddr, ev, putT, aopBin, isSl, abin, aint, fld, afldAddr, aload, ldK, kd, esz, List.getD_cons_zero, List.getD_cons_succ, List.set_cons_zero, List.set_cons_succ, List.getElem?_cons_zero, List.getElem?_cons_succ, true_and, reduceCtorEq, ne_eq, not_false_eq_true, Nat.zero_add]
    refine WK.now ?_
    simp only [cmpC, c2, Tryd.results44, Kcons_go, Kone_go, Kfin_go, aresL_nil, aresL_tmp, allDefr_nil, offs_nil, one?, List.getD_cons_zero, List.getD_cons_succ, if_false, and_self, List.toList_toArray]
/-- The greatest of the first i + 1. -/
def mx (l : List Cls) : Nat → Cls
  | 0 => l.getD 0 (0, 0, false)
  | i + 1 => if cmpC (l.getD (i + 1) (0, 0, false)) (mx l i) > 0 then l.getD (i + 1) (0, 0, false) else mx l i

theorem max_ok (l : List Cls) (h0 : 0 < l.length) (h : l.length ≤ 1000000) : PCall env 43 [.slice 3 (cls l), .func 44 []] (fC (mx l (l.length - 1))) := by
  have n1 : decide ((l.length : Int) < 1) = false := decide_eq_false (by omega)
  refine acalls_of envOk Tryd.func43 rfl (by kernel_rfl) (m := 31) rfl ?_
  simp only [n1, h0, seg_cls, cD, cls_length, ty3, T3, ty22, T22, ty30, T30, Kat_go, Kst_go, Kreg_go, Qseq_normal, Kbr_false, aregL_nil, aregL_plain, awpL_skip, awpL_region, awpL_seq, awpL_cond, awpL_block, awpL_loop, aop_move, aop_assign, aop_load, aop_binOp, aop_indexAddr, aop_new, aop_store, aop_len, apureCall, ev, cst, putT, aopBin, isSl, abin, aint, rowLen, alen, rowPtr, aidx, aload, rdRow, ldK, kd, esz, zeroC, splice, AV.cells, D.cells, aalloc, astore, List.getD_cons_zero, List.getD_cons_succ, List.set_cons_zero, List.set_cons_succ, List.length_cons, List.length_nil, List.map_cons, List.map_nil, List.cons_append, List.nil_append, List.append_nil, List.take_zero, List.drop_succ_cons, List.drop_nil, List.reduceReplicate, Nat.reduceAdd, Nat.reduceLeDiff, true_and, Nat.zero_add, Int.toNat_zero, Int.reduceLE]
  refine ⟨by omega, ?_⟩
  refine ALoop.mk (fun n t H ds => ∃ i : Nat, n = l.length - i ∧ 1 ≤ i ∧ i ≤ l.length ∧ t = [.d (.slice 3 (cls l)), .d (.func 44 []), .dead, .dead, .pvar 0 0, .pvar 1 0, .d (.int .i64 (i : Nat)), .dead, .dead, .dead, .dead, .dead, .dead, .dead, .dead, .dead, .dead, .dead, .dead, .dead, .dead, .dead, .dead, .dead, .dead, .dead, .dead, .dead, .dead, .dead, .dead, .dead, .dead] ∧ H = [.var [.d (.int .i64 0), .d (.int .i64 0), .d (.bool false)], .var [.d (.int .i64 (mx l (i - 1)).1), .d (.int .i64 (mx l (i - 1)).2.1), .d (.bool (mx l (i - 1)).2.2)]] ∧ ds = []) (l.length - 1)
    (WK.fgt (t' := [.d (.slice 3 (cls l)), .d (.func 44 []), .dead, .dead, .pvar 0 0, .pvar 1 0, .d (.int .i64 (1 : Nat)), .dead, .dead, .dead, .dead, .dead, .dead, .dead, .dead, .dead, .dead, .dead, .dead, .dead, .dead, .dead, .dead, .dead, .dead, .dead, .dead, .dead, .dead, .dead, .dead, .dead, .dead]) (by simp [fgt]) (WK.now ⟨1, rfl, by omega, by omega, rfl, rfl, rfl⟩)) ?_
  rintro n t H ds ⟨i, rfl, h1, hi, rfl, rfl, rfl⟩
  simp only [cls_length, ty3, T3, ty22, T22, Int.ofNat_lt, Kat_go, Kreg_go, Qseq_normal, aregL_nil, aregL_plain, awpL_region, awpL_seq, awpL_cond, aop_move, aop_binOp, aop_len, apureCall, ev, putT, aopBin, isSl, abin, aint, rowLen, alen, kd, List.getD_cons_zero, List.getD_cons_succ, List.set_cons_zero, List.set_cons_succ, true_and]
  refine Kbr.mk (fun c => ?_) (fun c => ?_)
  · have c2 : i < l.length := by simpa using c
    simp only [c2, Qseq_normal, awpL_skip, awpL_draw, awpL_seq, awpL_block, decide_true]
    refine DRegL.one (by unfold DrawOK; kernel_rfl) ?_
    simp only [c2, seg_cls, cD, cls_length, ty22, T22, ty30, T30, ext44, Int.natCast_nonneg, Int.ofNat_lt, Kdr_go, adrawL_plain, qop_move, qop_load, qop_indexAddr, qop_call, qcallF_go, ev, putT, rowPtr, aidx, aload, rdRow, ldK, kd, esz, mkAgg, allD, isEff, qpre, qtail, List.getD_cons_zero, List.getD_cons_succ, List.set_cons_zero, List.set_cons_succ, List.length_cons, List.length_nil, List.map_cons, List.map_nil, List.append_nil, List.take_succ_cons, List.take_nil, List.drop_zero, Nat.reduceAdd, Nat.reduceLeDiff, true_and, Nat.zero_add, Int.toNat_natCast]
    refine (cmpC_ok (l.getD i (0, 0, false)) (mx l (i - 1))).quiet' (by first | exact ⟨.inl rfl, trivial⟩ | exact ⟨.inl rfl, .inl rfl, trivial⟩ | exact ⟨.inl rfl, .inl rfl, .inl rfl, trivial⟩ | simp [argsOk, argOk, sl, sll]) ?_
    have hm : mx l i = if cmpC (l.getD i (0, 0, false)) (mx l (i - 1)) > 0 then l.getD i (0, 0, false) else mx l (i - 1) := by
      obtain ⟨j, rfl⟩ : ∃ j, i = j + 1 := ⟨i - 1, by omega⟩
      rfl
    have ei : i + 1 - 1 = i := by omega
    simp only [Kdr_go, Qseq_normal, aregL_nil, adrawL_nil, adrawL_plain, awpL_cond, qop_binOp, ev, cst, putT, abin, aint, List.getD_cons_zero, List.getD_cons_succ, List.set_cons_zero, List.set_cons_succ, true_and]
    refine Kbr.mk (fun c => ?_) (fun c => ?_)
    · have c3 : cmpC (l.getD i (0, 0, false)) (mx l (i - 1)) > 0 := of_decide_eq_true c
      rw [if_pos c3] at hm
      simp only [c2, seg_cls, cD, succ64 c2 (show l.length ≤ 4611686018427387904 by omega), cls_length, ty3, T3, ty22, T22, ty30, T30, Qloop_normal, Int.natCast_nonneg, Int.ofNat_lt, Kat_go, Kst_go, Kreg_go, Qseq_normal, Qblk_normal, aregL_nil, aregL_plain, awpL_region, aop_move, aop_assign, aop_load, aop_binOp, aop_indexAddr, aop_store, ev, cst, putT, aopBin, isSl, abin, aint, rowPtr, aidx, aload, rdRow, ldK, kd, esz, splice, AV.cells, D.cells, astore, List.getD_cons_zero, List.getD_cons_succ, List.set_cons_zero, List.set_cons_succ, List.length_cons, List.length_nil, List.map_cons, List.map_nil, List.nil_append, List.append_nil, List.take_zero, List.drop_succ_cons, List.drop_nil, Nat.reduceAdd, Nat.reduceLeDiff, true_and, Nat.zero_add, Int.toNat_natCast]
      exact ⟨l.length - (i + 1), by omega, WK.fgt (t' := [.d (.slice 3 (cls l)), .d (.func 44 []), .dead, .dead, .pvar 0 0, .pvar 1 0, .d (.int .i64 (i + 1 : Nat)), .dead, .dead, .dead, .dead, .dead, .dead, .dead, .dead, .dead, .dead, .dead, .dead, .dead, .dead, .dead, .dead, .dead, .dead, .dead, .dead, .dead, .dead, .dead, .dead, .dead, .dead]) (by simp [fgt]) (WK.now ⟨i + 1, rfl, by omega, by omega, rfl, by rw [ei, hm], rfl⟩)⟩
    · have c3 : ¬ cmpC (l.getD i (0, 0, false)) (mx l (i - 1)) > 0 := of_decide_eq_false c
      rw [if_neg c3] at hm
      simp only [succ64 c2 (show l.length ≤ 4611686018427387904 by omega), ty3, T3, Qloop_normal, Kat_go, Kreg_go, Qseq_normal, Qblk_normal, aregL_nil, aregL_plain, awpL_skip, awpL_region, aop_move, aop_assign, aop_binOp, ev, cst, putT, aopBin, isSl, abin, aint, kd, List.getD_cons_zero, List.getD_cons_succ, List.set_cons_zero, List.set_cons_succ, true_and]
      exact ⟨l.length - (i + 1), by omega, WK.fgt (t' := [.d (.slice 3 (cls l)), .d (.func 44 []), .dead, .dead, .pvar 0 0, .pvar 1 0, .d (.int .i64 (i + 1 : Nat)), .dead, .dead, .dead, .dead, .dead, .dead, .dead, .dead, .dead, .dead, .dead, .dead, .dead, .dead, .dead, .dead, .dead, .dead, .dead, .dead, .dead, .dead, .dead, .dead, .dead, .dead]) (by simp [fgt]) (WK.now ⟨i + 1, rfl, by omega, by omega, rfl, by rw [ei, hm], rfl⟩)⟩
  · have c2 : ¬ i < l.length := by simpa using c
    have e : i - 1 = l.length - 1 := by omega
    simp only [e, ty30, T30, Qloop_exit, Kat_go, Kst_go, Kreg_go, Qseq_normal, Qseq_exit, Qblk_exit, aret_ret, aregL_nil, aregL_plain, awpL_region, awpL_seq, awpL_exit, awpL_ret, aop_load, aop_store, ev, putT, aload, ldK, esz, splice, AV.cells, D.cells, mkAgg, allD, astore, List.getD_cons_zero, List.getD_cons_succ, List.set_cons_zero, List.set_cons_succ, List.length_cons, List.length_nil, List.map_cons, List.map_nil, List.nil_append, List.append_nil, List.take_succ_cons, List.take_zero, List.take_nil, List.drop_succ_cons, List.drop_zero, List.drop_nil, Nat.reduceAdd, Nat.reduceLeDiff, true_and, if_true, Nat.zero_add]
    refine WK.now ?_
    simp only [fC, cD, ty30, T30, Tryd.results43, Kcons_go, Kres_go, Kone_go, Kfin_go, aresL_nil, aresL_cell, allDefr_nil, offs_nil, aload, ldK, mkAgg, allD, one?, List.getD_cons_zero, List.getD_cons_succ, List.length_cons, List.length_nil, List.take_succ_cons, List.take_nil, List.drop_zero, Nat.reduceAdd, Nat.reduceLeDiff, Nat.zero_add, and_self, List.toList_toArray]

def highest (L : List (Int × Cls)) : Option Cls := match allOf L (srt (L.map (·.1))) with
  | [] => none
  | c :: r => some (mx (c :: r) r.length)
theorem shigh_ok (sz : Int) (L : List (Int × Cls)) (h : L.length ≤ 1000000) :
    ACalls env 19 [.pvar 2 0] (Sc sz L) fun r H' => r = .d (.tup [fC ((highest L).getD (0, 0, false)), .bool (highest L).isSome]) ∧ H' = Sc sz L := by
  unfold Sc
  refine ACalls.cutTo [0, 1, 2] rfl ?_ (fun l => by simp [sbl, ren_var, ren_map, bel_var, bel_map, AV.renL, AV.ren, AV.belL, AV.bel, rn]) (fun m => by simp [tellL, AV.ren, AV.bel])
  refine acalls_of envOk Tryd.func19 rfl (by kernel_rfl) (m := 12) rfl ?_
  simp only [ty30, T30, ext16, Kreg_go, Qseq_normal, aregL_nil, aregL_plain, awpL_region, awpL_seq, aop_move, aop_assign, aop_new, aop_call, acallF_go, ev, cst, putT, zeroC, aalloc, List.getD_cons_zero, List.getD_cons_succ, List.set_cons_zero, List.set_cons_succ, List.length_cons, List.length_nil, List.map_cons, List.map_nil, List.cons_append, List.nil_append, List.append_nil, List.reduceReplicate, Nat.reduceAdd, Nat.zero_add]
  refine (sallD_ok sz L h).at [0, 1, 2] (by simp [Sc, sbl, ren_var, ren_map, bel_var, bel_map, AV.renL, AV.ren, AV.belL, AV.bel, rn]) (by simp) (by simp [Tb]) (by simp [AV.ren, rn]) (by simp [AV.belL, AV.bel]) (WK.now ?_)
  simp only [Sc, cls_length, ty3, T3, ty22, T22, Kat_go, Kreg_go, Qseq_normal, aregL_nil, aregL_plain, awpL_region, awpL_seq, awpL_cond, lift, putAll, rn, AV.ren, AV.renL, ren_var, ren_map, aop_move, aop_assign, aop_binOp, aop_len, apureCall, ev, cst, putT, aopBin, isSl, abin, aint, rowLen, alen, kd, List.getD_cons_zero, List.getD_cons_succ, List.set_cons_zero, List.set_cons_succ, List.length_cons, List.length_nil, List.map_cons, List.map_nil, List.append_nil, List.drop_succ_cons, List.drop_nil, Nat.reduceAdd, Nat.reduceSub, Nat.reduceLT, true_and, if_true, Nat.zero_add]
  unfold highest
  have hle : (allOf L (srt (L.map (·.1)))).length ≤ 1000000 := by simp [allOf, srt_length]; exact h
  generalize allOf L (srt (L.map (·.1))) = l at hle
  cases l with
  | nil =>
    simp only [cls, ty3, T3, ty4, T4, ty30, T30, Kat_go, Kst_go, Kreg_go, Qseq_normal, Qseq_ret, Kbr_true, aret_ret, aregL_nil, aregL_plain, awpL_region, awpL_seq, awpL_ret, aop_assign, aop_build, aop_store, ev, cst, putT, kd, esz, abuild, zeroC, afill, splice, AV.cells, D.cells, mkAgg, allD, known, astore, List.getD_cons_zero, List.getD_cons_succ, List.set_cons_zero, List.set_cons_succ, List.length_cons, List.length_nil, List.map_cons, List.map_nil, List.nil_append, List.append_nil, List.take_zero, List.drop_succ_cons, List.drop_nil, List.all_cons, List.all_nil, Nat.reduceAdd, Nat.reduceLeDiff, Option.isSome_some, Bool.and_true, beq_self_eq_true, true_and, Nat.zero_add, Option.getD_none, Option.isSome_none, Int.cast_ofNat_Int]
    refine WK.now ?_
    simp only [fC, cD, ty30, T30, Tryd.results19, Kcons_go, Kres_go, Kone_go, Kfin_go, aresL_nil, aresL_tmp, aresL_cell, allDefr_nil, offs_nil, aload, ldK, mkAgg, mkTup, allD, one?, List.getD_cons_zero, List.getD_cons_succ, List.length_cons, List.length_nil, List.take_succ_cons, List.take_nil, List.drop_zero, Nat.reduceAdd, Nat.reduceLeDiff, true_and, Nat.zero_add, List.toList_toArray]
    first | done | exact ⟨_, rfl⟩ | exact ⟨rfl, _, rfl⟩
  | cons c r =>
    have n1 : (((r.length + 1 : Nat) : Int) == 0) = false := beq_eq_false_iff_ne.2 (by omega)
    simp only [n1, ext43, Kreg_go, Qseq_normal, Kbr_false, aregL_plain, awpL_skip, awpL_region, awpL_seq, aop_move, aop_call, acallF_go, ev, putT, List.getD_cons_zero, List.getD_cons_succ, List.set_cons_zero, List.set_cons_succ, List.length_cons, List.map_cons, List.map_nil, List.append_nil, Option.isSome_some, Option.getD_some]
    refine (max_ok (c :: r) (by simp) (by simpa using hle)).go (by first | exact ⟨.inl rfl, trivial⟩ | exact ⟨.inl rfl, .inl rfl, trivial⟩ | exact ⟨.inl rfl, .inl rfl, .inl rfl, trivial⟩ | simp [argsOk, argOk, sl, sll]) (WK.now ?_)
    have e : (c :: r).length - 1 = r.length := by simp
    simp only [fC, cD, ty30, T30, Kst_go, Kreg_go, Qseq_normal, aret_ret, aregL_nil, aregL_plain, awpL_ret, aop_assign, aop_store, ev, cst, putT, esz, splice, AV.cells, D.cells, astore, List.getD_cons_zero, List.getD_cons_succ, List.set_cons_zero, List.set_cons_succ, List.length_cons, List.length_nil, List.map_cons, List.map_nil, List.nil_append, List.append_nil, List.take_zero, List.drop_succ_cons, List.drop_nil, Nat.reduceAdd, Nat.reduceLeDiff, true_and, Nat.zero_add]
    refine WK.now ?_
    simp only [ty30, T30, Tryd.results19, Kcons_go, Kres_go, Kone_go, Kfin_go, aresL_nil, aresL_tmp, aresL_cell, allDefr_nil, offs_nil, aload, ldK, mkAgg, mkTup, allD, one?, List.getD_cons_zero, List.getD_cons_succ, List.length_cons, List.length_nil, List.take_succ_cons, List.take_nil, List.drop_zero, Nat.reduceAdd, Nat.reduceLeDiff, true_and, Nat.zero_add, List.toList_toArray]
    first | done | exact ⟨_, rfl⟩ | exact ⟨rfl, _, rfl⟩
end Go.Proofs.YtjljjakfebfpfaaDoor
