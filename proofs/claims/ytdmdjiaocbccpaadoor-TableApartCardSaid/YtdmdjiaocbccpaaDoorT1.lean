/-
  The walks of a table's functions, its elements whole numbers: what each makes of the table, by value.
-/
import Derived.Test.YtdmdjiaocbccpaaDoorTAs
set_option autoImplicit false
set_option linter.unusedVariables false
set_option linter.unusedSimpArgs false
namespace Go.Proofs.YtdmdjiaocbccpaaDoor
open Go.Abs

/-- An error, or none. -/
def errD : Option Int → D
  | none => .nili
  | some c => .iface 61 (.int .i64 c)
def fI (n : Int) : D := .int .i64 n
/-- A table of size sz that holds L. -/
def Tb {α : Type} (f : α → D) (sz : Int) (L : List (Int × α)) : List AObj := [.map (entE f L), .var [.d (.int .i64 sz), .mapo 0]]

theorem fcode_ok (e : Option Int) : PCall env 30 [errD e] (.tup [.int .i64 (e.getD 0), .bool e.isSome]) := by
  cases e with
  | none =>
    refine acalls_of envOk Tryd.func30 rfl (by kernel_rfl) (m := 10) rfl ?_
    simp only [ty61, T61, ty76, T76, ext37, Kreg_go, Qseq_normal, aregL_nil, aregL_plain, awpL_region, awpL_seq, aop_move, aop_assign, aop_makeInterface, aop_new, aop_call, acallF_go, ev, cst, putT, kd, zeroC, mkIface, aalloc, List.getD_cons_zero, List.getD_cons_succ, List.set_cons_zero, List.set_cons_succ, List.length_nil, List.map_cons, List.map_nil, List.cons_append, List.nil_append, List.append_nil, List.reduceReplicate, Option.getD_none, Option.isSome_none]
    refine (as_nil _ _).thus (WK.now ?_)
    simp only [ty61, T61, Kat_go, Kreg_go, Qseq_normal, aret_ret, aregL_nil, aregL_plain, awpL_region, awpL_seq, awpL_ret, aop_move, aop_assign, aop_load, ev, putT, aload, ldK, List.getD_cons_zero, List.getD_cons_succ, List.set_cons_zero, List.set_cons_succ, List.getElem?_cons_zero]
    refine WK.now ?_
    simp only [Tryd.results30, Kcons_go, Kone_go, Kfin_go, aresL_nil, aresL_tmp, allDefr_nil, offs_nil, mkTup, allD, one?, List.getD_cons_zero, List.getD_cons_succ, and_self, List.toList_toArray]
  | some c =>
    refine acalls_of envOk Tryd.func30 rfl (by kernel_rfl) (m := 10) rfl ?_
    simp only [ty61, T61, ty76, T76, ext37, Kreg_go, Qseq_normal, aregL_nil, aregL_plain, awpL_region, awpL_seq, aop_move, aop_assign, aop_makeInterface, aop_new, aop_call, acallF_go, ev, cst, putT, kd, zeroC, mkIface, aalloc, List.getD_cons_zero, List.getD_cons_succ, List.set_cons_zero, List.set_cons_succ, List.length_nil, List.map_cons, List.map_nil, List.cons_append, List.nil_append, List.append_nil, List.reduceReplicate, Option.isSome_some, Option.getD_some]
    refine (as_hit c _).thus (WK.now ?_)
    simp only [ty61, T61, Kat_go, Kreg_go, Qseq_normal, aret_ret, aregL_nil, aregL_plain, awpL_region, awpL_seq, awpL_ret, aop_move, aop_assign, aop_load, ev, putT, aload, ldK, List.getD_cons_zero, List.getD_cons_succ, List.set_cons_zero, List.set_cons_succ, List.getElem?_cons_zero]
    refine WK.now ?_
    simp only [Tryd.results30, Kcons_go, Kone_go, Kfin_go, aresL_nil, aresL_tmp, allDefr_nil, offs_nil, mkTup, allD, one?, List.getD_cons_zero, List.getD_cons_succ, and_self, List.toList_toArray]
theorem code_ok (e : Option Int) : PCall env 12 [errD e] (.int .i64 (e.getD 0)) := by
  refine acalls_of envOk Tryd.func12 rfl (by kernel_rfl) (m := 10) rfl ?_
  simp only [ext30, Kreg_go, Qseq_normal, aregL_nil, aregL_plain, awpL_region, awpL_seq, aop_move, aop_assign, aop_call, acallF_go, ev, cst, putT, List.getD_cons_zero, List.getD_cons_succ, List.set_cons_zero, List.set_cons_succ, List.length_nil, List.map_cons, List.map_nil, List.cons_append, List.nil_append, List.append_nil, List.reduceReplicate]
  refine (fcode_ok e).go (by first | exact ⟨.inl rfl, trivial⟩ | exact ⟨.inl rfl, .inl rfl, trivial⟩ | exact ⟨.inl rfl, .inl rfl, .inl rfl, trivial⟩ | simp [argsOk, argOk, sl, sll]) (WK.now ?_)
  simp only [Kat_go, Kreg_go, Qseq_normal, aret_ret, aregL_nil, aregL_plain, awpL_region, awpL_seq, awpL_ret, aop_move, aop_assign, aop_extract, ev, putT, aext, List.getD_cons_zero, List.getD_cons_succ, List.set_cons_zero, List.set_cons_succ, List.getElem?_cons_zero, List.getElem?_cons_succ]
  refine WK.now ?_
  simp only [Tryd.results12, Kcons_go, Kone_go, Kfin_go, aresL_nil, aresL_tmp, allDefr_nil, offs_nil, one?, List.getD_cons_zero, List.getD_cons_succ, and_self, List.toList_toArray]

theorem newI_ok (n : Int) : ACalls env 14 [.d (.int .i64 n)] [] fun r H' => r = .pvar 1 0 ∧ H' = Tb fI (max n 0) [] := by
  refine acalls_of envOk Tryd.func14 rfl (by kernel_rfl) (m := 7) rfl ?_
  simp only [ty3, T3, ty65, T65, ty67, T67, Kat_go, Kreg_go, Qseq_normal, aret_ret, aregL_nil, aregL_plain, awpL_region, awpL_seq, awpL_ret, aop_makeMap, amkmap, aop_move, aop_assign, aop_build, aop_box, aop_max, apureCall, ev, cst, putT, kd, esz, abuild, zeroC, aplace, afill, splice, AV.cells, D.cells, mkAgg, allD, known, abox, List.getD_cons_zero, List.getD_cons_succ, List.set_cons_zero, List.set_cons_succ, List.getElem?_cons_zero, List.getElem?_cons_succ, List.length_cons, List.length_nil, List.map_cons, List.map_nil, List.cons_append, List.nil_append, List.append_nil, List.take_succ_cons, List.take_zero, List.drop_succ_cons, List.drop_zero, List.drop_nil, List.all_cons, List.all_nil, List.reduceReplicate, Nat.reduceAdd, Nat.reduceLeDiff, Option.isSome_some, Option.map_none, Bool.and_true, true_and, if_true, Nat.zero_add, and_self]
  refine WK.now ?_
  simp only [Tryd.results14, Kcons_go, Kone_go, Kfin_go, aresL_nil, aresL_tmp, allDefr_nil, offs_nil, one?, List.getD_cons_zero, List.getD_cons_succ, true_and, List.toList_toArray]
  rfl

theorem getD_fI (o : Option Int) : (o.map fI).getD (.int .i64 0) = .int .i64 (o.getD 0) := by cases o <;> rfl
def gotI (L : List (Int × Int)) (k : Int) : D := .tup [.int .i64 ((lget L k).getD 0), .bool (lget L k).isSome]
theorem getI_ok (sz : Int) (L : List (Int × Int)) (k : Int) : ACalls env 25 [.pvar 1 0, .d (.int .i64 k)] (Tb fI sz L) fun r H' => r = .d (gotI L k) ∧ H' = Tb fI sz L := by
  unfold Tb
  refine acalls_of envOk Tryd.func25 rfl (by kernel_rfl) (m := 21) rfl ?_
  simp only [getD_fI, Option.isSome_map, key3, entE_get, entE_all, isIntK_int, ty3, T3, ty35, T35, ty65, T65, ty67, T67, Kat_go, Kreg_go, Qseq_normal, Kbr_false, aret_ret, aregL_nil, aregL_plain, awpL_skip, awpL_region, awpL_seq, awpL_cond, awpL_ret, aop_lookup, alook, zeroV, TI.zv, lookRes, aop_move, aop_assign, aop_load, aop_nilCheck, aop_binOp, aop_fieldAddr, aop_extract, ev, cst, putT, abin, bEq, acmp, ptrish, anil, fld, afldAddr, aext, aload, ldK, kd, esz, List.getD_cons_zero, List.getD_cons_succ, List.set_cons_zero, List.set_cons_succ, List.getElem?_cons_zero, List.getElem?_cons_succ, List.length_cons, List.length_nil, List.cons_append, List.nil_append, List.reduceReplicate, Nat.reduceAdd, true_and, reduceCtorEq, ne_eq, not_false_eq_true, Nat.zero_add]
  refine WK.now ?_
  simp only [gotI, Tryd.results25, Kcons_go, Kone_go, Kfin_go, aresL_nil, aresL_tmp, allDefr_nil, offs_nil, mkTup, allD, one?, List.getD_cons_zero, List.getD_cons_succ, and_self, List.toList_toArray]
theorem getI_nil (k : Int) : PCall env 25 [.nilp, .int .i64 k] (.tup [.int .i64 0, .bool false]) := by
  refine acalls_of envOk Tryd.func25 rfl (by kernel_rfl) (m := 21) rfl ?_
  simp only [ty35, T35, Kat_go, Kreg_go, Qseq_normal, Qseq_ret, Kbr_true, aret_ret, aregL_nil, aregL_plain, awpL_region, awpL_seq, awpL_cond, awpL_ret, aop_move, aop_assign, aop_binOp, ev, cst, putT, abin, bEq, acmp, ptrish, kd, List.getD_cons_zero, List.getD_cons_succ, List.set_cons_zero, List.set_cons_succ, List.length_nil, List.map_cons, List.map_nil, List.cons_append, List.nil_append, List.reduceReplicate]
  refine WK.now ?_
  simp only [Tryd.results25, Kcons_go, Kone_go, Kfin_go, aresL_nil, aresL_tmp, allDefr_nil, offs_nil, mkTup, allD, one?, List.getD_cons_zero, List.getD_cons_succ, and_self, List.toList_toArray]
theorem hasI_ok (sz : Int) (L : List (Int × Int)) (k : Int) : ACalls env 35 [.pvar 1 0, .d (.int .i64 k)] (Tb fI sz L) fun r H' => r = .d (.bool (lget L k).isSome) ∧ H' = Tb fI sz L := by
  refine acalls_of envOk Tryd.func35 rfl (by kernel_rfl) (m := 12) rfl ?_
  simp only [ext25, Kreg_go, Qseq_normal, aregL_nil, aregL_plain, awpL_region, awpL_seq, aop_move, aop_assign, aop_call, acallF_go, ev, cst, putT, List.getD_cons_zero, List.getD_cons_succ, List.set_cons_zero, List.set_cons_succ, List.map_cons, List.map_nil, List.cons_append, List.nil_append, List.append_nil, List.reduceReplicate]
  refine (getI_ok sz L k).thus (WK.now ?_)
  simp only [gotI, Kat_go, Kreg_go, Qseq_normal, aret_ret, aregL_nil, aregL_plain, awpL_region, awpL_seq, awpL_ret, aop_move, aop_assign, aop_extract, ev, putT, aext, List.getD_cons_zero, List.getD_cons_succ, List.set_cons_zero, List.set_cons_succ, List.getElem?_cons_zero, List.getElem?_cons_succ]
  refine WK.now ?_
  simp only [Tryd.results35, Kcons_go, Kone_go, Kfin_go, aresL_nil, aresL_tmp, allDefr_nil, offs_nil, one?, List.getD_cons_zero, List.getD_cons_succ, and_self, List.toList_toArray]
theorem roomI_ok (sz : Int) (L : List (Int × Int)) (h : 0 ≤ sz ∧ sz ≤ 9223372036854775807 ∧ L.length ≤ 4611686018427387904) : ACalls env 20 [.pvar 1 0] (Tb fI sz L) fun r H' => r = .d (.int .i64 (sz - L.length)) ∧ H' = Tb fI sz L := by
  unfold Tb
  refine acalls_of envOk Tryd.func20 rfl (by kernel_rfl) (m := 14) rfl ?_
  simp only [ty35, T35, Kat_go, Kreg_go, Qseq_normal, Kbr_false, aregL_nil, aregL_plain, awpL_skip, awpL_region, awpL_draw, awpL_seq, awpL_cond, aop_move, aop_assign, aop_binOp, ev, cst, putT, abin, bEq, acmp, ptrish, kd, List.getD_cons_zero, List.getD_cons_succ, List.set_cons_zero, List.set_cons_succ, List.length_cons, List.length_nil, List.cons_append, List.nil_append, List.reduceReplicate, Nat.reduceAdd, Nat.zero_add]
  refine DRegL.one (by unfold DrawOK; kernel_rfl) ?_
  simp only [wrapi (show -9223372036854775808 ≤ sz - (L.length : Int) by omega) (show sz - (L.length : Int) ≤ 9223372036854775807 by omega), entE_length, ty3, T3, ty65, T65, ty67, T67, Kdr_go, Qseq_normal, aret_ret, aregL_nil, adrawL_nil, adrawL_plain, awpL_ret, qop_move, qop_assign, qop_load, qop_nilCheck, qop_binOp, qop_fieldAddr, qop_len, apureCall, ev, putT, abin, aint, anil, alen, fld, afldAddr, aload, ldK, kd, esz, isEff, qpre, qtail, List.getD_cons_zero, List.getD_cons_succ, List.set_cons_zero, List.set_cons_succ, List.getElem?_cons_zero, List.getElem?_cons_succ, true_and, reduceCtorEq, ne_eq, not_false_eq_true, Nat.zero_add, Nat.add_zero]
  refine WK.now ?_
  simp only [Tryd.results20, Kcons_go, Kone_go, Kfin_go, aresL_nil, aresL_tmp, allDefr_nil, offs_nil, one?, List.getD_cons_zero, List.getD_cons_succ, and_self, List.toList_toArray]
theorem roomI_nil : PCall env 20 [.nilp] (.int .i64 0) := by
  refine acalls_of envOk Tryd.func20 rfl (by kernel_rfl) (m := 14) rfl ?_
  simp only [ty35, T35, Kat_go, Kreg_go, Qseq_normal, Qseq_ret, Kbr_true, aret_ret, aregL_nil, aregL_plain, awpL_region, awpL_seq, awpL_cond, awpL_ret, aop_move, aop_assign, aop_binOp, ev, cst, putT, abin, bEq, acmp, ptrish, kd, List.getD_cons_zero, List.getD_cons_succ, List.set_cons_zero, List.set_cons_succ, List.length_nil, List.map_cons, List.map_nil, List.cons_append, List.nil_append, List.reduceReplicate]
  refine WK.now ?_
  simp only [Tryd.results20, Kcons_go, Kone_go, Kfin_go, aresL_nil, aresL_tmp, allDefr_nil, offs_nil, one?, List.getD_cons_zero, List.getD_cons_succ, and_self, List.toList_toArray]
theorem lenI_ok (sz : Int) (L : List (Int × Int)) : ACalls env 19 [.pvar 1 0] (Tb fI sz L) fun r H' => r = .d (.int .i64 L.length) ∧ H' = Tb fI sz L := by
  unfold Tb
  refine acalls_of envOk Tryd.func19 rfl (by kernel_rfl) (m := 9) rfl ?_
  simp only [entE_length, ty35, T35, ty65, T65, ty67, T67, Kat_go, Kreg_go, Qseq_normal, Kbr_false, aret_ret, aregL_nil, aregL_plain, awpL_skip, awpL_region, awpL_seq, awpL_cond, awpL_ret, aop_move, aop_assign, aop_load, aop_nilCheck, aop_binOp, aop_fieldAddr, aop_len, apureCall, ev, cst, putT, abin, bEq, acmp, ptrish, anil, alen, fld, afldAddr, aload, ldK, kd, esz, List.getD_cons_zero, List.getD_cons_succ, List.set_cons_zero, List.set_cons_succ, List.getElem?_cons_zero, List.getElem?_cons_succ, List.length_cons, List.length_nil, List.cons_append, List.nil_append, List.reduceReplicate, Nat.reduceAdd, true_and, reduceCtorEq, ne_eq, not_false_eq_true, Nat.zero_add]
  refine WK.now ?_
  simp only [Tryd.results19, Kcons_go, Kone_go, Kfin_go, aresL_nil, aresL_tmp, allDefr_nil, offs_nil, one?, List.getD_cons_zero, List.getD_cons_succ, and_self, List.toList_toArray]
theorem lenI_nil : PCall env 19 [.nilp] (.int .i64 0) := by
  refine acalls_of envOk Tryd.func19 rfl (by kernel_rfl) (m := 9) rfl ?_
  simp only [ty35, T35, Kat_go, Kreg_go, Qseq_normal, Qseq_ret, Kbr_true, aret_ret, aregL_nil, aregL_plain, awpL_region, awpL_seq, awpL_cond, awpL_ret, aop_move, aop_assign, aop_binOp, ev, cst, putT, abin, bEq, acmp, ptrish, kd, List.getD_cons_zero, List.getD_cons_succ, List.set_cons_zero, List.set_cons_succ, List.length_nil, List.map_cons, List.map_nil, List.cons_append, List.nil_append, List.reduceReplicate]
  refine WK.now ?_
  simp only [Tryd.results19, Kcons_go, Kone_go, Kfin_go, aresL_nil, aresL_tmp, allDefr_nil, offs_nil, one?, List.getD_cons_zero, List.getD_cons_succ, and_self, List.toList_toArray]
end Go.Proofs.YtdmdjiaocbccpaaDoor
