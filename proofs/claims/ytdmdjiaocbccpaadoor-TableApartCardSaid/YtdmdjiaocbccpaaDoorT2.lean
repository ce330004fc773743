/-
  The walks of the functions that change a table, by value.
-/
import Derived.Test.YtdmdjiaocbccpaaDoorT1
set_option autoImplicit false
set_option linter.unusedVariables false
set_option linter.unusedSimpArgs false
namespace Go.Proofs.YtdmdjiaocbccpaaDoor
open Go.Abs

def addE {α : Type} (sz : Int) (L : List (Int × α)) (k : Int) : Option Int := if (lget L k).isSome = true then some 6 else if sz = L.length then some 7 else none
def addL {α : Type} (sz : Int) (L : List (Int × α)) (k : Int) (v : α) : List (Int × α) := if (lget L k).isSome = true then L else if sz = L.length then L else lput L k v
def setE {α : Type} (L : List (Int × α)) (k : Int) : Option Int := if (lget L k).isSome = true then none else some 5
def setL {α : Type} (L : List (Int × α)) (k : Int) (v : α) : List (Int × α) := if (lget L k).isSome = true then lput L k v else L
theorem ldel_none {α : Type} {L : List (Int × α)} {k : Int} (h : (lget L k).isSome = false) : ldel L k = L := by
  unfold ldel
  have h1 : lget L k = none := by cases hg : lget L k <;> simp_all
  have : L.findIdx? (fun p => k == p.1) = none := by
    rw [List.findIdx?_eq_none_iff]
    intro p hp
    cases hk : (k == p.1) with
    | false => rfl
    | true => exact absurd (List.mem_map.2 ⟨p, hp, (beq_iff_eq.1 hk).symm⟩) (lget_none.1 h1)
  rw [this]
theorem entE_putI (L : List (Int × Int)) (k v : Int) : dput (entE fI L) (.int .i64 k) (.int .i64 v) = entE fI (lput L k v) := entE_put fI L k v

theorem addI_ok (sz : Int) (L : List (Int × Int)) (k v : Int) (h : 0 ≤ sz ∧ sz ≤ 9223372036854775807 ∧ L.length ≤ 4611686018427387904) :
    ACalls env 21 [.pvar 1 0, .d (.int .i64 k), .d (.int .i64 v)] (Tb fI sz L) fun r H' => r = .d (errD (addE sz L k)) ∧ H' = Tb fI sz (addL sz L k v) := by
  refine acalls_of envOk Tryd.func21 rfl (by kernel_rfl) (m := 24) rfl ?_
  simp only [ty35, T35, ext35, Kat_go, Kreg_go, Qseq_normal, Kbr_false, aregL_nil, aregL_plain, awpL_region, awpL_seq, awpL_cond, awpL_block, aop_move, aop_assign, aop_binOp, aop_call, acallF_go, ev, cst, putT, abin, bEq, acmp, ptrish, kd, List.getD_cons_zero, List.getD_cons_succ, List.set_cons_zero, List.set_cons_succ, List.map_cons, List.map_nil, List.cons_append, List.nil_append, List.append_nil, List.reduceReplicate]
  refine (hasI_ok sz L k).thus (WK.now ?_)
  simp only [Kreg_go, Qseq_normal, aregL_nil, aregL_plain, awpL_cond, aop_assign, ev, putT, List.getD_cons_zero, List.getD_cons_succ, List.set_cons_zero, List.set_cons_succ]
  refine Kbr.mk (fun c => ?_) (fun c => ?_)
  · simp only [ty61, T61, Kreg_go, Qseq_normal, Qseq_ret, Qblk_ret, aret_ret, aregL_nil, aregL_plain, awpL_region, awpL_seq, awpL_ret, aop_assign, aop_makeInterface, ev, cst, putT, kd, mkIface, List.getD_cons_zero, List.getD_cons_succ, List.set_cons_zero, List.set_cons_succ]
    refine WK.now ?_
    simp only [addE, addL, c, errD, Tryd.results21, Kcons_go, Kone_go, Kfin_go, aresL_nil, aresL_tmp, allDefr_nil, offs_nil, one?, List.getD_cons_zero, List.getD_cons_succ, if_true, and_self, List.toList_toArray]
  · simp only [ext20, Kreg_go, aregL_plain, awpL_region, awpL_seq, aop_move, aop_call, acallF_go, ev, putT, List.getD_cons_zero, List.getD_cons_succ, List.set_cons_zero, List.set_cons_succ, List.map_cons, List.map_nil, List.append_nil]
    refine (roomI_ok sz L h).thus (WK.now ?_)
    simp only [Kat_go, Kreg_go, Qseq_normal, aregL_nil, aregL_plain, awpL_cond, aop_assign, aop_binOp, ev, cst, putT, abin, aint, List.getD_cons_zero, List.getD_cons_succ, List.set_cons_zero, List.set_cons_succ, true_and]
    refine Kbr.mk (fun c2 => ?_) (fun c2 => ?_)
    · have e : sz = L.length := by have := of_decide_eq_true c2; omega
      simp only [ty61, T61, Kreg_go, Qseq_normal, Qseq_ret, Qblk_ret, aret_ret, aregL_nil, aregL_plain, awpL_region, awpL_seq, awpL_ret, aop_assign, aop_makeInterface, ev, cst, putT, kd, mkIface, List.getD_cons_zero, List.getD_cons_succ, List.set_cons_zero, List.set_cons_succ]
      refine WK.now ?_
      simp [addE, addL, c, errD, e, Tb, Kfin, allDefr, offs, aresL, Kone, one?]
    · have e : ¬ sz = L.length := by have := of_decide_eq_false c2; omega
      simp only [Tb, entE_putI, key3, entE_all, isIntK_int, ty65, T65, ty67, T67, Kat_go, Kst_go, Kreg_go, Qseq_normal, Qblk_normal, aret_ret, aregL_nil, aregL_plain, awpL_skip, awpL_region, awpL_seq, awpL_ret, aop_mapUpdate, amapup, aop_move, aop_assign, aop_load, aop_nilCheck, aop_fieldAddr, ev, cst, putT, anil, fld, afldAddr, aload, ldK, kd, esz, AV.low, List.getD_cons_zero, List.getD_cons_succ, List.set_cons_zero, List.set_cons_succ, List.getElem?_cons_zero, List.getElem?_cons_succ, List.length_cons, List.length_nil, Nat.reduceAdd, true_and, reduceCtorEq, ne_eq, not_false_eq_true, Nat.zero_add]
      refine WK.now ?_
      simp [addE, addL, c, errD, e, Kfin, allDefr, offs, aresL, Kone, one?]
theorem addI_nil (k v : Int) : PCall env 21 [.nilp, .int .i64 k, .int .i64 v] (errD (some 5)) := by
  refine acalls_of envOk Tryd.func21 rfl (by kernel_rfl) (m := 24) rfl ?_
  simp only [ty35, T35, ty61, T61, Kat_go, Kreg_go, Qseq_normal, Qseq_ret, Qblk_ret, Kbr_true, aret_ret, aregL_nil, aregL_plain, awpL_region, awpL_seq, awpL_cond, awpL_block, awpL_ret, aop_move, aop_assign, aop_binOp, aop_makeInterface, ev, cst, putT, abin, bEq, acmp, ptrish, kd, mkIface, List.getD_cons_zero, List.getD_cons_succ, List.set_cons_zero, List.set_cons_succ, List.length_nil, List.map_cons, List.map_nil, List.cons_append, List.nil_append, List.reduceReplicate]
  refine WK.now ?_
  simp only [errD, Tryd.results21, Kcons_go, Kone_go, Kfin_go, aresL_nil, aresL_tmp, allDefr_nil, offs_nil, one?, List.getD_cons_zero, List.getD_cons_succ, and_self, List.toList_toArray]
theorem setI_ok (sz : Int) (L : List (Int × Int)) (k v : Int) :
    ACalls env 27 [.pvar 1 0, .d (.int .i64 k), .d (.int .i64 v)] (Tb fI sz L) fun r H' => r = .d (errD (setE L k)) ∧ H' = Tb fI sz (setL L k v) := by
  refine acalls_of envOk Tryd.func27 rfl (by kernel_rfl) (m := 15) rfl ?_
  simp only [ext35, Kreg_go, Qseq_normal, aregL_nil, aregL_plain, awpL_region, awpL_seq, aop_move, aop_assign, aop_call, acallF_go, ev, cst, putT, List.getD_cons_zero, List.getD_cons_succ, List.set_cons_zero, List.set_cons_succ, List.map_cons, List.map_nil, List.cons_append, List.nil_append, List.append_nil, List.reduceReplicate]
  refine (hasI_ok sz L k).thus (WK.now ?_)
  simp only [Kat_go, Kreg_go, Qseq_normal, aregL_nil, aregL_plain, awpL_cond, aop_unOp, ev, putT, aun, List.getD_cons_zero, List.getD_cons_succ, List.set_cons_zero, List.set_cons_succ]
  refine Kbr.mk (fun c => ?_) (fun c => ?_)
  · have c : (lget L k).isSome = false := by simpa using c
    simp only [ty61, T61, Kreg_go, Qseq_normal, Qseq_ret, aret_ret, aregL_nil, aregL_plain, awpL_region, awpL_seq, awpL_ret, aop_assign, aop_makeInterface, ev, cst, putT, kd, mkIface, List.getD_cons_zero, List.getD_cons_succ, List.set_cons_zero, List.set_cons_succ]
    refine WK.now ?_
    simp [setE, setL, c, errD, Tb, Kfin, allDefr, offs, aresL, Kone, one?]
  · have c : (lget L k).isSome = true := by simpa using c
    simp only [Tb, entE_putI, key3, entE_all, isIntK_int, ty65, T65, ty67, T67, Kat_go, Kst_go, Kreg_go, Qseq_normal, aret_ret, aregL_nil, aregL_plain, awpL_skip, awpL_region, awpL_seq, awpL_ret, aop_mapUpdate, amapup, aop_move, aop_assign, aop_load, aop_nilCheck, aop_fieldAddr, ev, cst, putT, anil, fld, afldAddr, aload, ldK, kd, esz, AV.low, List.getD_cons_zero, List.getD_cons_succ, List.set_cons_zero, List.set_cons_succ, List.getElem?_cons_zero, List.getElem?_cons_succ, List.length_cons, List.length_nil, Nat.reduceAdd, true_and, reduceCtorEq, ne_eq, not_false_eq_true, Nat.zero_add]
    refine WK.now ?_
    simp [setE, setL, c, errD, Kfin, allDefr, offs, aresL, Kone, one?]
theorem removeI_ok (sz : Int) (L : List (Int × Int)) (k : Int) :
    ACalls env 23 [.pvar 1 0, .d (.int .i64 k)] (Tb fI sz L) fun r H' => r = .d (gotI L k) ∧ H' = Tb fI sz (ldel L k) := by
  refine acalls_of envOk Tryd.func23 rfl (by kernel_rfl) (m := 20) rfl ?_
  simp only [ext25, Kreg_go, Qseq_normal, aregL_nil, aregL_plain, awpL_region, awpL_seq, aop_move, aop_assign, aop_call, acallF_go, ev, cst, putT, List.getD_cons_zero, List.getD_cons_succ, List.set_cons_zero, List.set_cons_succ, List.map_cons, List.map_nil, List.cons_append, List.nil_append, List.append_nil, List.reduceReplicate]
  refine (getI_ok sz L k).thus (WK.now ?_)
  simp only [gotI, Kat_go, Kreg_go, Qseq_normal, aregL_nil, aregL_plain, awpL_region, awpL_seq, awpL_cond, aop_move, aop_assign, aop_extract, ev, putT, aext, List.getD_cons_zero, List.getD_cons_succ, List.set_cons_zero, List.set_cons_succ, List.getElem?_cons_zero, List.getElem?_cons_succ]
  refine Kbr.mk (fun c => ?_) (fun c => ?_)
  · simp only [Tb, key3, entE_all, entE_del, isIntK_int, ty65, T65, ty67, T67, Kat_go, Kreg_go, Qseq_normal, aret_ret, aregL_nil, aregL_plain, awpL_region, awpL_seq, awpL_ret, Kdl_go, aop_delete, adel, aop_move, aop_assign, aop_load, aop_nilCheck, aop_fieldAddr, ev, putT, anil, fld, afldAddr, aload, ldK, kd, esz, List.getD_cons_zero, List.getD_cons_succ, List.set_cons_zero, List.set_cons_succ, List.getElem?_cons_zero, List.getElem?_cons_succ, List.length_cons, List.length_nil, Nat.reduceAdd, true_and, reduceCtorEq, ne_eq, not_false_eq_true, Nat.zero_add]
    refine WK.now ?_
    simp only [Tryd.results23, Kcons_go, Kone_go, Kfin_go, aresL_nil, aresL_tmp, allDefr_nil, offs_nil, mkTup, allD, one?, List.getD_cons_zero, List.getD_cons_succ, and_self, List.toList_toArray]
  · simp only [Kreg_go, Qseq_normal, aret_ret, aregL_nil, aregL_plain, awpL_skip, awpL_region, awpL_seq, awpL_ret, aop_move, aop_assign, ev, putT, List.getD_cons_zero, List.getD_cons_succ, List.set_cons_zero, List.set_cons_succ]
    refine WK.now ?_
    simp only [ldel_none c, Tryd.results23, Kcons_go, Kone_go, Kfin_go, aresL_nil, aresL_tmp, allDefr_nil, offs_nil, mkTup, allD, one?, List.getD_cons_zero, List.getD_cons_succ, and_self, List.toList_toArray]
end Go.Proofs.YtdmdjiaocbccpaaDoor
