/-
  A table of strings keeps its elements as they are: the walks of the string table's functions and of the law.
-/
import Derived.Test.YtdmdjiaocbccpaaDoorT9
set_option autoImplicit false
set_option linter.unusedVariables false
set_option linter.unusedSimpArgs false
namespace Go.Proofs.YtdmdjiaocbccpaaDoor
open Go.Abs

def strs (l : List ByteArray) : List (List D) := l.map fun s => [.str s]
theorem strs_length (l : List ByteArray) : (strs l).length = l.length := by simp [strs]
theorem cel_strs {l : List ByteArray} {i : Nat} (h : i < l.length) : cel (strs l) i 0 = .str (l.getD i ⟨#[]⟩) := by
  unfold cel strs
  simp [List.getD_eq_getElem?_getD, h]
def fS (s : ByteArray) : D := .str s
theorem getD_fS (o : Option ByteArray) : (o.map fS).getD (.str ⟨#[]⟩) = .str (o.getD ⟨#[]⟩) := by cases o <;> rfl
theorem newS_ok (n : Int) : ACalls env 8 [.d (.int .i64 n)] [] fun r H' => r = .pvar 1 0 ∧ H' = Tb fS (max n 0) [] := by
  refine acalls_of envOk Tryd.func8 rfl (by kernel_rfl) (m := 7) rfl ?_
  simp only [ty3, T3, ty58, T58, ty60, T60, Kat_go, Kreg_go, Qseq_normal, aret_ret, aregL_nil, aregL_plain, awpL_region, awpL_seq, awpL_ret, aop_makeMap, amkmap, aop_move, aop_assign, aop_build, aop_box, aop_max, apureCall, ev, cst, putT, kd, esz, abuild, zeroC, aplace, afill, splice, AV.cells, D.cells, mkAgg, allD, known, abox, List.getD_cons_zero, List.getD_cons_succ, List.set_cons_zero, List.set_cons_succ, List.getElem?_cons_zero, List.getElem?_cons_succ, List.length_cons, List.length_nil, List.map_cons, List.map_nil, List.cons_append, List.nil_append, List.append_nil, List.take_succ_cons, List.take_zero, List.drop_succ_cons, List.drop_zero, List.drop_nil, List.all_cons, List.all_nil, List.reduceReplicate, Nat.reduceAdd, Nat.reduceLeDiff, Option.isSome_some, Option.map_none, Bool.and_true, true_and, if_true, Nat.zero_add, and_self]
  refine WK.now ?_
  simp only [Tryd.results8, Kcons_go, Kone_go, Kfin_go, aresL_nil, aresL_tmp, allDefr_nil, offs_nil, one?, List.getD_cons_zero, List.getD_cons_succ, true_and, List.toList_toArray]
  rfl
def gotS (L : List (Int × ByteArray)) (k : Int) : D := .tup [.str ((lget L k).getD ⟨#[]⟩), .bool (lget L k).isSome]
theorem getS_ok (sz : Int) (L : List (Int × ByteArray)) (k : Int) : ACalls env 11 [.pvar 1 0, .d (.int .i64 k)] (Tb fS sz L) fun r H' => r = .d (gotS L k) ∧ H' = Tb fS sz L := by
  unfold Tb
  refine acalls_of envOk Tryd.func11 rfl (by kernel_rfl) (m := 21) rfl ?_
  simp only [getD_fS, Option.isSome_map, key3, entE_get, entE_all, isIntK_int, ty9, T9, ty58, T58, ty60, T60, ty23, T23, Kat_go, Kreg_go, Qseq_normal, Kbr_false, aret_ret, aregL_nil, aregL_plain, awpL_skip, awpL_region, awpL_seq, awpL_cond, awpL_ret, aop_lookup, alook, zeroV, TI.zv, lookRes, aop_move, aop_assign, aop_load, aop_nilCheck, aop_binOp, aop_fieldAddr, aop_extract, ev, cst, putT, abin, bEq, acmp, ptrish, anil, fld, afldAddr, aext, aload, ldK, kd, esz, List.getD_cons_zero, List.getD_cons_succ, List.set_cons_zero, List.set_cons_succ, List.getElem?_cons_zero, List.getElem?_cons_succ, List.length_cons, List.length_nil, List.cons_append, List.nil_append, List.reduceReplicate, Nat.reduceAdd, true_and, reduceCtorEq, ne_eq, not_false_eq_true, Nat.zero_add]
  refine WK.now ?_
  simp only [gotS, Tryd.results11, Kcons_go, Kone_go, Kfin_go, aresL_nil, aresL_tmp, allDefr_nil, offs_nil, mkTup, allD, one?, List.getD_cons_zero, List.getD_cons_succ, and_self, List.toList_toArray]
theorem hasS_ok (sz : Int) (L : List (Int × ByteArray)) (k : Int) : ACalls env 28 [.pvar 1 0, .d (.int .i64 k)] (Tb fS sz L) fun r H' => r = .d (.bool (lget L k).isSome) ∧ H' = Tb fS sz L := by
  refine acalls_of envOk Tryd.func28 rfl (by kernel_rfl) (m := 12) rfl ?_
  simp only [ext11, Kreg_go, Qseq_normal, aregL_nil, aregL_plain, awpL_region, awpL_seq, aop_move, aop_assign, aop_call, acallF_go, ev, cst, putT, List.getD_cons_zero, List.getD_cons_succ, List.set_cons_zero, List.set_cons_succ, List.map_cons, List.map_nil, List.cons_append, List.nil_append, List.append_nil, List.reduceReplicate]
  refine (getS_ok sz L k).thus (WK.now ?_)
  simp only [gotS, Kat_go, Kreg_go, Qseq_normal, aret_ret, aregL_nil, aregL_plain, awpL_region, awpL_seq, awpL_ret, aop_move, aop_assign, aop_extract, ev, putT, aext, List.getD_cons_zero, List.getD_cons_succ, List.set_cons_zero, List.set_cons_succ, List.getElem?_cons_zero, List.getElem?_cons_succ]
  refine WK.now ?_
  simp only [Tryd.results28, Kcons_go, Kone_go, Kfin_go, aresL_nil, aresL_tmp, allDefr_nil, offs_nil, one?, List.getD_cons_zero, List.getD_cons_succ, and_self, List.toList_toArray]
theorem roomS_ok (sz : Int) (L : List (Int × ByteArray)) (h : 0 ≤ sz ∧ sz ≤ 9223372036854775807 ∧ L.length ≤ 4611686018427387904) : ACalls env 29 [.pvar 1 0] (Tb fS sz L) fun r H' => r = .d (.int .i64 (sz - L.length)) ∧ H' = Tb fS sz L := by
  unfold Tb
  refine acalls_of envOk Tryd.func29 rfl (by kernel_rfl) (m := 14) rfl ?_
  simp only [ty23, T23, Kat_go, Kreg_go, Qseq_normal, Kbr_false, aregL_nil, aregL_plain, awpL_skip, awpL_region, awpL_draw, awpL_seq, awpL_cond, aop_move, aop_assign, aop_binOp, ev, cst, putT, abin, bEq, acmp, ptrish, kd, List.getD_cons_zero, List.getD_cons_succ, List.set_cons_zero, List.set_cons_succ, List.length_cons, List.length_nil, List.cons_append, List.nil_append, List.reduceReplicate, Nat.reduceAdd, Nat.zero_add]
  refine DRegL.one (by unfold DrawOK; kernel_rfl) ?_
  simp only [wrapi (show -9223372036854775808 ≤ sz - (L.length : Int) by omega) (show sz - (L.length : Int) ≤ 9223372036854775807 by omega), entE_length, ty3, T3, ty58, T58, ty60, T60, Kdr_go, Qseq_normal, aret_ret, aregL_nil, adrawL_nil, adrawL_plain, awpL_ret, qop_move, qop_assign, qop_load, qop_nilCheck, qop_binOp, qop_fieldAddr, qop_len, apureCall, ev, putT, abin, aint, anil, alen, fld, afldAddr, aload, ldK, kd, esz, isEff, qpre, qtail, List.getD_cons_zero, List.getD_cons_succ, List.set_cons_zero, List.set_cons_succ, List.getElem?_cons_zero, List.getElem?_cons_succ, true_and, reduceCtorEq, ne_eq, not_false_eq_true, Nat.zero_add, Nat.add_zero]
  refine WK.now ?_
  simp only [Tryd.results29, Kcons_go, Kone_go, Kfin_go, aresL_nil, aresL_tmp, allDefr_nil, offs_nil, one?, List.getD_cons_zero, List.getD_cons_succ, and_self, List.toList_toArray]
theorem lenS_ok (sz : Int) (L : List (Int × ByteArray)) : ACalls env 13 [.pvar 1 0] (Tb fS sz L) fun r H' => r = .d (.int .i64 L.length) ∧ H' = Tb fS sz L := by
  unfold Tb
  refine acalls_of envOk Tryd.func13 rfl (by kernel_rfl) (m := 9) rfl ?_
  simp only [entE_length, ty58, T58, ty60, T60, ty23, T23, Kat_go, Kreg_go, Qseq_normal, Kbr_false, aret_ret, aregL_nil, aregL_plain, awpL_skip, awpL_region, awpL_seq, awpL_cond, awpL_ret, aop_move, aop_assign, aop_load, aop_nilCheck, aop_binOp, aop_fieldAddr, aop_len, apureCall, ev, cst, putT, abin, bEq, acmp, ptrish, anil, alen, fld, afldAddr, aload, ldK, kd, esz, List.getD_cons_zero, List.getD_cons_succ, List.set_cons_zero, List.set_cons_succ, List.getElem?_cons_zero, List.getElem?_cons_succ, List.length_cons, List.length_nil, List.cons_append, List.nil_append, List.reduceReplicate, Nat.reduceAdd, true_and, reduceCtorEq, ne_eq, not_false_eq_true, Nat.zero_add]
  refine WK.now ?_
  simp only [Tryd.results13, Kcons_go, Kone_go, Kfin_go, aresL_nil, aresL_tmp, allDefr_nil, offs_nil, one?, List.getD_cons_zero, List.getD_cons_succ, and_self, List.toList_toArray]
theorem entE_putS (L : List (Int × ByteArray)) (k : Int) (v : ByteArray) : dput (entE fS L) (.int .i64 k) (.str v) = entE fS (lput L k v) := entE_put fS L k v
theorem addS_ok (sz : Int) (L : List (Int × ByteArray)) (k : Int) (v : ByteArray) (h : 0 ≤ sz ∧ sz ≤ 9223372036854775807 ∧ L.length ≤ 4611686018427387904) :
    ACalls env 10 [.pvar 1 0, .d (.int .i64 k), .d (.str v)] (Tb fS sz L) fun r H' => r = .d (errD (addE sz L k)) ∧ H' = Tb fS sz (addL sz L k v) := by
  refine acalls_of envOk Tryd.func10 rfl (by kernel_rfl) (m := 24) rfl ?_
  simp only [ty23, T23, ext28, Kat_go, Kreg_go, Qseq_normal, Kbr_false, aregL_nil, aregL_plain, awpL_region, awpL_seq, awpL_cond, awpL_block, aop_move, aop_assign, aop_binOp, aop_call, acallF_go, ev, cst, putT, abin, bEq, acmp, ptrish, kd, List.getD_cons_zero, List.getD_cons_succ, List.set_cons_zero, List.set_cons_succ, List.map_cons, List.map_nil, List.cons_append, List.nil_append, List.append_nil, List.reduceReplicate]
  refine (hasS_ok sz L k).thus (WK.now ?_)
  simp only [Kreg_go, Qseq_normal, aregL_nil, aregL_plain, awpL_cond, aop_assign, ev, putT, List.getD_cons_zero, List.getD_cons_succ, List.set_cons_zero, List.set_cons_succ]
  refine Kbr.mk (fun c => ?_) (fun c => ?_)
  · simp only [ty61, T61, Kreg_go, Qseq_normal, Qseq_ret, Qblk_ret, aret_ret, aregL_nil, aregL_plain, awpL_region, awpL_seq, awpL_ret, aop_assign, aop_makeInterface, ev, cst, putT, kd, mkIface, List.getD_cons_zero, List.getD_cons_succ, List.set_cons_zero, List.set_cons_succ]
    refine WK.now ?_
    simp only [addE, addL, c, errD, Tryd.results10, Kcons_go, Kone_go, Kfin_go, aresL_nil, aresL_tmp, allDefr_nil, offs_nil, one?, List.getD_cons_zero, List.getD_cons_succ, if_true, and_self, List.toList_toArray]
  · simp only [ext29, Kreg_go, aregL_plain, awpL_region, awpL_seq, aop_move, aop_call, acallF_go, ev, putT, List.getD_cons_zero, List.getD_cons_succ, List.set_cons_zero, List.set_cons_succ, List.map_cons, List.map_nil, List.append_nil]
    refine (roomS_ok sz L h).thus (WK.now ?_)
    simp only [Kat_go, Kreg_go, Qseq_normal, aregL_nil, aregL_plain, awpL_cond, aop_assign, aop_binOp, ev, cst, putT, abin, aint, List.getD_cons_zero, List.getD_cons_succ, List.set_cons_zero, List.set_cons_succ, true_and]
    refine Kbr.mk (fun c2 => ?_) (fun c2 => ?_)
    · have e : sz = L.length := by have := of_decide_eq_true c2; omega
      simp only [ty61, T61, Kreg_go, Qseq_normal, Qseq_ret, Qblk_ret, aret_ret, aregL_nil, aregL_plain, awpL_region, awpL_seq, awpL_ret, aop_assign, aop_makeInterface, ev, cst, putT, kd, mkIface, List.getD_cons_zero, List.getD_cons_succ, List.set_cons_zero, List.set_cons_succ]
      refine WK.now ?_
      simp [addE, addL, c, errD, e, Tb, Kfin, allDefr, offs, aresL, Kone, one?]
    · have e : ¬ sz = L.length := by have := of_decide_eq_false c2; omega
      simp only [Tb, entE_putS, key3, entE_all, isIntK_int, ty58, T58, ty60, T60, Kat_go, Kst_go, Kreg_go, Qseq_normal, Qblk_normal, aret_ret, aregL_nil, aregL_plain, awpL_skip, awpL_region, awpL_seq, awpL_ret, aop_mapUpdate, amapup, aop_move, aop_assign, aop_load, aop_nilCheck, aop_fieldAddr, ev, cst, putT, anil, fld, afldAddr, aload, ldK, kd, esz, AV.low, List.getD_cons_zero, List.getD_cons_succ, List.set_cons_zero, List.set_cons_succ, List.getElem?_cons_zero, List.getElem?_cons_succ, List.length_cons, List.length_nil, Nat.reduceAdd, true_and, reduceCtorEq, ne_eq, not_false_eq_true, Nat.zero_add]
      refine WK.now ?_
      simp [addE, addL, c, errD, e, Kfin, allDefr, offs, aresL, Kone, one?]

/-- What the table holds after n additions. -/
def rowsS (l : List ByteArray) (n : Nat) : List (Int × ByteArray) := (List.range n).map fun j : Nat => (-(j : Int), l.getD j ⟨#[]⟩)
theorem rowsS_length (l : List ByteArray) (n : Nat) : (rowsS l n).length = n := by simp [rowsS]
theorem rowsS_none {l : List ByteArray} {n : Nat} {k : Int} (h : k ≤ -(n : Int) ∨ 0 < k) : lget (rowsS l n) k = none := by
  rw [lget_none]
  intro hm
  obtain ⟨p, hp, he⟩ := List.mem_map.1 hm
  obtain ⟨j, hj, rfl⟩ := List.mem_map.1 hp
  have := List.mem_range.1 hj
  simp only at he
  omega
theorem rowsS_nodup (l : List ByteArray) (n : Nat) : NoDup (rowsS l n) := by
  unfold NoDup rowsS
  rw [List.map_map]
  refine List.Pairwise.map _ ?_ (List.nodup_range (n := n))
  intro a b hab e
  simp only [Function.comp] at e
  exact hab (by omega)
theorem rowsS_some {l : List ByteArray} {n j : Nat} (h : j < n) : lget (rowsS l n) (-(j : Int)) = some (l.getD j ⟨#[]⟩) :=
  (lget_mem (rowsS_nodup l n)).2 (List.mem_map.2 ⟨j, List.mem_range.2 h, rfl⟩)
theorem rowsS_succ (l : List ByteArray) (n : Nat) : lput (rowsS l n) (-(n : Int)) (l.getD n ⟨#[]⟩) = rowsS l (n + 1) := by
  rw [lput_new (rowsS_none (by omega))]
  simp [rowsS, List.range_succ]

set_option maxRecDepth 4000 in
set_option maxHeartbeats 4000000 in
theorem law5 (l : List ByteArray) (hl0 : l.length ≤ 9223372036854775807) : PCall env 3 [.slice 1 (strs l)] (.bool true) := by
  have hmax : max (l.length : Int) 0 = l.length := by omega
  refine acalls_of envOk Tryd.func3 rfl (by kernel_rfl) (m := 75) rfl ?_
  simp only [strs_length, ty22, T22, ext8, Kat_go, Kreg_go, Qseq_normal, aregL_nil, aregL_plain, awpL_region, awpL_seq, aop_move, aop_assign, aop_len, aop_call, acallF_go, apureCall, ev, cst, putT, rowLen, alen, kd, List.getD_cons_zero, List.getD_cons_succ, List.set_cons_zero, List.set_cons_succ, List.length_nil, List.map_cons, List.map_nil, List.cons_append, List.nil_append, List.append_nil, List.reduceReplicate]
  refine (newS_ok l.length).thus (WK.now ?_)
  simp only [hmax, ext9, Kreg_go, Qseq_normal, aregL_nil, aregL_plain, awpL_region, awpL_seq, aop_assign, aop_call, acallF_go, ev, putT, List.getD_cons_zero, List.getD_cons_succ, List.set_cons_zero, List.set_cons_succ, List.map_nil, List.append_nil]
  refine awake_ok.go ⟨⟩ (WK.now ?_)
  simp only [strs_length, ty23, T23, ty22, T22, Kat_go, Kreg_go, Qseq_normal, Kbr_true, Vbr_false, Kgo_go, aregL_nil, aregL_plain, aregL_guard, awpL_cond, aop_move, aop_pick, aop_binOp, aop_unOp, aop_len, apureCall, ev, cst, putT, gval, abin, aint, bEq, acmp, ptrish, aun, rowLen, alen, kd, List.getD_cons_zero, List.getD_cons_succ, List.set_cons_zero, List.set_cons_succ, List.getElem?_cons_zero, List.getElem?_cons_succ, Bool.not_true, Bool.not_false, beq_self_eq_true, true_and]
  refine Kbr.mk (fun c => ?_) (fun c => ?_)
  · simp only [ty23, T23, ext9, Kat_go, Kreg_go, Kbr_true, Kgo_go, aregL_plain, aregL_guard, awpL_region, awpL_seq, aop_move, aop_binOp, aop_call, acallF_go, ev, cst, putT, gval, abin, bEq, acmp, ptrish, kd, List.getD_cons_zero, List.getD_cons_succ, List.set_cons_zero, List.set_cons_succ, List.getElem?_cons_zero, List.getElem?_cons_succ, List.map_nil, List.append_nil, Bool.not_true, Bool.not_false, beq_self_eq_true]
    refine awake_ok.go ⟨⟩ (WK.now ?_)
    simp only [Kat_go, Kreg_go, Qseq_normal, Qseq_ret, Vbr_true, aret_ret, aregL_nil, aregL_plain, awpL_ret, aop_assign, aop_pick, ev, cst, putT, List.getD_cons_zero, List.getD_cons_succ, List.set_cons_zero, List.set_cons_succ]
    refine WK.now ?_
    simp only [Tryd.results3, Kcons_go, Kone_go, Kfin_go, aresL_nil, aresL_tmp, allDefr_nil, offs_nil, one?, List.getD_cons_zero, List.getD_cons_succ, and_self, List.toList_toArray]
  · have hl : l.length ≤ 100 := by have := of_decide_eq_false c; omega
    simp only [Kreg_go, Qseq_normal, aregL_nil, aregL_plain, awpL_skip, awpL_region, awpL_seq, awpL_block, awpL_loop, aop_assign, ev, cst, putT, List.set_cons_zero, List.set_cons_succ]
    refine ALoop.mk (fun n t H ds => ∃ (i : Nat), n = l.length - i ∧ i ≤ l.length ∧ t = [.d (.slice 1 (strs l)), .dead, .d (.bool false), .pvar 1 0, .d (.int .i64 (i : Nat)), .dead, .dead, .dead, .dead, .dead, .dead, .dead, .dead, .dead, .dead, .dead, .dead, .dead, .dead, .dead, .dead, .dead, .dead, .dead, .dead, .dead, .dead, .dead, .dead, .dead, .dead, .dead, .dead, .dead, .dead, .dead, .dead, .dead, .dead, .dead, .dead, .dead, .dead, .dead, .dead, .dead, .dead, .dead, .dead, .dead, .dead, .dead, .dead, .dead, .dead, .dead, .dead, .dead, .dead, .dead, .dead, .dead, .dead, .dead, .dead, .dead, .dead, .dead, .dead, .dead, .dead, .dead, .dead, .dead, .dead, .dead] ∧ H = Tb fS l.length (rowsS l i) ∧ ds = []) l.length
      (WK.fgt (t' := [.d (.slice 1 (strs l)), .dead, .d (.bool false), .pvar 1 0, .d (.int .i64 (0 : Nat)), .dead, .dead, .dead, .dead, .dead, .dead, .dead, .dead, .dead, .dead, .dead, .dead, .dead, .dead, .dead, .dead, .dead, .dead, .dead, .dead, .dead, .dead, .dead, .dead, .dead, .dead, .dead, .dead, .dead, .dead, .dead, .dead, .dead, .dead, .dead, .dead, .dead, .dead, .dead, .dead, .dead, .dead, .dead, .dead, .dead, .dead, .dead, .dead, .dead, .dead, .dead, .dead, .dead, .dead, .dead, .dead, .dead, .dead, .dead, .dead, .dead, .dead, .dead, .dead, .dead, .dead, .dead, .dead, .dead, .dead, .dead]) (by simp [fgt]) (WK.now ⟨0, by omega, by omega, rfl, by simp [rowsS], rfl⟩)) ?_
    rintro n t H ds ⟨i, rfl, hi, rfl, rfl, rfl⟩
    have hroom : (0 : Int) ≤ l.length ∧ (l.length : Int) ≤ 9223372036854775807 ∧ (rowsS l i).length ≤ 4611686018427387904 := by rw [rowsS_length]; exact ⟨by omega, by omega, by omega⟩
    simp only [strs_length, ty22, T22, Int.ofNat_lt, Kat_go, Kreg_go, Qseq_normal, aregL_nil, aregL_plain, awpL_region, awpL_seq, awpL_cond, aop_move, aop_binOp, aop_len, apureCall, ev, putT, abin, aint, rowLen, alen, kd, List.getD_cons_zero, List.getD_cons_succ, List.set_cons_zero, List.set_cons_succ, true_and]
    refine Kbr.mk (fun c => ?_) (fun c => ?_)
    · have c2 : i < l.length := by simpa using c
      have w1 : IntKind.wrap .i64 (0 - (i : Int)) = -(i : Int) := by rw [wrapi (by omega) (by omega)]; omega
      simp only [c2, cel_strs, w1, strs_length, ty9, T9, ty22, T22, ext10, Int.natCast_nonneg, Int.ofNat_lt, Kat_go, Kreg_go, Qseq_normal, aregL_plain, awpL_skip, awpL_region, awpL_seq, awpL_block, aop_move, aop_load, aop_unOp, aop_indexAddr, aop_call, acallF_go, ev, putT, aun, rowPtr, aidx, aload, rdRow, ldK, kd, esz, List.getD_cons_zero, List.getD_cons_succ, List.set_cons_zero, List.set_cons_succ, List.map_cons, List.map_nil, List.append_nil, Nat.reduceLT, true_and, Int.toNat_natCast, decide_true]
      refine (addS_ok l.length (rowsS l i) (-(i : Int)) (l.getD i ⟨#[]⟩) hroom).thus (WK.now ?_)
      simp only [addE, addL, rowsS_none (show -(i : Int) ≤ -(i : Int) ∨ 0 < -(i : Int) by omega), rowsS_length, show ¬ (l.length : Int) = (i : Int) by omega, errD, rowsS_succ, succ64 c2 (show l.length ≤ 4611686018427387904 by omega), Bool.false_eq_true, ty27, T27, Qloop_normal, Kat_go, Kreg_go, Qseq_normal, Qblk_normal, Kbr_false, aregL_nil, aregL_plain, awpL_skip, awpL_region, awpL_cond, aop_move, aop_assign, aop_binOp, ev, cst, putT, abin, aint, bEq, acmp, ifaceish, isC, kd, List.getD_cons_zero, List.getD_cons_succ, List.set_cons_zero, List.set_cons_succ, Bool.or_true, Bool.not_true, true_and, if_false, Option.isSome_none]
      exact ⟨l.length - (i + 1), by omega, WK.fgt (t' := [.d (.slice 1 (strs l)), .dead, .d (.bool false), .pvar 1 0, .d (.int .i64 (i + 1 : Nat)), .dead, .dead, .dead, .dead, .dead, .dead, .dead, .dead, .dead, .dead, .dead, .dead, .dead, .dead, .dead, .dead, .dead, .dead, .dead, .dead, .dead, .dead, .dead, .dead, .dead, .dead, .dead, .dead, .dead, .dead, .dead, .dead, .dead, .dead, .dead, .dead, .dead, .dead, .dead, .dead, .dead, .dead, .dead, .dead, .dead, .dead, .dead, .dead, .dead, .dead, .dead, .dead, .dead, .dead, .dead, .dead, .dead, .dead, .dead, .dead, .dead, .dead, .dead, .dead, .dead, .dead, .dead, .dead, .dead, .dead, .dead]) (by simp [fgt]) (WK.now ⟨i + 1, rfl, by omega, rfl, rfl, rfl⟩)⟩
    · have c2 : ¬ i < l.length := by simpa using c
      obtain rfl : i = l.length := by omega
      simp only [Qloop_exit, Kreg_go, Qseq_normal, Qseq_exit, Qblk_exit, aregL_nil, aregL_plain, awpL_region, awpL_seq, awpL_block, awpL_loop, awpL_exit, aop_assign, ev, cst, putT, List.set_cons_zero, List.set_cons_succ, if_true]
      refine ALoop.mk (fun n t H ds => ∃ (j : Nat), n = l.length - j ∧ j ≤ l.length ∧ t = [.d (.slice 1 (strs l)), .dead, .d (.bool false), .pvar 1 0, .dead, .d (.int .i64 (j : Nat)), .dead, .dead, .dead, .dead, .dead, .dead, .dead, .dead, .dead, .dead, .dead, .dead, .dead, .dead, .dead, .dead, .dead, .dead, .dead, .dead, .dead, .dead, .dead, .dead, .dead, .dead, .dead, .dead, .dead, .dead, .dead, .dead, .dead, .dead, .dead, .dead, .dead, .dead, .dead, .dead, .dead, .dead, .dead, .dead, .dead, .dead, .dead, .dead, .dead, .dead, .dead, .dead, .dead, .dead, .dead, .dead, .dead, .dead, .dead, .dead, .dead, .dead, .dead, .dead, .dead, .dead, .dead, .dead, .dead, .dead] ∧ H = Tb fS l.length (rowsS l l.length) ∧ ds = []) l.length
        (WK.fgt (t' := [.d (.slice 1 (strs l)), .dead, .d (.bool false), .pvar 1 0, .dead, .d (.int .i64 (0 : Nat)), .dead, .dead, .dead, .dead, .dead, .dead, .dead, .dead, .dead, .dead, .dead, .dead, .dead, .dead, .dead, .dead, .dead, .dead, .dead, .dead, .dead, .dead, .dead, .dead, .dead, .dead, .dead, .dead, .dead, .dead, .dead, .dead, .dead, .dead, .dead, .dead, .dead, .dead, .dead, .dead, .dead, .dead, .dead, .dead, .dead, .dead, .dead, .dead, .dead, .dead, .dead, .dead, .dead, .dead, .dead, .dead, .dead, .dead, .dead, .dead, .dead, .dead, .dead, .dead, .dead, .dead, .dead, .dead, .dead, .dead]) (by simp [fgt]) (WK.now ⟨0, by omega, by omega, rfl, rfl, rfl⟩)) ?_
      rintro n t H ds ⟨j, rfl, hj, rfl, rfl, rfl⟩
      simp only [strs_length, ty22, T22, Int.ofNat_lt, Kat_go, Kreg_go, Qseq_normal, aregL_nil, aregL_plain, awpL_region, awpL_seq, awpL_cond, aop_move, aop_binOp, aop_len, apureCall, ev, putT, abin, aint, rowLen, alen, kd, List.getD_cons_zero, List.getD_cons_succ, List.set_cons_zero, List.set_cons_succ, true_and]
      refine Kbr.mk (fun c => ?_) (fun c => ?_)
      · have c3 : j < l.length := by simpa using c
        have w1 : IntKind.wrap .i64 (0 - (j : Int)) = -(j : Int) := by rw [wrapi (by omega) (by omega)]; omega
        simp only [w1, ext11, Kat_go, Kreg_go, Qseq_normal, aregL_plain, awpL_skip, awpL_region, awpL_seq, awpL_block, aop_move, aop_unOp, aop_call, acallF_go, ev, putT, aun, List.getD_cons_zero, List.getD_cons_succ, List.set_cons_zero, List.set_cons_succ, List.map_cons, List.map_nil, List.append_nil]
        refine (getS_ok l.length (rowsS l l.length) (-(j : Int))).thus (WK.now ?_)
        simp only [gotS, rowsS_some c3, c3, cel_strs, succ64 c3 (show l.length ≤ 4611686018427387904 by omega), strs_length, ty9, T9, ty22, T22, Qloop_normal, Int.natCast_nonneg, Int.ofNat_lt, Kat_go, Kreg_go, Qseq_normal, Qblk_normal, Kbr_true, Kbr_false, Vbr_false, Kgo_go, aregL_nil, aregL_plain, aregL_guard, awpL_skip, awpL_region, awpL_seq, awpL_cond, aop_move, aop_assign, aop_pick, aop_load, aop_binOp, aop_unOp, aop_indexAddr, aop_extract, ev, cst, putT, gval, abin, aint, astr, aun, rowPtr, aidx, aext, aload, rdRow, ldK, kd, esz, List.getD_cons_zero, List.getD_cons_succ, List.set_cons_zero, List.set_cons_succ, List.getElem?_cons_zero, List.getElem?_cons_succ, Nat.reduceLT, Option.isSome_some, Bool.not_true, Bool.not_false, beq_self_eq_true, true_and, Int.toNat_natCast, decide_true, Option.getD_some]
        exact ⟨l.length - (j + 1), by omega, WK.fgt (t' := [.d (.slice 1 (strs l)), .dead, .d (.bool false), .pvar 1 0, .dead, .d (.int .i64 (j + 1 : Nat)), .dead, .dead, .dead, .dead, .dead, .dead, .dead, .dead, .dead, .dead, .dead, .dead, .dead, .dead, .dead, .dead, .dead, .dead, .dead, .dead, .dead, .dead, .dead, .dead, .dead, .dead, .dead, .dead, .dead, .dead, .dead, .dead, .dead, .dead, .dead, .dead, .dead, .dead, .dead, .dead, .dead, .dead, .dead, .dead, .dead, .dead, .dead, .dead, .dead, .dead, .dead, .dead, .dead, .dead, .dead, .dead, .dead, .dead, .dead, .dead, .dead, .dead, .dead, .dead, .dead, .dead, .dead, .dead, .dead, .dead]) (by simp [fgt]) (WK.now ⟨j + 1, rfl, by omega, rfl, rfl, rfl⟩)⟩
      · simp only [ext10, Qloop_exit, Kreg_go, Qseq_normal, Qseq_exit, Qblk_exit, aregL_plain, awpL_region, awpL_seq, awpL_exit, aop_move, aop_call, acallF_go, ev, cst, putT, List.getD_cons_zero, List.getD_cons_succ, List.set_cons_zero, List.set_cons_succ, List.map_cons, List.map_nil, List.append_nil, if_true]
        refine (addS_ok l.length (rowsS l l.length) 1 ⟨#[109, 111, 114, 101]⟩ hroom).thus (WK.now ?_)
        simp only [addE, addL, rowsS_none (show (1 : Int) ≤ -(l.length : Int) ∨ 0 < (1 : Int) by omega), rowsS_length, errD, Bool.false_eq_true, ext12, aregL_plain, aop_call, acallF_go, ev, putT, List.getD_cons_zero, List.getD_cons_succ, List.set_cons_zero, List.set_cons_succ, List.map_cons, List.map_nil, List.append_nil, if_true, if_false, Option.isSome_none]
        refine (code_ok (some 7)).go (by first | exact ⟨.inl rfl, trivial⟩ | exact ⟨.inl rfl, .inl rfl, trivial⟩ | exact ⟨.inl rfl, .inl rfl, .inl rfl, trivial⟩ | simp [argsOk, argOk, sl, sll]) (WK.now ?_)
        simp only [ext13, Kat_go, Kreg_go, Kbr_true, Kgo_go, aregL_plain, aregL_guard, aop_move, aop_binOp, aop_call, acallF_go, ev, cst, putT, gval, abin, aint, List.getD_cons_zero, List.getD_cons_succ, List.set_cons_zero, List.set_cons_succ, List.getElem?_cons_zero, List.getElem?_cons_succ, List.map_cons, List.map_nil, List.append_nil, Bool.not_true, beq_self_eq_true, true_and, Option.getD_some]
        refine (lenS_ok l.length (rowsS l l.length)).thus (WK.now ?_)
        simp only [rowsS_length, strs_length, ty22, T22, Kat_go, Kreg_go, Qseq_normal, Kbr_true, Vbr_true, Kgo_go, aret_ret, aregL_nil, aregL_plain, aregL_guard, awpL_ret, aop_move, aop_assign, aop_pick, aop_binOp, aop_len, apureCall, ev, cst, putT, gval, abin, aint, rowLen, alen, kd, List.getD_cons_zero, List.getD_cons_succ, List.set_cons_zero, List.set_cons_succ, List.getElem?_cons_zero, List.getElem?_cons_succ, Bool.not_true, beq_self_eq_true, true_and]
        refine WK.now ?_
        simp only [Tryd.results3, Kcons_go, Kone_go, Kfin_go, aresL_nil, aresL_tmp, allDefr_nil, offs_nil, one?, List.getD_cons_zero, List.getD_cons_succ, and_self, List.toList_toArray]
end Go.Proofs.YtdmdjiaocbccpaaDoor
