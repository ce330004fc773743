/-
  The fixed examples come out as the documentation says.
-/
import Derived.Test.YtdmdjiaocbccpaaDoorT6
set_option autoImplicit false
set_option linter.unusedVariables false
set_option linter.unusedSimpArgs false
namespace Go.Proofs.YtdmdjiaocbccpaaDoor
open Go.Abs

/-- A table's ids, as plain data. -/
theorem idsD_ok (sz : Int) (L : List (Int × Int)) (h : L.length ≤ 1000000000) :
    ACalls env 17 [.pvar 1 0] (Tb fI sz L) fun r H' => r = .d (sl (srt (L.map (·.1)))) ∧ H' = Tb fI sz L :=
  (idsI_ok sz L h).retell (by
    rintro r H' ⟨rfl, rfl⟩
    unfold Tb
    refine WK.frz 2 rfl ?_
    simp only [AV.frzL, AV.frz, AObj.frz, List.cons_append, List.nil_append, List.set_cons_zero, List.set_cons_succ, List.map_cons, List.map_nil, if_true]
    exact WK.pick [0, 1] (t' := [.d (.slice 1 (ints (srt (L.map (·.1)))))]) (H' := [.map (entE fI L), .var [.d (.int .i64 sz), .mapo 0]]) (by simp [sbl, ren_var, ren_map, bel_var, bel_map, AV.renL, AV.ren, AV.belL, AV.bel, rn]) (by simp) (by simp) (by simp [tellL, AV.ren, AV.bel]) (by intro id h; rcases id with _ | _ | id; rfl; rfl; exact absurd h (by simp)) (WK.now ⟨_, rfl, rfl, rfl⟩))

theorem a_new : ACalls env 14 [.d (.int .i64 1)] [] fun r H' => r = .pvar 1 0 ∧ H' = Tb fI 1 [] := newI_ok 1
theorem a_add1 : ACalls env 21 [.pvar 1 0, .d (.int .i64 7), .d (.int .i64 70)] (Tb fI 1 []) fun r H' => r = .d .nili ∧ H' = Tb fI 1 [(7, 70)] := addI_ok 1 [] 7 70 (by decide)
theorem a_add2 : ACalls env 21 [.pvar 1 0, .d (.int .i64 8), .d (.int .i64 80)] (Tb fI 1 [(7, 70)]) fun r H' => r = .d (.iface 61 (.int .i64 7)) ∧ H' = Tb fI 1 [(7, 70)] := addI_ok 1 [(7, 70)] 8 80 (by decide)
theorem a_add3 : ACalls env 21 [.pvar 1 0, .d (.int .i64 7), .d (.int .i64 71)] (Tb fI 1 [(7, 70)]) fun r H' => r = .d (.iface 61 (.int .i64 6)) ∧ H' = Tb fI 1 [(7, 70)] := addI_ok 1 [(7, 70)] 7 71 (by decide)
theorem a_get1 : ACalls env 25 [.pvar 1 0, .d (.int .i64 7)] (Tb fI 1 [(7, 70)]) fun r H' => r = .d (.tup [.int .i64 70, .bool true]) ∧ H' = Tb fI 1 [(7, 70)] := getI_ok 1 [(7, 70)] 7
theorem a_get2 : ACalls env 25 [.pvar 1 0, .d (.int .i64 8)] (Tb fI 1 [(7, 70)]) fun r H' => r = .d (.tup [.int .i64 0, .bool false]) ∧ H' = Tb fI 1 [(7, 70)] := getI_ok 1 [(7, 70)] 8
theorem a_ids : ACalls env 17 [.pvar 1 0] (Tb fI 1 [(7, 70)]) fun r H' => r = .d (sl [7]) ∧ H' = Tb fI 1 [(7, 70)] := by
  have := idsD_ok 1 [(7, 70)] (by decide)
  rwa [show srt (([(7, 70)] : List (Int × Int)).map (·.1)) = [7] from by simp [srt]] at this
theorem a_len : ACalls env 19 [.pvar 1 0] (Tb fI 1 [(7, 70)]) fun r H' => r = .d (.int .i64 1) ∧ H' = Tb fI 1 [(7, 70)] := lenI_ok 1 [(7, 70)]
theorem a_room : ACalls env 20 [.pvar 1 0] (Tb fI 1 [(7, 70)]) fun r H' => r = .d (.int .i64 0) ∧ H' = Tb fI 1 [(7, 70)] := roomI_ok 1 [(7, 70)] (by decide)
theorem a_set : ACalls env 27 [.pvar 1 0, .d (.int .i64 8), .d (.int .i64 1)] (Tb fI 1 [(7, 70)]) fun r H' => r = .d (.iface 61 (.int .i64 5)) ∧ H' = Tb fI 1 [(7, 70)] := setI_ok 1 [(7, 70)] 8 1
theorem a_code (c : Int) : PCall env 12 [.iface 61 (.int .i64 c)] (.int .i64 c) := code_ok (some c)

theorem awake_ok : PCall env 9 [] (.bool true) := by
  refine acalls_of envOk Tryd.func9 rfl (by kernel_rfl) (m := 85) rfl ?_
  simp only [ext14, Kreg_go, Qseq_normal, aregL_nil, aregL_plain, awpL_region, awpL_seq, aop_assign, aop_call, acallF_go, ev, cst, putT, List.set_cons_zero, List.length_nil, List.map_cons, List.map_nil, List.nil_append, List.append_nil, List.reduceReplicate]
  refine a_new.thus (WK.now ?_)
  simp only [ty35, T35, ext21, Kat_go, Kreg_go, Qseq_normal, Kbr_false, aregL_nil, aregL_plain, awpL_skip, awpL_region, awpL_seq, awpL_cond, aop_move, aop_assign, aop_binOp, aop_call, acallF_go, ev, cst, putT, abin, bEq, acmp, ptrish, kd, List.getD_cons_zero, List.getD_cons_succ, List.set_cons_zero, List.set_cons_succ, List.map_cons, List.map_nil, List.append_nil]
  refine a_add1.thus (WK.now ?_)
  simp only [ext21, Kreg_go, Qseq_normal, aregL_nil, aregL_plain, awpL_region, awpL_seq, aop_move, aop_assign, aop_call, acallF_go, ev, cst, putT, List.getD_cons_zero, List.getD_cons_succ, List.set_cons_zero, List.set_cons_succ, List.map_cons, List.map_nil, List.append_nil]
  refine a_add2.thus (WK.now ?_)
  simp only [ext21, Kreg_go, Qseq_normal, aregL_nil, aregL_plain, awpL_region, awpL_seq, aop_move, aop_assign, aop_call, acallF_go, ev, cst, putT, List.getD_cons_zero, List.getD_cons_succ, List.set_cons_zero, List.set_cons_succ, List.map_cons, List.map_nil, List.append_nil]
  refine a_add3.thus (WK.now ?_)
  simp only [ext25, Kreg_go, Qseq_normal, aregL_nil, aregL_plain, awpL_region, awpL_seq, aop_move, aop_assign, aop_call, acallF_go, ev, cst, putT, List.getD_cons_zero, List.getD_cons_succ, List.set_cons_zero, List.set_cons_succ, List.map_cons, List.map_nil, List.append_nil]
  refine a_get1.thus (WK.now ?_)
  simp only [ext25, Kat_go, Kreg_go, Qseq_normal, aregL_nil, aregL_plain, awpL_region, awpL_seq, aop_move, aop_assign, aop_extract, aop_call, acallF_go, ev, cst, putT, aext, List.getD_cons_zero, List.getD_cons_succ, List.set_cons_zero, List.set_cons_succ, List.getElem?_cons_zero, List.getElem?_cons_succ, List.map_cons, List.map_nil, List.append_nil]
  refine a_get2.thus (WK.now ?_)
  simp only [ty27, T27, ext12, Kat_go, Kreg_go, Qseq_normal, Kbr_true, Kgo_go, aregL_nil, aregL_plain, aregL_guard, awpL_region, awpL_seq, aop_move, aop_assign, aop_binOp, aop_extract, aop_call, acallF_go, ev, cst, putT, gval, abin, bEq, acmp, ifaceish, isC, aext, kd, List.getD_cons_zero, List.getD_cons_succ, List.set_cons_zero, List.set_cons_succ, List.getElem?_cons_zero, List.getElem?_cons_succ, List.map_cons, List.map_nil, List.append_nil, Bool.or_true, Bool.not_true, beq_self_eq_true, true_and]
  refine (a_code 7).go (by first | exact ⟨.inl rfl, trivial⟩ | exact ⟨.inl rfl, .inl rfl, trivial⟩ | exact ⟨.inl rfl, .inl rfl, .inl rfl, trivial⟩ | simp [argsOk, argOk, sl, sll]) (WK.now ?_)
  simp only [ext12, Kat_go, Kreg_go, Kbr_true, Vbr_true, Kgo_go, aregL_plain, aregL_guard, aop_move, aop_pick, aop_binOp, aop_call, acallF_go, ev, cst, putT, gval, abin, aint, List.getD_cons_zero, List.getD_cons_succ, List.set_cons_zero, List.set_cons_succ, List.getElem?_cons_zero, List.getElem?_cons_succ, List.map_cons, List.map_nil, List.append_nil, Bool.not_true, beq_self_eq_true, true_and]
  refine (a_code 6).go (by first | exact ⟨.inl rfl, trivial⟩ | exact ⟨.inl rfl, .inl rfl, trivial⟩ | exact ⟨.inl rfl, .inl rfl, .inl rfl, trivial⟩ | simp [argsOk, argOk, sl, sll]) (WK.now ?_)
  simp only [ext17, Kat_go, Kreg_go, Kbr_true, Vbr_true, Kgo_go, aregL_plain, aregL_guard, aop_move, aop_pick, aop_binOp, aop_unOp, aop_call, acallF_go, ev, cst, putT, gval, abin, aint, aun, List.getD_cons_zero, List.getD_cons_succ, List.set_cons_zero, List.set_cons_succ, List.getElem?_cons_zero, List.getElem?_cons_succ, List.map_cons, List.map_nil, List.append_nil, Bool.not_true, Bool.not_false, beq_self_eq_true, true_and]
  refine a_ids.thus (WK.now ?_)
  simp only [ty3, T3, ty45, T45, ext16, sl, Kat_go, Kreg_go, Kbr_true, Kgo_go, aregL_guard, aop_buildSlice, aop_call, acallF_go, ev, cst, putT, gval, kd, afill, splice, AV.cells, D.cells, allD, abuildS, AV.low, rep, chunk, List.getD_cons_zero, List.getD_cons_succ, List.set_cons_zero, List.set_cons_succ, List.getElem?_cons_zero, List.getElem?_cons_succ, List.length_cons, List.length_nil, List.map_cons, List.map_nil, List.nil_append, List.append_nil, List.take_succ_cons, List.take_zero, List.take_nil, List.drop_succ_cons, List.drop_nil, Nat.reduceLeDiff, Bool.not_true, beq_self_eq_true, true_and, if_true, reduceCtorEq, ne_eq, not_false_eq_true, Nat.zero_add, Nat.mul_one, and_self]
  refine (equal_ok [7] [7] (by unfold Sz; decide)).go (by simp [argsOk, argOk, sl, ints]) (WK.now ?_)
  simp only [ext19, Kat_go, Kreg_go, Kbr_true, Vbr_true, Kgo_go, aregL_plain, aregL_guard, B_True, aop_move, aop_pick, aop_call, acallF_go, ev, cst, putT, gval, List.getD_cons_zero, List.getD_cons_succ, List.set_cons_zero, List.set_cons_succ, List.getElem?_cons_zero, List.getElem?_cons_succ, List.map_cons, List.map_nil, List.append_nil, Bool.not_true, beq_self_eq_true]
  refine a_len.thus (WK.now ?_)
  simp only [ext20, Kat_go, Kreg_go, Kbr_true, Vbr_true, Kgo_go, aregL_plain, aregL_guard, aop_move, aop_pick, aop_binOp, aop_call, acallF_go, ev, cst, putT, gval, abin, aint, List.getD_cons_zero, List.getD_cons_succ, List.set_cons_zero, List.set_cons_succ, List.getElem?_cons_zero, List.getElem?_cons_succ, List.map_cons, List.map_nil, List.append_nil, Bool.not_true, beq_self_eq_true, true_and]
  refine a_room.thus (WK.now ?_)
  simp only [ext27, Kat_go, Kreg_go, Kbr_true, Vbr_true, Kgo_go, aregL_plain, aregL_guard, aop_move, aop_pick, aop_binOp, aop_call, acallF_go, ev, cst, putT, gval, abin, aint, List.getD_cons_zero, List.getD_cons_succ, List.set_cons_zero, List.set_cons_succ, List.getElem?_cons_zero, List.getElem?_cons_succ, List.map_cons, List.map_nil, List.append_nil, Bool.not_true, beq_self_eq_true, true_and]
  refine a_set.thus (WK.now ?_)
  simp only [ext12, Kbr_true, Kgo_go, aregL_guard, aop_call, acallF_go, ev, putT, gval, List.getD_cons_zero, List.getD_cons_succ, List.set_cons_zero, List.set_cons_succ, List.getElem?_cons_zero, List.getElem?_cons_succ, List.map_cons, List.map_nil, List.append_nil, Bool.not_true, beq_self_eq_true]
  refine (a_code 5).go (by first | exact ⟨.inl rfl, trivial⟩ | exact ⟨.inl rfl, .inl rfl, trivial⟩ | exact ⟨.inl rfl, .inl rfl, .inl rfl, trivial⟩ | simp [argsOk, argOk, sl, sll]) (WK.now ?_)
  simp only [ext21, Kat_go, Kreg_go, Kbr_true, Vbr_true, Kgo_go, aregL_plain, aregL_guard, aop_move, aop_pick, aop_binOp, aop_call, acallF_go, ev, cst, putT, gval, abin, aint, List.getD_cons_zero, List.getD_cons_succ, List.set_cons_zero, List.set_cons_succ, List.getElem?_cons_zero, List.getElem?_cons_succ, List.map_cons, List.map_nil, List.append_nil, Bool.not_true, beq_self_eq_true, true_and]
  refine (addI_nil 1 1).go (by first | exact ⟨.inl rfl, trivial⟩ | exact ⟨.inl rfl, .inl rfl, trivial⟩ | exact ⟨.inl rfl, .inl rfl, .inl rfl, trivial⟩ | simp [argsOk, argOk, sl, sll]) (WK.now ?_)
  simp only [ext12, Kbr_true, Kgo_go, aregL_guard, aop_call, acallF_go, ev, putT, gval, List.getD_cons_zero, List.getD_cons_succ, List.set_cons_zero, List.set_cons_succ, List.getElem?_cons_zero, List.getElem?_cons_succ, List.map_cons, List.map_nil, List.append_nil, Bool.not_true, beq_self_eq_true]
  refine (code_ok (some 5)).go (by first | exact ⟨.inl rfl, trivial⟩ | exact ⟨.inl rfl, .inl rfl, trivial⟩ | exact ⟨.inl rfl, .inl rfl, .inl rfl, trivial⟩ | simp [argsOk, argOk, sl, sll]) (WK.now ?_)
  simp only [ext19, Kat_go, Kreg_go, Kbr_true, Vbr_true, Kgo_go, aregL_plain, aregL_guard, aop_move, aop_pick, aop_binOp, aop_call, acallF_go, ev, cst, putT, gval, abin, aint, List.getD_cons_zero, List.getD_cons_succ, List.set_cons_zero, List.set_cons_succ, List.getElem?_cons_zero, List.getElem?_cons_succ, List.map_cons, List.map_nil, List.append_nil, Bool.not_true, beq_self_eq_true, true_and, Option.getD_some]
  refine lenI_nil.go (by first | exact ⟨.inl rfl, trivial⟩ | exact ⟨.inl rfl, .inl rfl, trivial⟩ | exact ⟨.inl rfl, .inl rfl, .inl rfl, trivial⟩ | simp [argsOk, argOk, sl, sll]) (WK.now ?_)
  simp only [Kat_go, Kreg_go, Qseq_normal, Kbr_true, Vbr_true, Kgo_go, aret_ret, aregL_nil, aregL_plain, aregL_guard, awpL_ret, aop_assign, aop_pick, aop_binOp, ev, cst, putT, gval, abin, aint, List.getD_cons_zero, List.getD_cons_succ, List.set_cons_zero, List.set_cons_succ, List.getElem?_cons_zero, List.getElem?_cons_succ, Bool.not_true, beq_self_eq_true, true_and]
  refine WK.now ?_
  simp only [Tryd.results9, Kcons_go, Kone_go, Kfin_go, aresL_nil, aresL_tmp, allDefr_nil, offs_nil, one?, List.getD_cons_zero, and_self, List.toList_toArray]
end Go.Proofs.YtdmdjiaocbccpaaDoor
