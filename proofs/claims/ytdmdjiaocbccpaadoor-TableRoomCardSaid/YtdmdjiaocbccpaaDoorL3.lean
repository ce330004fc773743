/-
  As many elements can be added as there is room, and no more: the law's walk.
-/
import Derived.Test.YtdmdjiaocbccpaaDoorT9
set_option autoImplicit false
set_option linter.unusedVariables false
set_option linter.unusedSimpArgs false
namespace Go.Proofs.YtdmdjiaocbccpaaDoor
open Go.Abs

/-- What the table holds after n additions. -/
def rows (first : Int) (n : Nat) : List (Int × Int) := (List.range n).map fun j : Nat => (first + (j : Int), (j : Int))
theorem rows_length (first : Int) (n : Nat) : (rows first n).length = n := by simp [rows]
theorem rows_none {first : Int} {n : Nat} {k : Int} (h : first + n ≤ k) : lget (rows first n) k = none := by
  rw [lget_none]
  intro hm
  obtain ⟨p, hp, he⟩ := List.mem_map.1 hm
  obtain ⟨j, hj, rfl⟩ := List.mem_map.1 hp
  have := List.mem_range.1 hj
  simp only at he
  omega
theorem rows_some {first : Int} {n : Nat} (h : 0 < n) : (lget (rows first n) first).isSome = true := by
  cases hg : lget (rows first n) first with
  | some u => rfl
  | none =>
    have hm : (first + ((0 : Nat) : Int), ((0 : Nat) : Int)) ∈ rows first n := List.mem_map.2 ⟨0, List.mem_range.2 h, rfl⟩
    exact absurd (List.mem_map.2 ⟨_, hm, by simp⟩) (lget_none.1 hg)
theorem rows_succ (first : Int) (n : Nat) : lput (rows first n) (first + n) n = rows first (n + 1) := by
  rw [lput_new (rows_none (by omega))]
  simp [rows, List.range_succ]

set_option maxRecDepth 4000 in
set_option maxHeartbeats 4000000 in
theorem law3 (sz : Int) (first : Int) (hs : IntKind.min .u8 ≤ sz ∧ sz ≤ IntKind.max .u8) (hf : IntKind.min .i64 ≤ first ∧ first ≤ IntKind.max .i64) : PCall env 6 [.int .u8 sz, .int .i64 first] (.bool true) := by
  have hs' : 0 ≤ sz ∧ sz ≤ 255 := hs
  obtain ⟨n, rfl⟩ : ∃ n : Nat, sz = n := ⟨sz.toNat, by omega⟩
  have hn : n ≤ 255 := by omega
  have wn := wrapi (show -9223372036854775808 ≤ (n : Int) by omega) (show (n : Int) ≤ 9223372036854775807 by omega)
  have hmax : max (n : Int) 0 = n := by omega
  refine acalls_of envOk Tryd.func6 rfl (by kernel_rfl) (m := 84) rfl ?_
  simp only [wn, ty3, T3, ty5, T5, ext14, Kat_go, Kreg_go, Qseq_normal, aregL_nil, aregL_plain, awpL_region, awpL_seq, aop_move, aop_assign, aop_convert, aop_call, acallF_go, ev, cst, putT, aconv, kd, List.getD_cons_zero, List.getD_cons_succ, List.set_cons_zero, List.set_cons_succ, List.length_nil, List.map_cons, List.map_nil, List.cons_append, List.nil_append, List.append_nil, List.reduceReplicate, Int.reduceNeg]
  refine (newI_ok n).thus (WK.now ?_)
  simp only [hmax, ext9, Kreg_go, Qseq_normal, aregL_nil, aregL_plain, awpL_region, awpL_seq, aop_assign, aop_call, acallF_go, ev, putT, List.getD_cons_zero, List.getD_cons_succ, List.set_cons_zero, List.set_cons_succ, List.map_nil, List.append_nil, Int.reduceNeg]
  refine awake_ok.go ⟨⟩ (WK.now ?_)
  simp only [ty35, T35, Kat_go, Kreg_go, Kbr_true, Vbr_false, Kgo_go, aregL_plain, aregL_guard, aop_move, aop_pick, aop_binOp, aop_unOp, ev, cst, putT, gval, abin, aint, bEq, acmp, ptrish, aun, kd, List.getD_cons_zero, List.getD_cons_succ, List.set_cons_zero, List.set_cons_succ, List.getElem?_cons_zero, List.getElem?_cons_succ, Bool.not_true, Bool.not_false, beq_self_eq_true, true_and, Int.reduceNeg]
  refine Kbr.mk (fun c => ?_) (fun c => ?_)
  · have c1 : first ≤ 1099511627776 := by have := of_decide_eq_false (beq_iff_eq.1 c); omega
    have cc : decide (first > 1099511627776) = false := decide_eq_false (by omega)
    simp only [cc, Kat_go, Kreg_go, Qseq_normal, Kbr_true, Vbr_false, Kgo_go, aregL_nil, aregL_plain, aregL_guard, awpL_cond, aop_move, aop_pick, aop_binOp, ev, cst, putT, gval, abin, aint, List.getD_cons_zero, List.getD_cons_succ, List.set_cons_zero, List.set_cons_succ, List.getElem?_cons_zero, List.getElem?_cons_succ, Bool.not_false, beq_self_eq_true, true_and, Int.reduceNeg]
    refine Kbr.mk (fun c => ?_) (fun c => ?_)
    · simp only [ty35, T35, ext9, Kat_go, Kreg_go, Kbr_true, Kgo_go, aregL_plain, aregL_guard, awpL_region, awpL_seq, aop_move, aop_binOp, aop_call, acallF_go, ev, cst, putT, gval, abin, bEq, acmp, ptrish, kd, List.getD_cons_zero, List.getD_cons_succ, List.set_cons_zero, List.set_cons_succ, List.getElem?_cons_zero, List.getElem?_cons_succ, List.map_nil, List.append_nil, Bool.not_true, Bool.not_false, beq_self_eq_true, Int.reduceNeg]
      refine awake_ok.go ⟨⟩ (WK.now ?_)
      simp only [Kat_go, Kreg_go, Qseq_normal, Qseq_ret, Vbr_true, aret_ret, aregL_nil, aregL_plain, awpL_ret, aop_assign, aop_pick, ev, cst, putT, List.getD_cons_zero, List.getD_cons_succ, List.set_cons_zero, List.set_cons_succ, Int.reduceNeg]
      refine WK.now ?_
      simp only [Tryd.results6, Kcons_go, Kone_go, Kfin_go, aresL_nil, aresL_tmp, allDefr_nil, offs_nil, one?, List.getD_cons_zero, List.getD_cons_succ, Int.reduceNeg, and_self, List.toList_toArray]
    · have c0 : -1099511627776 ≤ first := by have := of_decide_eq_false c; omega
      simp only [Kreg_go, Qseq_normal, aregL_nil, aregL_plain, awpL_skip, awpL_region, awpL_seq, awpL_block, awpL_loop, aop_assign, ev, cst, putT, List.set_cons_zero, List.set_cons_succ, Int.reduceNeg]
      refine ALoop.mk (fun m t H ds => ∃ (i : Nat), m = n - i ∧ i ≤ n ∧ t = [.d (.int .u8 (n : Int)), .d (.int .i64 first), .dead, .dead, .d (.bool false), .pvar 1 0, .d (.int .i64 (i : Nat)), .dead, .dead, .dead, .dead, .dead, .dead, .dead, .dead, .dead, .dead, .dead, .dead, .dead, .dead, .dead, .dead, .dead, .dead, .dead, .dead, .dead, .dead, .dead, .dead, .dead, .dead, .dead, .dead, .dead, .dead, .dead, .dead, .dead, .dead, .dead, .dead, .dead, .dead, .dead, .dead, .dead, .dead, .dead, .dead, .dead, .dead, .dead, .dead, .dead, .dead, .dead, .dead, .dead, .dead, .dead, .dead, .dead, .dead, .dead, .dead, .dead, .dead, .dead, .dead, .dead, .dead, .dead, .dead, .dead, .dead, .dead, .dead, .dead, .dead, .dead, .dead, .dead, .dead, .dead] ∧ H = Tb fI n (rows first i) ∧ ds = []) n
        (WK.fgt (t' := [.d (.int .u8 (n : Int)), .d (.int .i64 first), .dead, .dead, .d (.bool false), .pvar 1 0, .d (.int .i64 (0 : Nat)), .dead, .dead, .dead, .dead, .dead, .dead, .dead, .dead, .dead, .dead, .dead, .dead, .dead, .dead, .dead, .dead, .dead, .dead, .dead, .dead, .dead, .dead, .dead, .dead, .dead, .dead, .dead, .dead, .dead, .dead, .dead, .dead, .dead, .dead, .dead, .dead, .dead, .dead, .dead, .dead, .dead, .dead, .dead, .dead, .dead, .dead, .dead, .dead, .dead, .dead, .dead, .dead, .dead, .dead, .dead, .dead, .dead, .dead, .dead, .dead, .dead, .dead, .dead, .dead, .dead, .dead, .dead, .dead, .dead, .dead, .dead, .dead, .dead, .dead, .dead, .dead, .dead, .dead, .dead]) (by simp [fgt]) (WK.now ⟨0, by omega, by omega, rfl, by simp [rows], rfl⟩)) ?_
      rintro m t H ds ⟨i, rfl, hi, rfl, rfl, rfl⟩
      have hroom : (0 : Int) ≤ n ∧ (n : Int) ≤ 9223372036854775807 ∧ (rows first i).length ≤ 4611686018427387904 := by rw [rows_length]; exact ⟨by omega, by omega, by omega⟩
      simp only [wn, ty3, T3, ty5, T5, Int.ofNat_lt, Kat_go, Kreg_go, Qseq_normal, aregL_nil, aregL_plain, awpL_region, awpL_seq, awpL_cond, aop_move, aop_binOp, aop_convert, ev, putT, abin, aint, aconv, kd, List.getD_cons_zero, List.getD_cons_succ, List.set_cons_zero, List.set_cons_succ, true_and]
      refine Kbr.mk (fun c => ?_) (fun c => ?_)
      · have c2 : i < n := by simpa using c
        have w1 := wrapi (show -9223372036854775808 ≤ (n : Int) - i by omega) (show (n : Int) - i ≤ 9223372036854775807 by omega)
        have w2 := wrapi (show -9223372036854775808 ≤ first + i by omega) (show first + i ≤ 9223372036854775807 by omega)
        simp only [ext20, Kreg_go, Qseq_normal, aregL_plain, awpL_skip, awpL_region, awpL_seq, awpL_block, aop_move, aop_call, acallF_go, ev, putT, List.getD_cons_zero, List.getD_cons_succ, List.set_cons_zero, List.set_cons_succ, List.map_cons, List.map_nil, List.append_nil]
        refine (roomI_ok n (rows first i) hroom).thus (WK.now ?_)
        simp only [rows_length, wn, w1, w2, bne_self_eq_false, ty3, T3, ty5, T5, ext21, Kat_go, Kreg_go, Kbr_true, Kgo_go, aregL_plain, aregL_guard, aop_move, aop_binOp, aop_convert, aop_call, acallF_go, ev, putT, gval, abin, aint, aconv, kd, List.getD_cons_zero, List.getD_cons_succ, List.set_cons_zero, List.set_cons_succ, List.getElem?_cons_zero, List.getElem?_cons_succ, List.map_cons, List.map_nil, List.append_nil, Bool.not_false, beq_self_eq_true, bne_self_eq_false, true_and]
        refine (addI_ok n (rows first i) (first + i) i hroom).thus (WK.now ?_)
        simp only [addE, addL, rows_none (show first + (i : Int) ≤ first + i by omega), rows_length, show ¬ (n : Int) = (i : Int) by omega, errD, rows_succ, succ64 c2 (show n ≤ 4611686018427387904 by omega), Bool.false_eq_true, ty27, T27, Qloop_normal, Kat_go, Kreg_go, Qseq_normal, Qblk_normal, Kbr_true, Kbr_false, Vbr_false, Kgo_go, aregL_nil, aregL_plain, aregL_guard, awpL_skip, awpL_region, awpL_cond, aop_move, aop_assign, aop_pick, aop_binOp, ev, cst, putT, gval, abin, aint, bEq, acmp, ifaceish, isC, kd, List.getD_cons_zero, List.getD_cons_succ, List.set_cons_zero, List.set_cons_succ, List.getElem?_cons_zero, List.getElem?_cons_succ, Bool.or_true, Bool.not_true, Bool.not_false, beq_self_eq_true, true_and, if_false, Option.isSome_none]
        exact ⟨n - (i + 1), by omega, WK.fgt (t' := [.d (.int .u8 (n : Int)), .d (.int .i64 first), .dead, .dead, .d (.bool false), .pvar 1 0, .d (.int .i64 (i + 1 : Nat)), .dead, .dead, .dead, .dead, .dead, .dead, .dead, .dead, .dead, .dead, .dead, .dead, .dead, .dead, .dead, .dead, .dead, .dead, .dead, .dead, .dead, .dead, .dead, .dead, .dead, .dead, .dead, .dead, .dead, .dead, .dead, .dead, .dead, .dead, .dead, .dead, .dead, .dead, .dead, .dead, .dead, .dead, .dead, .dead, .dead, .dead, .dead, .dead, .dead, .dead, .dead, .dead, .dead, .dead, .dead, .dead, .dead, .dead, .dead, .dead, .dead, .dead, .dead, .dead, .dead, .dead, .dead, .dead, .dead, .dead, .dead, .dead, .dead, .dead, .dead, .dead, .dead, .dead, .dead]) (by simp [fgt]) (WK.now ⟨i + 1, rfl, by omega, rfl, rfl, rfl⟩)⟩
      · have c2 : ¬ i < n := by simpa using c
        obtain rfl : i = n := by omega
        have w2 := wrapi (show -9223372036854775808 ≤ first + i by omega) (show first + i ≤ 9223372036854775807 by omega)
        simp only [wn, w2, ty3, T3, ty5, T5, ext21, Qloop_exit, Kat_go, Kreg_go, Qseq_normal, Qseq_exit, Qblk_exit, aregL_plain, awpL_region, awpL_seq, awpL_exit, aop_move, aop_binOp, aop_convert, aop_call, acallF_go, ev, cst, putT, abin, aint, aconv, kd, List.getD_cons_zero, List.getD_cons_succ, List.set_cons_zero, List.set_cons_succ, List.map_cons, List.map_nil, List.append_nil, true_and, if_true]
        refine (addI_ok i (rows first i) (first + i) 0 hroom).thus (WK.now ?_)
        simp only [addE, addL, rows_none (show first + (i : Int) ≤ first + i by omega), rows_length, errD, Bool.false_eq_true, ext23, Kreg_go, Qseq_normal, aregL_nil, aregL_plain, awpL_region, awpL_seq, aop_move, aop_assign, aop_call, acallF_go, ev, putT, List.getD_cons_zero, List.getD_cons_succ, List.set_cons_zero, List.set_cons_succ, List.map_cons, List.map_nil, List.append_nil, if_true, if_false, Option.isSome_none]
        refine (removeI_ok i (rows first i) first).thus (WK.now ?_)
        simp only [wn, w2, ty3, T3, ty5, T5, ext21, Kat_go, Kreg_go, Qseq_normal, aregL_nil, aregL_plain, awpL_region, awpL_seq, aop_move, aop_binOp, aop_convert, aop_call, acallF_go, ev, cst, putT, abin, aint, aconv, kd, List.getD_cons_zero, List.getD_cons_succ, List.set_cons_zero, List.set_cons_succ, List.map_cons, List.map_nil, List.append_nil, true_and]
        have hdl : (ldel (rows first i) first).length = i - 1 := by
          rw [ldel_length, rows_length]
          split
          · rfl
          · rename_i hh
            by_cases h0 : 0 < i
            · exact absurd (rows_some h0) hh
            · omega
        have hd0 : lget (ldel (rows first i) first) (first + i) = none := by
          have hnd : NoDup (rows first i) := by
            unfold NoDup rows
            rw [List.map_map]
            refine List.Pairwise.map _ ?_ (List.nodup_range (n := i))
            intro a b hab e
            simp only [Function.comp] at e
            exact hab (by omega)
          rw [lget_none]
          intro hm
          obtain ⟨p, hp, he⟩ := List.mem_map.1 hm
          exact lget_none.1 (rows_none (show first + (i : Int) ≤ first + i by omega)) (List.mem_map.2 ⟨p, ((ldel_mem hnd).1 hp).1, he⟩)
        refine (addI_ok i (ldel (rows first i) first) (first + i) 0 ⟨by omega, by omega, by omega⟩).thus (WK.now ?_)
        by_cases h0 : i = 0
        · subst h0
          have e0 : ldel (rows first 0) first = [] := by simp [rows, ldel]
          have e1 : ∀ k : Int, lget ([] : List (Int × Int)) k = none := fun k => by simp [lget]
          simp only [e0, e1, addE, addL, errD, Bool.false_eq_true, ext12, Kreg_go, Qseq_normal, aregL_nil, aregL_plain, awpL_region, awpL_seq, aop_move, aop_assign, aop_call, acallF_go, ev, putT, List.getD_cons_zero, List.getD_cons_succ, List.set_cons_zero, List.set_cons_succ, List.length_nil, List.map_cons, List.map_nil, List.append_nil, Nat.reduceLT, if_true, if_false, decide_false, Option.isSome_none, Int.cast_ofNat_Int]
          refine (code_ok (some 7)).go (by first | exact ⟨.inl rfl, trivial⟩ | exact ⟨.inl rfl, .inl rfl, trivial⟩ | exact ⟨.inl rfl, .inl rfl, .inl rfl, trivial⟩ | simp [argsOk, argOk, sl, sll]) (WK.now ?_)
          simp only [ext19, Kat_go, Kreg_go, Kbr_true, Kbr_false, Vbr_true, Kgo_go, Kno_go, aregL_plain, aregL_guard, aop_move, aop_pick, aop_binOp, aop_call, acallF_go, ev, cst, putT, gval, abin, aint, List.getD_cons_zero, List.getD_cons_succ, List.set_cons_zero, List.set_cons_succ, List.getElem?_cons_zero, List.getElem?_cons_succ, List.map_cons, List.map_nil, List.append_nil, Bool.not_true, Bool.not_false, beq_self_eq_true, true_and, Bool.true_beq, Option.getD_some]
          refine (lenI_ok 0 []).thus (WK.now ?_)
          simp only [show IntKind.wrap .i64 0 = 0 from rfl, ty3, T3, ty5, T5, Kat_go, Kreg_go, Qseq_normal, Kbr_true, Vbr_true, Kgo_go, aret_ret, aregL_nil, aregL_plain, aregL_guard, awpL_ret, aop_move, aop_assign, aop_pick, aop_binOp, aop_convert, ev, cst, putT, gval, abin, aint, aconv, kd, List.getD_cons_zero, List.getD_cons_succ, List.set_cons_zero, List.set_cons_succ, List.getElem?_cons_zero, List.getElem?_cons_succ, List.length_nil, Bool.not_true, beq_self_eq_true, true_and, Int.cast_ofNat_Int]
          refine WK.now ?_
          simp only [Tryd.results6, Kcons_go, Kone_go, Kfin_go, aresL_nil, aresL_tmp, allDefr_nil, offs_nil, one?, List.getD_cons_zero, List.getD_cons_succ, and_self, List.toList_toArray]
        · have hne : ¬ (i : Int) = ((i - 1 : Nat) : Int) := by omega
          simp only [addE, addL, hd0, hdl, errD, hne, Bool.false_eq_true, ext12, Kreg_go, Qseq_normal, aregL_nil, aregL_plain, awpL_region, awpL_seq, aop_move, aop_assign, aop_call, acallF_go, ev, putT, List.getD_cons_zero, List.getD_cons_succ, List.set_cons_zero, List.set_cons_succ, List.map_cons, List.map_nil, List.append_nil, if_false, Option.isSome_none]
          refine (code_ok (some 7)).go (by first | exact ⟨.inl rfl, trivial⟩ | exact ⟨.inl rfl, .inl rfl, trivial⟩ | exact ⟨.inl rfl, .inl rfl, .inl rfl, trivial⟩ | simp [argsOk, argOk, sl, sll]) (WK.now ?_)
          have hb : ((i : Int) == 0) = false := beq_eq_false_iff_ne.2 (by omega)
          simp only [hb, ty27, T27, ext19, Kat_go, Kreg_go, Kbr_true, Vbr_true, Vbr_false, Kgo_go, aregL_plain, aregL_guard, aop_move, aop_pick, aop_binOp, aop_call, acallF_go, ev, cst, putT, gval, abin, aint, bEq, acmp, ifaceish, isC, kd, List.getD_cons_zero, List.getD_cons_succ, List.set_cons_zero, List.set_cons_succ, List.getElem?_cons_zero, List.getElem?_cons_succ, List.map_cons, List.map_nil, List.append_nil, Bool.or_true, Bool.not_true, Bool.not_false, beq_self_eq_true, true_and, Option.getD_some]
          have hlen : (lput (ldel (rows first i) first) (first + i) 0).length = i := by
            rw [lput_length, hd0, hdl, if_neg (by simp)]; omega
          refine (lenI_ok i (lput (ldel (rows first i) first) (first + i) 0)).thus (WK.now ?_)
          simp only [hlen, wn, ty3, T3, ty5, T5, Kat_go, Kreg_go, Qseq_normal, Kbr_true, Vbr_true, Kgo_go, aret_ret, aregL_nil, aregL_plain, aregL_guard, awpL_ret, aop_move, aop_assign, aop_pick, aop_binOp, aop_convert, ev, cst, putT, gval, abin, aint, aconv, kd, List.getD_cons_zero, List.getD_cons_succ, List.set_cons_zero, List.set_cons_succ, List.getElem?_cons_zero, List.getElem?_cons_succ, Bool.not_true, beq_self_eq_true, true_and]
          refine WK.now ?_
          simp only [Tryd.results6, Kcons_go, Kone_go, Kfin_go, aresL_nil, aresL_tmp, allDefr_nil, offs_nil, one?, List.getD_cons_zero, List.getD_cons_succ, and_self, List.toList_toArray]
  · have cc : decide (first > 1099511627776) = true := by cases hh : decide (first > 1099511627776) <;> simp_all
    simp only [cc, ty35, T35, ext9, Kat_go, Kreg_go, Qseq_normal, Kbr_true, Kbr_false, Vbr_true, Kgo_go, Kno_go, aregL_nil, aregL_plain, aregL_guard, awpL_region, awpL_seq, awpL_cond, aop_move, aop_pick, aop_binOp, aop_call, acallF_go, ev, cst, putT, gval, abin, bEq, acmp, ptrish, kd, List.getD_cons_zero, List.getD_cons_succ, List.set_cons_zero, List.set_cons_succ, List.getElem?_cons_zero, List.getElem?_cons_succ, List.map_nil, List.append_nil, Bool.not_true, Bool.not_false, beq_self_eq_true, Int.reduceNeg, Bool.true_beq]
    refine awake_ok.go ⟨⟩ (WK.now ?_)
    simp only [Kat_go, Kreg_go, Qseq_normal, Qseq_ret, Vbr_true, aret_ret, aregL_nil, aregL_plain, awpL_ret, aop_assign, aop_pick, ev, cst, putT, List.getD_cons_zero, List.getD_cons_succ, List.set_cons_zero, List.set_cons_succ]
    refine WK.now ?_
    simp only [Tryd.results6, Kcons_go, Kone_go, Kfin_go, aresL_nil, aresL_tmp, allDefr_nil, offs_nil, one?, List.getD_cons_zero, List.getD_cons_succ, and_self, List.toList_toArray]
end Go.Proofs.YtdmdjiaocbccpaaDoor
