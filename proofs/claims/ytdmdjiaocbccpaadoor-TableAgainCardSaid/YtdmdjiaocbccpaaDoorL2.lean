/-
  An element that was removed can be added again, and others stay: the law's walk.
-/
import Derived.Test.YtdmdjiaocbccpaaDoorT9
set_option autoImplicit false
set_option linter.unusedVariables false
set_option linter.unusedSimpArgs false
namespace Go.Proofs.YtdmdjiaocbccpaaDoor
open Go.Abs

theorem raddL_length (w : List (Int × Int)) (sz : Int) (p : Int × Int) : (raddL w sz p).length ≤ w.length + 1 := by
  unfold raddL
  split
  · omega
  · split
    · omega
    · have := (ins_perm w p).length_eq
      simp at this
      omega
/-- Taken out and put in again, the table holds what it held. -/
theorem Rl.back {sz : Int} {L w : List (Int × Int)} {k v : Int} (h : Rl sz L w) (hv : lget L k = some v) : addE sz (ldel L k) k = none ∧ Rl sz (addL sz (ldel L k) k v) w := by
  have hd : lget (ldel L k) k = none := by
    rw [lget_none]
    intro hm
    obtain ⟨p, hp, he⟩ := List.mem_map.1 hm
    exact ((ldel_mem h.nd).1 hp).2 he
  have hlen : (ldel L k).length = L.length - 1 := by rw [ldel_length, hv]; rfl
  have hpos : 0 < L.length := List.length_pos_of_mem ((lget_mem h.nd).1 hv)
  have hr := h.room
  have hs : ¬ sz = ((ldel L k).length : Int) := by omega
  unfold addE addL
  simp only [hd, hs, Option.isSome_none, Bool.false_eq_true, if_false, true_and]
  rw [lput_new hd]
  have hn : NoDup (ldel L k ++ [(k, v)]) := by
    have := lput_nodup (k := k) (v := v) (ldel_nodup (k := k) h.nd)
    rwa [lput_new hd] at this
  refine ⟨hn, perm_of hn h.ndw fun p => ?_, h.sorted, by simp; omega⟩
  rw [← h.mem, List.mem_append, ldel_mem h.nd, List.mem_singleton]
  constructor
  · rintro (⟨h1, _⟩ | rfl)
    · exact h1
    · exact (lget_mem h.nd).1 hv
  · intro hp
    by_cases e : p.1 = k
    · have h2 : lget L p.1 = some p.2 := (lget_mem h.nd).2 hp
      rw [e, hv] at h2
      obtain ⟨a, b⟩ := p
      simp only at e h2
      subst e
      cases h2
      exact .inr rfl
    · exact .inl ⟨hp, e⟩

set_option maxRecDepth 4000 in
set_option maxHeartbeats 4000000 in
theorem law2 (ids : List Int) (id : Int) (hids : ∀ n ∈ ids, IntKind.min .i64 ≤ n ∧ n ≤ IntKind.max .i64) (hn : ids.length ≤ 9223372036854775807) (hid : IntKind.min .i64 ≤ id ∧ id ≤ IntKind.max .i64) : PCall env 5 [sl ids, .int .i64 id] (.bool true) := by
  refine acalls_of envOk Tryd.func5 rfl (by kernel_rfl) (m := 117) rfl ?_
  simp only [ext14, sl, Kreg_go, Qseq_normal, aregL_nil, aregL_plain, awpL_region, awpL_seq, aop_assign, aop_call, acallF_go, ev, cst, putT, List.set_cons_zero, List.set_cons_succ, List.length_nil, List.map_cons, List.map_nil, List.cons_append, List.nil_append, List.append_nil, List.reduceReplicate]
  refine (newI_ok 1000).thus (WK.now ?_)
  simp only [ext9, Kreg_go, Qseq_normal, aregL_nil, aregL_plain, awpL_region, awpL_seq, aop_assign, aop_call, acallF_go, ev, putT, List.getD_cons_zero, List.getD_cons_succ, List.set_cons_zero, List.set_cons_succ, List.map_nil, List.append_nil]
  refine awake_ok.go ⟨⟩ (WK.now ?_)
  simp only [ints_length, ty35, T35, ty45, T45, ints_length, Kat_go, Kreg_go, Qseq_normal, Kbr_true, Vbr_false, Kgo_go, aregL_nil, aregL_plain, aregL_guard, awpL_cond, aop_move, aop_pick, aop_binOp, aop_unOp, aop_len, apureCall, ev, cst, putT, gval, abin, aint, bEq, acmp, ptrish, aun, rowLen, alen, kd, List.getD_cons_zero, List.getD_cons_succ, List.set_cons_zero, List.set_cons_succ, List.getElem?_cons_zero, List.getElem?_cons_succ, Bool.not_true, Bool.not_false, beq_self_eq_true, true_and]
  refine Kbr.mk (fun c => ?_) (fun c => ?_)
  · simp only [ty35, T35, ext9, Kat_go, Kreg_go, Kbr_true, Kgo_go, aregL_plain, aregL_guard, awpL_region, awpL_seq, aop_move, aop_binOp, aop_call, acallF_go, ev, cst, putT, gval, abin, bEq, acmp, ptrish, kd, List.getD_cons_zero, List.getD_cons_succ, List.set_cons_zero, List.set_cons_succ, List.getElem?_cons_zero, List.getElem?_cons_succ, List.map_nil, List.append_nil, Bool.not_true, Bool.not_false, beq_self_eq_true]
    refine awake_ok.go ⟨⟩ (WK.now ?_)
    simp only [Kat_go, Kreg_go, Qseq_normal, Qseq_ret, Vbr_true, aret_ret, aregL_nil, aregL_plain, awpL_ret, aop_assign, aop_pick, ev, cst, putT, List.getD_cons_zero, List.getD_cons_succ, List.set_cons_zero, List.set_cons_succ]
    refine WK.now ?_
    simp only [Tryd.results5, Kcons_go, Kone_go, Kfin_go, aresL_nil, aresL_tmp, allDefr_nil, offs_nil, one?, List.getD_cons_zero, List.getD_cons_succ, and_self, List.toList_toArray]
  · have hl : ids.length ≤ 100 := by have := of_decide_eq_false c; omega
    simp only [Kreg_go, Qseq_normal, aregL_nil, aregL_plain, awpL_skip, awpL_region, awpL_seq, awpL_block, awpL_loop, aop_assign, ev, cst, putT, List.set_cons_zero, List.set_cons_succ]
    refine ALoop.mk (fun n t H ds => ∃ (i : Nat) (L w : List (Int × Int)), n = ids.length - i ∧ i ≤ ids.length ∧ Rl 1000 L w ∧ w.length ≤ i ∧ t = [.d (.slice 1 (ints ids)), .d (.int .i64 id), .dead, .dead, .d (.bool false), .pvar 1 0, .d (.slice 2 (prs (w))), .d (.int .i64 (i : Nat)), .dead, .dead, .dead, .dead, .dead, .dead, .dead, .dead, .dead, .dead, .dead, .dead, .dead, .dead, .dead, .dead, .dead, .dead, .dead, .dead, .dead, .dead, .dead, .dead, .dead, .dead, .dead, .dead, .dead, .dead, .dead, .dead, .dead, .dead, .dead, .dead, .dead, .dead, .dead, .dead, .dead, .dead, .dead, .dead, .dead, .dead, .dead, .dead, .dead, .dead, .dead, .dead, .dead, .dead, .dead, .dead, .dead, .dead, .dead, .dead, .dead, .dead, .dead, .dead, .dead, .dead, .dead, .dead, .dead, .dead, .dead, .dead, .dead, .dead, .dead, .dead, .dead, .dead, .dead, .dead, .dead, .dead, .dead, .dead, .dead, .dead, .dead, .dead, .dead, .dead, .dead, .dead, .dead, .dead, .dead, .dead, .dead, .dead, .dead, .dead, .dead, .dead, .dead, .dead, .dead, .dead, .dead, .dead, .dead, .dead, .dead] ∧ H = Tb fI 1000 L ∧ ds = []) ids.length
      (WK.nild 6 2 rfl (WK.fgt (t' := [.d (.slice 1 (ints ids)), .d (.int .i64 id), .dead, .dead, .d (.bool false), .pvar 1 0, .d (.slice 2 (prs ([]))), .d (.int .i64 (0 : Nat)), .dead, .dead, .dead, .dead, .dead, .dead, .dead, .dead, .dead, .dead, .dead, .dead, .dead, .dead, .dead, .dead, .dead, .dead, .dead, .dead, .dead, .dead, .dead, .dead, .dead, .dead, .dead, .dead, .dead, .dead, .dead, .dead, .dead, .dead, .dead, .dead, .dead, .dead, .dead, .dead, .dead, .dead, .dead, .dead, .dead, .dead, .dead, .dead, .dead, .dead, .dead, .dead, .dead, .dead, .dead, .dead, .dead, .dead, .dead, .dead, .dead, .dead, .dead, .dead, .dead, .dead, .dead, .dead, .dead, .dead, .dead, .dead, .dead, .dead, .dead, .dead, .dead, .dead, .dead, .dead, .dead, .dead, .dead, .dead, .dead, .dead, .dead, .dead, .dead, .dead, .dead, .dead, .dead, .dead, .dead, .dead, .dead, .dead, .dead, .dead, .dead, .dead, .dead, .dead, .dead, .dead, .dead, .dead, .dead, .dead, .dead]) (by simp [fgt, prs]) (WK.now ⟨0, [], [], by omega, by omega, Rl.empty (by omega), by simp, rfl, rfl, rfl⟩))) ?_
    rintro n t H ds ⟨i, L, w, rfl, hi, hR, hw, rfl, rfl, rfl⟩
    have hL := hR.len
    have hroom : (0 : Int) ≤ 1000 ∧ (1000 : Int) ≤ 9223372036854775807 ∧ L.length ≤ 4611686018427387904 := ⟨by omega, by omega, by omega⟩
    simp only [ints_length, ty45, T45, ints_length, Int.ofNat_lt, Kat_go, Kreg_go, Qseq_normal, aregL_nil, aregL_plain, awpL_region, awpL_seq, awpL_cond, aop_move, aop_binOp, aop_len, apureCall, ev, putT, abin, aint, rowLen, alen, kd, List.getD_cons_zero, List.getD_cons_succ, List.set_cons_zero, List.set_cons_succ, true_and]
    refine Kbr.mk (fun c => ?_) (fun c => ?_)
    · have c2 : i < ids.length := by simpa using c
      simp only [c2, cel_ints, ints_length, ty3, T3, ty45, T45, ext21, ints_length, Int.natCast_nonneg, Int.ofNat_lt, Kat_go, Kreg_go, Qseq_normal, aregL_plain, awpL_skip, awpL_region, awpL_seq, awpL_block, aop_move, aop_load, aop_indexAddr, aop_call, acallF_go, ev, putT, rowPtr, aidx, aload, rdRow, ldK, kd, esz, List.getD_cons_zero, List.getD_cons_succ, List.set_cons_zero, List.set_cons_succ, List.map_cons, List.map_nil, List.append_nil, Nat.reduceLT, true_and, Int.toNat_natCast, decide_true]
      refine (addI_ok 1000 L (ids.getD i 0) i hroom).thus (WK.now ?_)
      simp only [c2, cel_ints, ints_length, ty3, T3, ty41, T41, ty45, T45, ext22, ints_length, Int.natCast_nonneg, Int.ofNat_lt, Kat_go, Kreg_go, Qseq_normal, aregL_nil, aregL_plain, awpL_region, aop_move, aop_load, aop_indexAddr, aop_build, aop_call, acallF_go, ev, cst, putT, rowPtr, aidx, aload, rdRow, ldK, kd, esz, abuild, zeroC, aplace, afill, splice, AV.cells, D.cells, mkAgg, allD, known, List.getD_cons_zero, List.getD_cons_succ, List.set_cons_zero, List.set_cons_succ, List.getElem?_cons_zero, List.getElem?_cons_succ, List.length_cons, List.length_nil, List.map_cons, List.map_nil, List.cons_append, List.nil_append, List.append_nil, List.take_succ_cons, List.take_zero, List.drop_succ_cons, List.drop_zero, List.drop_nil, List.all_cons, List.all_nil, Nat.reduceAdd, Nat.reduceLeDiff, Nat.reduceLT, Option.isSome_some, Bool.and_true, true_and, if_true, Nat.zero_add, Int.toNat_natCast, and_self]
      refine (radd_ok w 1000 (ids.getD i 0) i (by unfold Sz; omega)).go (by first | exact ⟨.inl rfl, trivial⟩ | exact ⟨.inl rfl, .inl rfl, trivial⟩ | exact ⟨.inl rfl, .inl rfl, .inl rfl, trivial⟩ | simp [argsOk, argOk, sl, sll]) (WK.now ?_)
      simp only [spr, succ64 c2 (show ids.length ≤ 4611686018427387904 by omega), Qloop_normal, Kat_go, Kreg_go, Qseq_normal, Qblk_normal, aregL_nil, aregL_plain, awpL_region, aop_move, aop_assign, aop_binOp, aop_extract, ev, cst, putT, abin, aint, aext, List.getD_cons_zero, List.getD_cons_succ, List.set_cons_zero, List.set_cons_succ, List.getElem?_cons_zero, List.getElem?_cons_succ, true_and]
      have hR' := (hR.add (k := ids.getD i 0) (v := (i : Int))).1
      have hlen := raddL_length w 1000 (ids.getD i 0, (i : Int))
      exact ⟨ids.length - (i + 1), by omega, WK.fgt (t' := [.d (.slice 1 (ints ids)), .d (.int .i64 id), .dead, .dead, .d (.bool false), .pvar 1 0, .d (.slice 2 (prs (raddL w 1000 (ids.getD i 0, (i : Int))))), .d (.int .i64 (i + 1 : Nat)), .dead, .dead, .dead, .dead, .dead, .dead, .dead, .dead, .dead, .dead, .dead, .dead, .dead, .dead, .dead, .dead, .dead, .dead, .dead, .dead, .dead, .dead, .dead, .dead, .dead, .dead, .dead, .dead, .dead, .dead, .dead, .dead, .dead, .dead, .dead, .dead, .dead, .dead, .dead, .dead, .dead, .dead, .dead, .dead, .dead, .dead, .dead, .dead, .dead, .dead, .dead, .dead, .dead, .dead, .dead, .dead, .dead, .dead, .dead, .dead, .dead, .dead, .dead, .dead, .dead, .dead, .dead, .dead, .dead, .dead, .dead, .dead, .dead, .dead, .dead, .dead, .dead, .dead, .dead, .dead, .dead, .dead, .dead, .dead, .dead, .dead, .dead, .dead, .dead, .dead, .dead, .dead, .dead, .dead, .dead, .dead, .dead, .dead, .dead, .dead, .dead, .dead, .dead, .dead, .dead, .dead, .dead, .dead, .dead, .dead, .dead]) (by simp [fgt]) (WK.now ⟨i + 1, _, _, rfl, by omega, hR', by omega, rfl, rfl, rfl⟩)⟩
    · have c2 : ¬ i < ids.length := by simpa using c
      simp only [ext23, Qloop_exit, Kreg_go, Qseq_normal, Qseq_exit, Qblk_exit, aregL_plain, awpL_region, awpL_seq, awpL_exit, aop_move, aop_call, acallF_go, ev, putT, List.getD_cons_zero, List.getD_cons_succ, List.set_cons_zero, List.set_cons_succ, List.map_cons, List.map_nil, List.append_nil, if_true]
      refine (removeI_ok 1000 L id).thus (WK.now ?_)
      simp only [ext23, Kat_go, Kreg_go, Qseq_normal, aregL_nil, aregL_plain, awpL_region, awpL_seq, aop_move, aop_assign, aop_extract, aop_call, acallF_go, ev, putT, aext, List.getD_cons_zero, List.getD_cons_succ, List.set_cons_zero, List.set_cons_succ, List.map_cons, List.map_nil, List.append_nil]
      refine (removeI_ok 1000 (ldel L id) id).thus (WK.now ?_)
      have hwl : w.length ≤ 100 := by omega
      have hdn : lget (ldel L id) id = none := by
        rw [lget_none]
        intro hm
        obtain ⟨p, hp, he⟩ := List.mem_map.1 hm
        exact ((ldel_mem hR.nd).1 hp).2 he
      have hdd : ldel (ldel L id) id = ldel L id := ldel_none (by rw [hdn]; rfl)
      have hgw : lget w id = lget L id := (hR.get id).symm
      cases hv : lget L id with
      | none =>
        have hr : decide (rfind w id ≥ 0) = false := by rw [rfind_geq, hgw, hv]; rfl
        have hd1 : ldel L id = L := ldel_none (by rw [hv]; rfl)
        simp only [gotI, hd1, hv, ext24, Kat_go, Kreg_go, Qseq_normal, aregL_nil, aregL_plain, awpL_region, awpL_seq, aop_move, aop_assign, aop_extract, aop_call, acallF_go, ev, putT, aext, List.getD_cons_zero, List.getD_cons_succ, List.set_cons_zero, List.set_cons_succ, List.getElem?_cons_zero, List.getElem?_cons_succ, List.map_cons, List.map_nil, List.append_nil, Option.getD_none, Option.isSome_none]
        refine (find_ok w id (by unfold Sz; omega)).go (by first | exact ⟨.inl rfl, trivial⟩ | exact ⟨.inl rfl, .inl rfl, trivial⟩ | exact ⟨.inl rfl, .inl rfl, .inl rfl, trivial⟩ | simp [argsOk, argOk, sl, sll]) (WK.now ?_)
        simp only [hr, ty4, T4, Kat_go, Kreg_go, Qseq_normal, Kbr_true, Kbr_false, Vbr_false, Kgo_go, Kno_go, aregL_nil, aregL_plain, aregL_guard, awpL_skip, awpL_region, awpL_seq, awpL_cond, awpL_block, awpL_loop, aop_move, aop_assign, aop_pick, aop_binOp, ev, cst, putT, gval, abin, aint, bEq, kd, List.getD_cons_zero, List.getD_cons_succ, List.set_cons_zero, List.set_cons_succ, List.getElem?_cons_zero, List.getElem?_cons_succ, Bool.not_true, Bool.not_false, beq_self_eq_true, true_and, Bool.false_beq]
        refine ALoop.mk (fun n t H ds => ∃ (j : Nat), n = w.length - j ∧ j ≤ w.length ∧ t = [.d (.slice 1 (ints ids)), .d (.int .i64 id), .dead, .dead, .d (.bool false), .pvar 1 0, .d (.slice 2 (prs w)), .dead, .dead, .dead, .dead, .dead, .d (.int .i64 (j : Nat)), .dead, .dead, .dead, .dead, .dead, .dead, .dead, .dead, .dead, .dead, .dead, .dead, .dead, .dead, .dead, .dead, .dead, .dead, .dead, .dead, .dead, .dead, .dead, .dead, .dead, .dead, .dead, .dead, .dead, .dead, .dead, .dead, .dead, .dead, .dead, .dead, .dead, .dead, .dead, .dead, .dead, .dead, .dead, .dead, .dead, .dead, .dead, .dead, .dead, .dead, .dead, .dead, .dead, .dead, .dead, .dead, .dead, .dead, .dead, .dead, .dead, .dead, .dead, .dead, .dead, .dead, .dead, .dead, .dead, .dead, .dead, .dead, .dead, .dead, .dead, .dead, .dead, .dead, .dead, .dead, .dead, .dead, .dead, .dead, .dead, .dead, .dead, .dead, .dead, .dead, .dead, .dead, .dead, .dead, .dead, .dead, .dead, .dead, .dead, .dead, .dead, .dead, .dead, .dead, .dead, .dead] ∧ H = Tb fI 1000 (L) ∧ ds = []) w.length
          (WK.fgt (t' := [.d (.slice 1 (ints ids)), .d (.int .i64 id), .dead, .dead, .d (.bool false), .pvar 1 0, .d (.slice 2 (prs w)), .dead, .dead, .dead, .dead, .dead, .d (.int .i64 (0 : Nat)), .dead, .dead, .dead, .dead, .dead, .dead, .dead, .dead, .dead, .dead, .dead, .dead, .dead, .dead, .dead, .dead, .dead, .dead, .dead, .dead, .dead, .dead, .dead, .dead, .dead, .dead, .dead, .dead, .dead, .dead, .dead, .dead, .dead, .dead, .dead, .dead, .dead, .dead, .dead, .dead, .dead, .dead, .dead, .dead, .dead, .dead, .dead, .dead, .dead, .dead, .dead, .dead, .dead, .dead, .dead, .dead, .dead, .dead, .dead, .dead, .dead, .dead, .dead, .dead, .dead, .dead, .dead, .dead, .dead, .dead, .dead, .dead, .dead, .dead, .dead, .dead, .dead, .dead, .dead, .dead, .dead, .dead, .dead, .dead, .dead, .dead, .dead, .dead, .dead, .dead, .dead, .dead, .dead, .dead, .dead, .dead, .dead, .dead, .dead, .dead, .dead, .dead, .dead, .dead, .dead, .dead]) (by simp [fgt]) (WK.now ⟨0, by omega, by omega, rfl, rfl, rfl⟩)) ?_
        rintro n t H ds ⟨j, rfl, hj, rfl, rfl, rfl⟩
        simp only [prs_length, ty37, T37, Int.ofNat_lt, Kat_go, Kreg_go, Qseq_normal, aregL_nil, aregL_plain, awpL_region, awpL_seq, awpL_cond, aop_move, aop_binOp, aop_len, apureCall, ev, putT, abin, aint, rowLen, alen, kd, List.getD_cons_zero, List.getD_cons_succ, List.set_cons_zero, List.set_cons_succ, true_and]
        refine Kbr.mk (fun c => ?_) (fun c => ?_)
        · have c3 : j < w.length := by simpa [prs_length] using c
          simp only [c3, cel_prs0, prs_length, ty3, T3, ty41, T41, ty37, T37, ext25, Int.natCast_nonneg, Int.ofNat_lt, Kat_go, Kreg_go, Qseq_normal, aregL_plain, awpL_skip, awpL_region, awpL_seq, awpL_block, aop_move, aop_load, aop_fieldAddr, aop_indexAddr, aop_call, acallF_go, ev, putT, rowPtr, aidx, fld, afldAddr, aload, rdRow, ldK, kd, esz, List.getD_cons_zero, List.getD_cons_succ, List.set_cons_zero, List.set_cons_succ, List.getElem?_cons_zero, List.map_cons, List.map_nil, List.append_nil, Nat.reduceLT, true_and, reduceCtorEq, ne_eq, not_false_eq_true, Nat.add_zero, Int.toNat_natCast, decide_true]
          have hget : lget (L) (w.getD j (0, 0)).1 = some (w.getD j (0, 0)).2 := by
            rw [hR.get, lget_mem hR.ndw]
            rw [List.getD_eq_getElem?_getD, List.getElem?_eq_getElem c3]
            exact List.getElem_mem c3
          refine (getI_ok 1000 (L) (w.getD j (0, 0)).1).thus (WK.now ?_)
          simp only [gotI, hget, c3, cel_prs1, succ64 c3 (show w.length ≤ 4611686018427387904 by omega), prs_length, ty3, T3, ty41, T41, ty37, T37, Qloop_normal, Int.natCast_nonneg, Int.ofNat_lt, Kat_go, Kreg_go, Qseq_normal, Qblk_normal, Kbr_true, Kbr_false, Vbr_false, Kgo_go, aregL_nil, aregL_plain, aregL_guard, awpL_skip, awpL_region, awpL_seq, awpL_cond, aop_move, aop_assign, aop_pick, aop_load, aop_binOp, aop_unOp, aop_fieldAddr, aop_indexAddr, aop_extract, ev, cst, putT, gval, abin, aint, aun, rowPtr, aidx, fld, afldAddr, aext, aload, rdRow, ldK, kd, esz, List.getD_cons_zero, List.getD_cons_succ, List.set_cons_zero, List.set_cons_succ, List.getElem?_cons_zero, List.getElem?_cons_succ, Nat.reduceLT, Option.isSome_some, Bool.not_true, Bool.not_false, beq_self_eq_true, bne_self_eq_false, true_and, reduceCtorEq, ne_eq, not_false_eq_true, Nat.zero_add, Int.toNat_natCast, Option.getD_some]
          exact ⟨w.length - (j + 1), by omega, WK.fgt (t' := [.d (.slice 1 (ints ids)), .d (.int .i64 id), .dead, .dead, .d (.bool false), .pvar 1 0, .d (.slice 2 (prs w)), .dead, .dead, .dead, .dead, .dead, .d (.int .i64 (j + 1 : Nat)), .dead, .dead, .dead, .dead, .dead, .dead, .dead, .dead, .dead, .dead, .dead, .dead, .dead, .dead, .dead, .dead, .dead, .dead, .dead, .dead, .dead, .dead, .dead, .dead, .dead, .dead, .dead, .dead, .dead, .dead, .dead, .dead, .dead, .dead, .dead, .dead, .dead, .dead, .dead, .dead, .dead, .dead, .dead, .dead, .dead, .dead, .dead, .dead, .dead, .dead, .dead, .dead, .dead, .dead, .dead, .dead, .dead, .dead, .dead, .dead, .dead, .dead, .dead, .dead, .dead, .dead, .dead, .dead, .dead, .dead, .dead, .dead, .dead, .dead, .dead, .dead, .dead, .dead, .dead, .dead, .dead, .dead, .dead, .dead, .dead, .dead, .dead, .dead, .dead, .dead, .dead, .dead, .dead, .dead, .dead, .dead, .dead, .dead, .dead, .dead, .dead, .dead, .dead, .dead, .dead, .dead]) (by simp [fgt]) (WK.now ⟨j + 1, rfl, by omega, rfl, rfl, rfl⟩)⟩
        · have hlw : (L).length = w.length := hR.len
          simp only [ext19, Qloop_exit, Kreg_go, Qseq_normal, Qseq_exit, Qblk_exit, aregL_plain, awpL_region, awpL_seq, awpL_exit, aop_move, aop_call, acallF_go, ev, putT, List.getD_cons_zero, List.getD_cons_succ, List.set_cons_zero, List.set_cons_succ, List.map_cons, List.map_nil, List.append_nil, if_true]
          refine (lenI_ok 1000 (L)).thus (WK.now ?_)
          simp only [hlw, prs_length, ty37, T37, Kat_go, Kreg_go, Qseq_normal, aret_ret, aregL_nil, aregL_plain, awpL_ret, aop_move, aop_assign, aop_binOp, aop_len, apureCall, ev, putT, abin, aint, rowLen, alen, kd, List.getD_cons_zero, List.getD_cons_succ, List.set_cons_zero, List.set_cons_succ, beq_self_eq_true, true_and]
          refine WK.now ?_
          simp only [Tryd.results5, Kcons_go, Kone_go, Kfin_go, aresL_nil, aresL_tmp, allDefr_nil, offs_nil, one?, List.getD_cons_zero, List.getD_cons_succ, and_self, List.toList_toArray]
      | some u =>
        have hr : decide (rfind w id ≥ 0) = true := by rw [rfind_geq, hgw, hv]; rfl
        simp only [gotI, hdn, hdd, hv, ext24, Kat_go, Kreg_go, Qseq_normal, aregL_nil, aregL_plain, awpL_region, awpL_seq, aop_move, aop_assign, aop_extract, aop_call, acallF_go, ev, putT, aext, List.getD_cons_zero, List.getD_cons_succ, List.set_cons_zero, List.set_cons_succ, List.getElem?_cons_zero, List.getElem?_cons_succ, List.map_cons, List.map_nil, List.append_nil, Option.isSome_some, Option.getD_some, Option.getD_none, Option.isSome_none]
        refine (find_ok w id (by unfold Sz; omega)).go (by first | exact ⟨.inl rfl, trivial⟩ | exact ⟨.inl rfl, .inl rfl, trivial⟩ | exact ⟨.inl rfl, .inl rfl, .inl rfl, trivial⟩ | simp [argsOk, argOk, sl, sll]) (WK.now ?_)
        simp only [hr, ty4, T4, ext21, Kat_go, Kreg_go, Kbr_true, Vbr_false, Kgo_go, aregL_plain, aregL_guard, aop_move, aop_pick, aop_binOp, aop_call, acallF_go, ev, cst, putT, gval, abin, aint, bEq, kd, List.getD_cons_zero, List.getD_cons_succ, List.set_cons_zero, List.set_cons_succ, List.getElem?_cons_zero, List.getElem?_cons_succ, List.map_cons, List.map_nil, List.append_nil, Bool.not_true, Bool.not_false, beq_self_eq_true, true_and]
        obtain ⟨hae, hRb⟩ := hR.back hv
        have hdl : (ldel L id).length ≤ L.length := by rw [ldel_length]; split <;> omega
        refine (addI_ok 1000 (ldel L id) id u ⟨by omega, by omega, by omega⟩).thus (WK.now ?_)
        simp only [hae, errD, ty27, T27, Kat_go, Kreg_go, Qseq_normal, Kbr_true, Kbr_false, Vbr_true, Vbr_false, Kgo_go, aregL_nil, aregL_plain, aregL_guard, awpL_skip, awpL_region, awpL_seq, awpL_cond, awpL_block, awpL_loop, aop_assign, aop_pick, aop_binOp, ev, cst, putT, gval, abin, bEq, acmp, ifaceish, isC, kd, List.getD_cons_zero, List.getD_cons_succ, List.set_cons_zero, List.set_cons_succ, List.getElem?_cons_zero, List.getElem?_cons_succ, Bool.or_true, Bool.not_true, Bool.not_false, beq_self_eq_true, true_and]
        refine ALoop.mk (fun n t H ds => ∃ (j : Nat), n = w.length - j ∧ j ≤ w.length ∧ t = [.d (.slice 1 (ints ids)), .d (.int .i64 id), .dead, .dead, .d (.bool false), .pvar 1 0, .d (.slice 2 (prs w)), .dead, .dead, .dead, .dead, .dead, .d (.int .i64 (j : Nat)), .dead, .dead, .dead, .dead, .dead, .dead, .dead, .dead, .dead, .dead, .dead, .dead, .dead, .dead, .dead, .dead, .dead, .dead, .dead, .dead, .dead, .dead, .dead, .dead, .dead, .dead, .dead, .dead, .dead, .dead, .dead, .dead, .dead, .dead, .dead, .dead, .dead, .dead, .dead, .dead, .dead, .dead, .dead, .dead, .dead, .dead, .dead, .dead, .dead, .dead, .dead, .dead, .dead, .dead, .dead, .dead, .dead, .dead, .dead, .dead, .dead, .dead, .dead, .dead, .dead, .dead, .dead, .dead, .dead, .dead, .dead, .dead, .dead, .dead, .dead, .dead, .dead, .dead, .dead, .dead, .dead, .dead, .dead, .dead, .dead, .dead, .dead, .dead, .dead, .dead, .dead, .dead, .dead, .dead, .dead, .dead, .dead, .dead, .dead, .dead, .dead, .dead, .dead, .dead, .dead, .dead] ∧ H = Tb fI 1000 (addL 1000 (ldel L id) id u) ∧ ds = []) w.length
          (WK.fgt (t' := [.d (.slice 1 (ints ids)), .d (.int .i64 id), .dead, .dead, .d (.bool false), .pvar 1 0, .d (.slice 2 (prs w)), .dead, .dead, .dead, .dead, .dead, .d (.int .i64 (0 : Nat)), .dead, .dead, .dead, .dead, .dead, .dead, .dead, .dead, .dead, .dead, .dead, .dead, .dead, .dead, .dead, .dead, .dead, .dead, .dead, .dead, .dead, .dead, .dead, .dead, .dead, .dead, .dead, .dead, .dead, .dead, .dead, .dead, .dead, .dead, .dead, .dead, .dead, .dead, .dead, .dead, .dead, .dead, .dead, .dead, .dead, .dead, .dead, .dead, .dead, .dead, .dead, .dead, .dead, .dead, .dead, .dead, .dead, .dead, .dead, .dead, .dead, .dead, .dead, .dead, .dead, .dead, .dead, .dead, .dead, .dead, .dead, .dead, .dead, .dead, .dead, .dead, .dead, .dead, .dead, .dead, .dead, .dead, .dead, .dead, .dead, .dead, .dead, .dead, .dead, .dead, .dead, .dead, .dead, .dead, .dead, .dead, .dead, .dead, .dead, .dead, .dead, .dead, .dead, .dead, .dead, .dead]) (by simp [fgt]) (WK.now ⟨0, by omega, by omega, rfl, rfl, rfl⟩)) ?_
        rintro n t H ds ⟨j, rfl, hj, rfl, rfl, rfl⟩
        simp only [prs_length, ty37, T37, Int.ofNat_lt, Kat_go, Kreg_go, Qseq_normal, aregL_nil, aregL_plain, awpL_region, awpL_seq, awpL_cond, aop_move, aop_binOp, aop_len, apureCall, ev, putT, abin, aint, rowLen, alen, kd, List.getD_cons_zero, List.getD_cons_succ, List.set_cons_zero, List.set_cons_succ, true_and]
        refine Kbr.mk (fun c => ?_) (fun c => ?_)
        · have c3 : j < w.length := by simpa [prs_length] using c
          simp only [c3, cel_prs0, prs_length, ty3, T3, ty41, T41, ty37, T37, ext25, Int.natCast_nonneg, Int.ofNat_lt, Kat_go, Kreg_go, Qseq_normal, aregL_plain, awpL_skip, awpL_region, awpL_seq, awpL_block, aop_move, aop_load, aop_fieldAddr, aop_indexAddr, aop_call, acallF_go, ev, putT, rowPtr, aidx, fld, afldAddr, aload, rdRow, ldK, kd, esz, List.getD_cons_zero, List.getD_cons_succ, List.set_cons_zero, List.set_cons_succ, List.getElem?_cons_zero, List.map_cons, List.map_nil, List.append_nil, Nat.reduceLT, true_and, reduceCtorEq, ne_eq, not_false_eq_true, Nat.add_zero, Int.toNat_natCast, decide_true]
          have hget : lget (addL 1000 (ldel L id) id u) (w.getD j (0, 0)).1 = some (w.getD j (0, 0)).2 := by
            rw [hRb.get, lget_mem hR.ndw]
            rw [List.getD_eq_getElem?_getD, List.getElem?_eq_getElem c3]
            exact List.getElem_mem c3
          refine (getI_ok 1000 (addL 1000 (ldel L id) id u) (w.getD j (0, 0)).1).thus (WK.now ?_)
          simp only [gotI, hget, c3, cel_prs1, succ64 c3 (show w.length ≤ 4611686018427387904 by omega), prs_length, ty3, T3, ty41, T41, ty37, T37, Qloop_normal, Int.natCast_nonneg, Int.ofNat_lt, Kat_go, Kreg_go, Qseq_normal, Qblk_normal, Kbr_true, Kbr_false, Vbr_false, Kgo_go, aregL_nil, aregL_plain, aregL_guard, awpL_skip, awpL_region, awpL_seq, awpL_cond, aop_move, aop_assign, aop_pick, aop_load, aop_binOp, aop_unOp, aop_fieldAddr, aop_indexAddr, aop_extract, ev, cst, putT, gval, abin, aint, aun, rowPtr, aidx, fld, afldAddr, aext, aload, rdRow, ldK, kd, esz, List.getD_cons_zero, List.getD_cons_succ, List.set_cons_zero, List.set_cons_succ, List.getElem?_cons_zero, List.getElem?_cons_succ, Nat.reduceLT, Option.isSome_some, Bool.not_true, Bool.not_false, beq_self_eq_true, bne_self_eq_false, true_and, reduceCtorEq, ne_eq, not_false_eq_true, Nat.zero_add, Int.toNat_natCast, Option.getD_some]
          exact ⟨w.length - (j + 1), by omega, WK.fgt (t' := [.d (.slice 1 (ints ids)), .d (.int .i64 id), .dead, .dead, .d (.bool false), .pvar 1 0, .d (.slice 2 (prs w)), .dead, .dead, .dead, .dead, .dead, .d (.int .i64 (j + 1 : Nat)), .dead, .dead, .dead, .dead, .dead, .dead, .dead, .dead, .dead, .dead, .dead, .dead, .dead, .dead, .dead, .dead, .dead, .dead, .dead, .dead, .dead, .dead, .dead, .dead, .dead, .dead, .dead, .dead, .dead, .dead, .dead, .dead, .dead, .dead, .dead, .dead, .dead, .dead, .dead, .dead, .dead, .dead, .dead, .dead, .dead, .dead, .dead, .dead, .dead, .dead, .dead, .dead, .dead, .dead, .dead, .dead, .dead, .dead, .dead, .dead, .dead, .dead, .dead, .dead, .dead, .dead, .dead, .dead, .dead, .dead, .dead, .dead, .dead, .dead, .dead, .dead, .dead, .dead, .dead, .dead, .dead, .dead, .dead, .dead, .dead, .dead, .dead, .dead, .dead, .dead, .dead, .dead, .dead, .dead, .dead, .dead, .dead, .dead, .dead, .dead, .dead, .dead, .dead, .dead, .dead, .dead]) (by simp [fgt]) (WK.now ⟨j + 1, rfl, by omega, rfl, rfl, rfl⟩)⟩
        · have hlw : (addL 1000 (ldel L id) id u).length = w.length := hRb.len
          simp only [ext19, Qloop_exit, Kreg_go, Qseq_normal, Qseq_exit, Qblk_exit, aregL_plain, awpL_region, awpL_seq, awpL_exit, aop_move, aop_call, acallF_go, ev, putT, List.getD_cons_zero, List.getD_cons_succ, List.set_cons_zero, List.set_cons_succ, List.map_cons, List.map_nil, List.append_nil, if_true]
          refine (lenI_ok 1000 (addL 1000 (ldel L id) id u)).thus (WK.now ?_)
          simp only [hlw, prs_length, ty37, T37, Kat_go, Kreg_go, Qseq_normal, aret_ret, aregL_nil, aregL_plain, awpL_ret, aop_move, aop_assign, aop_binOp, aop_len, apureCall, ev, putT, abin, aint, rowLen, alen, kd, List.getD_cons_zero, List.getD_cons_succ, List.set_cons_zero, List.set_cons_succ, beq_self_eq_true, true_and]
          refine WK.now ?_
          simp only [Tryd.results5, Kcons_go, Kone_go, Kfin_go, aresL_nil, aresL_tmp, allDefr_nil, offs_nil, one?, List.getD_cons_zero, List.getD_cons_succ, and_self, List.toList_toArray]
end Go.Proofs.YtdmdjiaocbccpaaDoor
