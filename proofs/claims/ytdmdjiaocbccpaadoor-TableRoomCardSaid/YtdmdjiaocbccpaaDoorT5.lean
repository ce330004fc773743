/-
  The walks of the reference implementation's changes of a list of pairs.
-/
import Derived.Test.YtdmdjiaocbccpaaDoorT4
set_option autoImplicit false
set_option linter.unusedVariables false
set_option linter.unusedSimpArgs false
namespace Go.Proofs.YtdmdjiaocbccpaaDoor
open Go.Abs

/-- A pair goes in before the first one that has no lesser id. -/
def ins (l : List (Int × Int)) (p : Int × Int) : List (Int × Int) := l.takeWhile (fun q => decide (q.1 < p.1)) ++ [p] ++ l.dropWhile (fun q => decide (q.1 < p.1))
theorem while_at {α : Type} (q : α → Bool) : ∀ (l : List α) (i : Nat), (∀ j x, j < i → l[j]? = some x → q x = true) → i ≤ l.length → (∀ x, l[i]? = some x → q x = false) → l.takeWhile q = l.take i ∧ l.dropWhile q = l.drop i
  | [], i, _, h, _ => by simp
  | a :: l, 0, _, _, h => by
    have := h a rfl
    simp [this]
  | a :: l, i + 1, h1, h2, h3 => by
    have ha := h1 0 a (by omega) rfl
    obtain ⟨k1, k2⟩ := while_at q l i (fun j x hj hx => h1 (j + 1) x (by omega) (by simpa using hx)) (by simpa using h2) (fun x hx => h3 x (by simpa using hx))
    simp [ha, k1, k2]
def raddE (l : List (Int × Int)) (size : Int) (p : Int × Int) : Int := if 0 ≤ rfind l p.1 then 6 else if size ≤ l.length then 7 else 0
def raddL (l : List (Int × Int)) (size : Int) (p : Int × Int) : List (Int × Int) := if 0 ≤ rfind l p.1 then l else if size ≤ l.length then l else ins l p
theorem ins_prs {l : List (Int × Int)} {a b : Int} {i : Nat} (hi : i ≤ l.length) (hp : ∀ j, j < i → (l.getD j (0, 0)).1 < a) (hx : i < l.length → ¬ (l.getD i (0, 0)).1 < a) :
    List.take i (prs l) ++ [[D.int .i64 a, D.int .i64 b]] ++ List.drop i (List.take l.length (prs l)) = prs (ins l (a, b)) := by
  obtain ⟨h1, h2⟩ := while_at (fun q : Int × Int => decide (q.1 < a)) l i (fun j x hj hx => by
    have := hp j hj
    rw [List.getD_eq_getElem?_getD, hx] at this
    simpa using this) hi (fun x hx' => by
    have hlt := (List.getElem?_eq_some_iff.1 hx').1
    have := hx hlt
    rw [List.getD_eq_getElem?_getD, hx'] at this
    simpa using this)
  have e : List.take l.length (prs l) = prs l := by rw [List.take_of_length_le (by rw [prs_length]; exact Nat.le_refl _)]
  rw [e, ins, h1, h2]
  simp [prs, pr]
theorem radd_ok (l : List (Int × Int)) (size : Int) (a b : Int) (hl : Sz l) : PCall env 22 [spr l, .int .i64 size, .agg [.int .i64 a, .int .i64 b]] (.tup [spr (raddL l size (a, b)), .int .i64 (raddE l size (a, b))]) := by
  refine acalls_of envOk Tryd.func22 rfl (by kernel_rfl) (m := 45) rfl ?_
  simp only [ty3, T3, ty41, T41, ext24, Kat_go, Kreg_go, Qseq_normal, aregL_nil, aregL_plain, awpL_region, awpL_seq, aop_move, aop_assign, aop_load, aop_fieldAddr, aop_box, aop_call, acallF_go, ev, cst, putT, fld, afldAddr, aload, ldK, kd, esz, AV.cells, D.cells, abox, List.getD_cons_zero, List.getD_cons_succ, List.set_cons_zero, List.set_cons_succ, List.getElem?_cons_zero, List.length_nil, List.map_cons, List.map_nil, List.cons_append, List.nil_append, List.append_nil, List.reduceReplicate, true_and, reduceCtorEq, ne_eq, not_false_eq_true, Nat.add_zero]
  refine (find_ok l a hl).go (by first | exact ⟨.inl rfl, trivial⟩ | exact ⟨.inl rfl, .inl rfl, trivial⟩ | exact ⟨.inl rfl, .inl rfl, .inl rfl, trivial⟩ | simp [argsOk, argOk, sl, sll]) (WK.now ?_)
  simp only [Kat_go, Kreg_go, Qseq_normal, aregL_nil, aregL_plain, awpL_cond, aop_binOp, ev, cst, putT, abin, aint, List.getD_cons_zero, List.getD_cons_succ, List.set_cons_zero, List.set_cons_succ, true_and]
  refine Kbr.mk (fun c => ?_) (fun c => ?_)
  · have c1 : 0 ≤ rfind l a := of_decide_eq_true c
    simp only [Kreg_go, Qseq_normal, Qseq_ret, aret_ret, aregL_nil, aregL_plain, awpL_region, awpL_seq, awpL_ret, aop_move, aop_assign, ev, cst, putT, List.getD_cons_zero, List.getD_cons_succ, List.set_cons_zero, List.set_cons_succ]
    refine WK.now ?_
    simp only [raddE, raddL, c1, Tryd.results22, Kcons_go, Kone_go, Kfin_go, aresL_nil, aresL_tmp, allDefr_nil, offs_nil, mkTup, allD, one?, List.getD_cons_zero, List.getD_cons_succ, if_true, and_self, decide_true, List.toList_toArray]
  · have c1 : ¬ 0 ≤ rfind l a := of_decide_eq_false c
    simp only [spr, prs_length, ty37, T37, Kat_go, Kreg_go, Qseq_normal, aregL_nil, aregL_plain, awpL_skip, awpL_region, awpL_seq, awpL_cond, aop_move, aop_binOp, aop_len, apureCall, ev, putT, abin, aint, rowLen, alen, kd, List.getD_cons_zero, List.getD_cons_succ, List.set_cons_zero, List.set_cons_succ, true_and]
    refine Kbr.mk (fun c => ?_) (fun c => ?_)
    · have c2 : size ≤ l.length := of_decide_eq_true c
      simp only [Kreg_go, Qseq_normal, Qseq_ret, aret_ret, aregL_nil, aregL_plain, awpL_region, awpL_seq, awpL_ret, aop_move, aop_assign, ev, cst, putT, List.getD_cons_zero, List.getD_cons_succ, List.set_cons_zero, List.set_cons_succ]
      refine WK.now ?_
      simp only [raddE, raddL, c1, c2, Tryd.results22, Kcons_go, Kone_go, Kfin_go, aresL_nil, aresL_tmp, allDefr_nil, offs_nil, mkTup, allD, one?, List.getD_cons_zero, List.getD_cons_succ, if_true, if_false, and_self, decide_true, decide_false, List.toList_toArray]
    · have c2 : ¬ size ≤ l.length := of_decide_eq_false c
      simp only [Kreg_go, Qseq_normal, aregL_nil, aregL_plain, awpL_skip, awpL_region, awpL_seq, awpL_block, awpL_loop, aop_assign, ev, cst, putT, List.set_cons_zero, List.set_cons_succ]
      refine ALoop.mk (fun n t H ds => ∃ i : Nat, n = l.length - i ∧ i ≤ l.length ∧ (∀ j, j < i → (l.getD j (0, 0)).1 < a) ∧ t = [.d (.slice 2 (prs l)), .d (.int .i64 size), .dead, .dead, .dead, .pvar 0 0, .d .nils, .d (.int .i64 0), .d (.int .i64 (i : Nat)), .dead, .dead, .dead, .dead, .dead, .dead, .dead, .dead, .dead, .dead, .dead, .dead, .dead, .dead, .dead, .dead, .dead, .dead, .dead, .dead, .dead, .dead, .dead, .dead, .dead, .dead, .dead, .dead, .dead, .dead, .dead, .dead, .dead, .dead, .dead, .dead, .dead, .dead, .dead] ∧ H = [.var [.d (.int .i64 a), .d (.int .i64 b)]] ∧ ds = []) l.length
          (WK.fgt (t' := [.d (.slice 2 (prs l)), .d (.int .i64 size), .dead, .dead, .dead, .pvar 0 0, .d .nils, .d (.int .i64 0), .d (.int .i64 (0 : Nat)), .dead, .dead, .dead, .dead, .dead, .dead, .dead, .dead, .dead, .dead, .dead, .dead, .dead, .dead, .dead, .dead, .dead, .dead, .dead, .dead, .dead, .dead, .dead, .dead, .dead, .dead, .dead, .dead, .dead, .dead, .dead, .dead, .dead, .dead, .dead, .dead, .dead, .dead, .dead]) (by simp [fgt]) (WK.now ⟨0, by omega, by omega, by omega, rfl, rfl, rfl⟩)) ?_
      rintro n t H ds ⟨i, rfl, hi, hp, rfl, rfl, rfl⟩
      simp only [awpL_draw, awpL_seq]
      refine DRegL.one (by unfold DrawOK; kernel_rfl) ?_
      simp only [prs_length, ty37, T37, Int.ofNat_lt, Kdr_go, adrawL_plain, adrawL_guard, qop_move, qop_binOp, qop_len, apureCall, ev, putT, gval, abin, aint, rowLen, alen, kd, isEff, qpre, qtail, List.getD_cons_zero, List.getD_cons_succ, List.set_cons_zero, List.set_cons_succ, List.getElem?_cons_zero, List.getElem?_cons_succ, Bool.not_true, true_and]
      refine Kbr.mk (fun c => ?_) (fun c => ?_)
      · have c3 : i < l.length := by simpa using c
        simp only [c3, cel_prs0, prs_length, ty3, T3, ty41, T41, ty37, T37, Int.natCast_nonneg, Int.ofNat_lt, Kdr_go, Qseq_normal, Kbr_true, Vbr_true, Dgo_go, aregL_nil, adrawL_nil, adrawL_plain, adrawL_guard, awpL_cond, qop_move, qop_pick, qop_load, qop_binOp, qop_fieldAddr, qop_indexAddr, ev, cst, putT, gval, abin, aint, rowPtr, aidx, fld, afldAddr, aload, rdRow, ldK, kd, esz, List.getD_cons_zero, List.getD_cons_succ, List.set_cons_zero, List.set_cons_succ, List.getElem?_cons_zero, List.getElem?_cons_succ, Nat.reduceLT, Bool.not_true, beq_self_eq_true, true_and, reduceCtorEq, ne_eq, not_false_eq_true, Nat.add_zero, Int.toNat_natCast, decide_true]
        refine Kbr.mk (fun c => ?_) (fun c => ?_)
        · have c4 : (l.getD i (0, 0)).1 < a := of_decide_eq_true c
          simp only [succ64 c3 (Nat.le_trans hl (by omega)), Qloop_normal, Kat_go, Kreg_go, Qseq_normal, Qblk_normal, aregL_nil, aregL_plain, awpL_skip, awpL_region, awpL_block, aop_move, aop_assign, aop_binOp, ev, cst, putT, abin, aint, List.getD_cons_zero, List.getD_cons_succ, List.set_cons_zero, List.set_cons_succ, true_and]
          refine ⟨l.length - (i + 1), by omega, WK.fgt (t' := [.d (.slice 2 (prs l)), .d (.int .i64 size), .dead, .dead, .dead, .pvar 0 0, .d .nils, .d (.int .i64 0), .d (.int .i64 (i + 1 : Nat)), .dead, .dead, .dead, .dead, .dead, .dead, .dead, .dead, .dead, .dead, .dead, .dead, .dead, .dead, .dead, .dead, .dead, .dead, .dead, .dead, .dead, .dead, .dead, .dead, .dead, .dead, .dead, .dead, .dead, .dead, .dead, .dead, .dead, .dead, .dead, .dead, .dead, .dead, .dead]) (by simp [fgt]) (WK.now ⟨i + 1, rfl, by omega, fun j hj => ?_, rfl, rfl, rfl⟩)⟩
          rcases Nat.lt_succ_iff_lt_or_eq.1 hj with hj | rfl
          · exact hp j hj
          · exact c4
        · have c4 : ¬ (l.getD i (0, 0)).1 < a := of_decide_eq_false c
          simp only [Qloop_exit, Qseq_normal, Qseq_exit, Qblk_exit, awpL_draw, awpL_seq, awpL_exit, if_true]
          refine DRegL.two [0, 1, 2, 3, 5, 6, 8, 9, 10] [4, 7, 11, 12, 13] (by unfold Draw2; kernel_rfl) (by kernel_rfl) (by kernel_rfl) ?_
          simp only [prs_length, ty41, T41, ty37, T37, Int.natCast_nonneg, Kdr_go, Qseq_normal, Kapp_svalf, Kapp_sfull, aret_ret, adrawL_nil, adrawL_plain, awpL_ret, Same_go, Kt_go, Kt0_go, atailL_nil, atailL_plain, pickL_nil, pickL_cons, aop_assign, aop_append, qop_move, qop_load, qop_slice, qop_buildSlice, aapp_go, ev, cst, putT, aslice, optI, aload, ldK, kd, esz, afill, splice, AV.cells, D.cells, mkAgg, allD, abuildS, AV.low, rep, chunk, srcRows, List.getD_cons_zero, List.getD_cons_succ, List.set_cons_zero, List.set_cons_succ, List.getElem?_cons_zero, List.getElem?_cons_succ, List.length_cons, List.length_nil, List.map_cons, List.map_nil, List.cons_append, List.nil_append, List.append_nil, List.take_succ_cons, List.take_zero, List.take_nil, List.drop_succ_cons, List.drop_zero, List.drop_nil, Nat.reduceAdd, Nat.reduceLeDiff, Option.map_some, Option.map_none, true_and, and_true, if_true, reduceCtorEq, ne_eq, not_false_eq_true, Nat.zero_add, Int.toNat_zero, Int.toNat_natCast, Int.reduceLE, Nat.zero_mul, Nat.one_mul, and_self]
          have hr : ∀ n, n ≤ 3000000 → room n 16 := fun n h => room_of (by omega) (by omega)
          have hi' : (i : Int) ≤ (l.length : Int) := by omega
          have hb3 : (i : Int) ≤ (l.length : Int) ∧ (i : Int) ≤ (l.length : Int) ∧ (l.length : Int) ≤ (l.length : Int) := ⟨hi', hi', Int.le_refl _⟩
          refine ⟨hi', hi', Int.le_refl _, .inr trivial, hr _ (by unfold Sz at hl; simp [prs_length]; omega), hb3, hr _ (by unfold Sz at hl; simp [prs_length]; omega), hb3, hr _ (by unfold Sz at hl; simp [prs_length]; omega), hb3, hb3, hb3, ?_⟩
          refine WK.frz 3 rfl (WK.now ?_)
          simp only [Tryd.results22, AV.frzL, AV.frz, AObj.frz, Kcons_go, Kone_go, Kfin_go, aresL_nil, aresL_tmp, allDefr_nil, offs_nil, mkTup, allD, one?, List.getD_cons_zero, List.getD_cons_succ, List.set_cons_zero, List.set_cons_succ, List.map_cons, List.map_nil, Nat.reduceEqDiff, true_and, if_true, if_false, List.toList_toArray]
          rw [ins_prs hi hp (fun _ => c4)]
          simp only [raddE, raddL, c1, c2, if_false]
      · have c3 : ¬ i < l.length := by simpa using c
        simp only [Qloop_exit, Kdr_go, Qseq_normal, Qseq_exit, Qblk_exit, Kbr_false, Vbr_false, Dno_go, aregL_nil, adrawL_nil, adrawL_plain, adrawL_guard, awpL_draw, awpL_seq, awpL_cond, awpL_exit, qop_pick, ev, cst, putT, gval, List.getD_cons_zero, List.getD_cons_succ, List.set_cons_zero, List.set_cons_succ, List.getElem?_cons_zero, List.getElem?_cons_succ, Bool.not_true, if_true, Bool.false_beq]
        refine DRegL.two [0, 1, 2, 3, 5, 6, 8, 9, 10] [4, 7, 11, 12, 13] (by unfold Draw2; kernel_rfl) (by kernel_rfl) (by kernel_rfl) ?_
        simp only [prs_length, ty41, T41, ty37, T37, Int.natCast_nonneg, Kdr_go, Qseq_normal, Kapp_svalf, Kapp_sfull, aret_ret, adrawL_nil, adrawL_plain, awpL_ret, Same_go, Kt_go, Kt0_go, atailL_nil, atailL_plain, pickL_nil, pickL_cons, aop_assign, aop_append, qop_move, qop_load, qop_slice, qop_buildSlice, aapp_go, ev, cst, putT, aslice, optI, aload, ldK, kd, esz, afill, splice, AV.cells, D.cells, mkAgg, allD, abuildS, AV.low, rep, chunk, srcRows, List.getD_cons_zero, List.getD_cons_succ, List.set_cons_zero, List.set_cons_succ, List.getElem?_cons_zero, List.getElem?_cons_succ, List.length_cons, List.length_nil, List.map_cons, List.map_nil, List.cons_append, List.nil_append, List.append_nil, List.take_succ_cons, List.take_zero, List.take_nil, List.drop_succ_cons, List.drop_zero, List.drop_nil, Nat.reduceAdd, Nat.reduceLeDiff, Option.map_some, Option.map_none, true_and, and_true, if_true, reduceCtorEq, ne_eq, not_false_eq_true, Nat.zero_add, Int.toNat_zero, Int.toNat_natCast, Int.reduceLE, Nat.zero_mul, Nat.one_mul, and_self]
        have hr : ∀ n, n ≤ 3000000 → room n 16 := fun n h => room_of (by omega) (by omega)
        have hi' : (i : Int) ≤ (l.length : Int) := by omega
        have hb3 : (i : Int) ≤ (l.length : Int) ∧ (i : Int) ≤ (l.length : Int) ∧ (l.length : Int) ≤ (l.length : Int) := ⟨hi', hi', Int.le_refl _⟩
        refine ⟨hi', hi', Int.le_refl _, .inr trivial, hr _ (by unfold Sz at hl; simp [prs_length]; omega), hb3, hr _ (by unfold Sz at hl; simp [prs_length]; omega), hb3, hr _ (by unfold Sz at hl; simp [prs_length]; omega), hb3, hb3, hb3, ?_⟩
        refine WK.frz 3 rfl (WK.now ?_)
        simp only [Tryd.results22, AV.frzL, AV.frz, AObj.frz, Kcons_go, Kone_go, Kfin_go, aresL_nil, aresL_tmp, allDefr_nil, offs_nil, mkTup, allD, one?, List.getD_cons_zero, List.getD_cons_succ, List.set_cons_zero, List.set_cons_succ, List.map_cons, List.map_nil, Nat.reduceEqDiff, true_and, if_true, if_false, List.toList_toArray]
        rw [ins_prs hi hp (fun h => absurd h c3)]
        simp only [raddE, raddL, c1, c2, if_false]
end Go.Proofs.YtdmdjiaocbccpaaDoor
