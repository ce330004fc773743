/-
  The package node: the fixed examples come out as the documentation says.
-/
import Derived.Test.YtjljjakfebfpfaaDoorNO
set_option autoImplicit false
set_option linter.unusedVariables false
set_option linter.unusedSimpArgs false
namespace Go.Proofs.YtjljjakfebfpfaaDoor
open Go.Abs

theorem nwrong_ok (c a c' a' : Int) : PCall env 47 [errF (some (c, a)), .int .i64 c', .int .i64 a'] (.bool (c == c' && a == a')) := by
  unfold errF
  refine acalls_of envOk Tryd.func47 rfl (by kernel_rfl) (m := 32) rfl ?_
  simp only [ext39, Kreg_go, Qseq_normal, aregL_nil, aregL_plain, awpL_region, awpL_seq, aop_move, aop_assign, aop_call, acallF_go, ev, cst, putT, List.getD_cons_zero, List.getD_cons_succ, List.set_cons_zero, List.set_cons_succ, List.length_nil, List.map_cons, List.map_nil, List.cons_append, List.nil_append, List.append_nil, List.reduceReplicate]
  refine (fcode_ok c a).go (by first | exact ⟨.inl rfl, trivial⟩ | exact ⟨.inl rfl, .inl rfl, trivial⟩ | exact ⟨.inl rfl, .inl rfl, .inl rfl, trivial⟩ | simp [argsOk, argOk, sl, sll]) (WK.now ?_)
  simp only [ext40, Kat_go, Kreg_go, Qseq_normal, aregL_nil, aregL_plain, awpL_region, awpL_seq, aop_move, aop_assign, aop_extract, aop_call, acallF_go, ev, putT, aext, List.getD_cons_zero, List.getD_cons_succ, List.set_cons_zero, List.set_cons_succ, List.getElem?_cons_zero, List.getElem?_cons_succ, List.map_cons, List.map_nil, List.append_nil]
  refine (fat_ok c a).go (by first | exact ⟨.inl rfl, trivial⟩ | exact ⟨.inl rfl, .inl rfl, trivial⟩ | exact ⟨.inl rfl, .inl rfl, .inl rfl, trivial⟩ | simp [argsOk, argOk, sl, sll]) (WK.now ?_)
  simp only [ty3, T3, Kat_go, Kreg_go, Qseq_normal, Kbr_true, Vbr_true, Kgo_go, aregL_nil, aregL_plain, aregL_guard, awpL_region, awpL_seq, aop_move, aop_assign, aop_pick, aop_binOp, aop_extract, ev, cst, putT, gval, aopBin, isSl, abin, aint, aext, kd, List.getD_cons_zero, List.getD_cons_succ, List.set_cons_zero, List.set_cons_succ, List.getElem?_cons_zero, List.getElem?_cons_succ, Bool.not_true, beq_self_eq_true, true_and]
  refine Kbr.mk (fun h => ?_) (fun h => ?_)
  · have h' : (c == c') = true := by simpa using h
    simp only [h', ty3, T3, Kat_go, Kreg_go, Qseq_normal, Kbr_true, Vbr_true, Kgo_go, aret_ret, aregL_nil, aregL_plain, aregL_guard, awpL_ret, aop_move, aop_assign, aop_pick, aop_binOp, ev, cst, putT, gval, aopBin, isSl, abin, aint, kd, List.getD_cons_zero, List.getD_cons_succ, List.set_cons_zero, List.set_cons_succ, List.getElem?_cons_zero, List.getElem?_cons_succ, Bool.true_and, Bool.not_true, beq_self_eq_true, true_and]
    refine WK.now ?_
    simp only [Tryd.results47, Kcons_go, Kone_go, Kfin_go, aresL_nil, aresL_tmp, allDefr_nil, offs_nil, one?, List.getD_cons_zero, List.getD_cons_succ, and_self, List.toList_toArray]
  · have h' : (c == c') = false := by simpa using h
    simp only [h', Kat_go, Kreg_go, Qseq_normal, Kbr_false, Vbr_false, Kno_go, aret_ret, aregL_nil, aregL_plain, aregL_guard, awpL_ret, aop_move, aop_assign, aop_pick, ev, cst, putT, gval, List.getD_cons_zero, List.getD_cons_succ, List.set_cons_zero, List.set_cons_succ, List.getElem?_cons_zero, List.getElem?_cons_succ, Bool.false_and, Bool.not_true, Bool.false_beq]
    refine WK.now ?_
    simp only [Tryd.results47, Kcons_go, Kone_go, Kfin_go, aresL_nil, aresL_tmp, allDefr_nil, offs_nil, one?, List.getD_cons_zero, List.getD_cons_succ, and_self, List.toList_toArray]
theorem nwrong_yes (c a : Int) : PCall env 47 [errF (some (c, a)), .int .i64 c, .int .i64 a] (.bool true) := by
  have := nwrong_ok c a c a
  simpa using this

theorem equal_ok (a b : List Int) (ha : Sz a) : PCall env 48 [sl a, sl b] (.bool (B (a = b))) := by
  refine acalls_of envOk Tryd.func48 rfl (by kernel_rfl) (m := 24) rfl ?_
  simp only [ints_length, ty3, T3, ty66, T66, ints_length, sl, Kat_go, Kreg_go, Qseq_normal, aregL_nil, aregL_plain, awpL_region, awpL_seq, awpL_cond, aop_move, aop_assign, aop_binOp, aop_len, apureCall, ev, cst, putT, aopBin, isSl, abin, aint, rowLen, alen, kd, List.getD_cons_zero, List.getD_cons_succ, List.set_cons_zero, List.set_cons_succ, List.length_nil, List.map_cons, List.map_nil, List.cons_append, List.nil_append, List.reduceReplicate, true_and]
  refine Kbr.mk (fun c => ?_) (fun c => ?_)
  · have c1 : a.length ≠ b.length := by simpa [Int.ofNat_inj] using c
    simp only [Kreg_go, Qseq_normal, Qseq_ret, aret_ret, aregL_nil, aregL_plain, awpL_region, awpL_seq, awpL_ret, aop_assign, ev, cst, putT, List.set_cons_zero, List.set_cons_succ]
    refine WK.now ?_
    simp only [Tryd.results48, Kcons_go, Kone_go, Kfin_go, aresL_nil, aresL_tmp, allDefr_nil, offs_nil, one?, List.getD_cons_zero, List.getD_cons_succ, true_and, List.toList_toArray]
    rw [B_false (fun h => c1 (by rw [h]))]
  · have c1 : a.length = b.length := by simpa [Int.ofNat_inj] using c
    simp only [ints_length, ty66, T66, ints_length, Kat_go, Kreg_go, Qseq_normal, aregL_nil, aregL_plain, awpL_skip, awpL_region, awpL_seq, awpL_block, awpL_loop, aop_move, aop_len, apureCall, ev, cst, putT, rowLen, alen, kd, List.getD_cons_zero, List.getD_cons_succ, List.set_cons_zero, List.set_cons_succ]
    refine ALoop.mk (fun k t H ds => ∃ i : Nat, k = a.length - i ∧ i ≤ a.length ∧ (∀ j, j < i → a.getD j 0 = b.getD j 0) ∧ t = [.d (.slice 1 (ints a)), .d (.slice 1 (ints b)), .dead, .dead, .d (.bool false), .dead, .dead, .dead, .dead, .dead, .dead, .dead, .d (.int .i64 a.length), .d (.int .i64 (i : Nat)), .dead, .dead, .dead, .dead, .dead, .dead, .dead, .dead, .dead, .dead, .dead, .dead] ∧ H = [] ∧ ds = []) a.length
      (WK.fgt (t' := [.d (.slice 1 (ints a)), .d (.slice 1 (ints b)), .dead, .dead, .d (.bool false), .dead, .dead, .dead, .dead, .dead, .dead, .dead, .d (.int .i64 a.length), .d (.int .i64 (0 : Nat)), .dead, .dead, .dead, .dead, .dead, .dead, .dead, .dead, .dead, .dead, .dead, .dead]) (by simp [fgt]) (WK.now ⟨0, by omega, by omega, by omega, rfl, rfl, rfl⟩)) ?_
    rintro k t H ds ⟨i, rfl, hi, hp, rfl, rfl, rfl⟩
    simp only [ty3, T3, Int.ofNat_lt, Kat_go, Kreg_go, Qseq_normal, aregL_nil, aregL_plain, awpL_region, awpL_seq, awpL_cond, aop_binOp, ev, putT, aopBin, isSl, abin, aint, kd, List.getD_cons_zero, List.getD_cons_succ, List.set_cons_zero, List.set_cons_succ, true_and]
    refine Kbr.mk (fun c => ?_) (fun c => ?_)
    · have c2 : i < a.length := by simpa using c
      have c3 : i < b.length := by omega
      simp only [c2, Kreg_go, Qseq_normal, aregL_nil, aregL_plain, awpL_skip, awpL_region, awpL_draw, awpL_seq, awpL_block, aop_move, aop_assign, ev, putT, List.getD_cons_zero, List.getD_cons_succ, List.set_cons_zero, List.set_cons_succ, decide_true]
      refine DRegL.one (by unfold DrawOK; kernel_rfl) ?_
      simp only [c2, c3, cel_ints, ints_length, ty3, T3, ty66, T66, ints_length, Int.natCast_nonneg, Int.ofNat_lt, Kdr_go, Qseq_normal, aregL_nil, adrawL_nil, adrawL_plain, awpL_cond, qop_move, qop_load, qop_binOp, qop_indexAddr, ev, putT, abin, aint, rowPtr, aidx, aload, rdRow, ldK, kd, esz, isEff, qpre, qtail, List.getD_cons_zero, List.getD_cons_succ, List.set_cons_zero, List.set_cons_succ, Nat.reduceLT, true_and, Int.toNat_natCast]
      refine Kbr.mk (fun c => ?_) (fun c => ?_)
      · have c4 : a.getD i 0 ≠ b.getD i 0 := by simpa using c
        simp only [Qloop_ret, Kreg_go, Qseq_normal, Qseq_ret, Qblk_ret, aret_ret, aregL_nil, aregL_plain, awpL_region, awpL_seq, awpL_ret, aop_assign, ev, cst, putT, List.set_cons_zero, List.set_cons_succ]
        refine WK.now ?_
        simp only [Tryd.results48, Kcons_go, Kone_go, Kfin_go, aresL_nil, aresL_tmp, allDefr_nil, offs_nil, one?, List.getD_cons_zero, List.getD_cons_succ, true_and, List.toList_toArray]
        rw [B_false (fun h => c4 (by rw [h]))]
      · have c4 : a.getD i 0 = b.getD i 0 := by simpa using c
        simp only [succ64 c2 (Nat.le_trans ha (by omega)), ty3, T3, Qloop_normal, Kat_go, Kreg_go, Qseq_normal, Qblk_normal, aregL_nil, aregL_plain, awpL_skip, awpL_region, aop_move, aop_binOp, ev, cst, putT, aopBin, isSl, abin, aint, kd, List.getD_cons_zero, List.getD_cons_succ, List.set_cons_zero, List.set_cons_succ, true_and]
        refine ⟨a.length - (i + 1), by omega, WK.fgt (t' := [.d (.slice 1 (ints a)), .d (.slice 1 (ints b)), .dead, .dead, .d (.bool false), .dead, .dead, .dead, .dead, .dead, .dead, .dead, .d (.int .i64 a.length), .d (.int .i64 (i + 1 : Nat)), .dead, .dead, .dead, .dead, .dead, .dead, .dead, .dead, .dead, .dead, .dead, .dead]) (by simp [fgt]) (WK.now ⟨i + 1, rfl, by omega, fun j hj => ?_, rfl, rfl, rfl⟩)⟩
        rcases Nat.lt_succ_iff_lt_or_eq.1 hj with hj | rfl
        · exact hp j hj
        · exact c4
    · have c2 : ¬ i < a.length := by simpa using c
      obtain rfl : i = a.length := by omega
      simp only [Qloop_exit, Kreg_go, Qseq_normal, Qseq_exit, Qblk_exit, aret_ret, aregL_nil, aregL_plain, awpL_region, awpL_seq, awpL_exit, awpL_ret, aop_assign, ev, cst, putT, List.set_cons_zero, List.set_cons_succ, if_true]
      refine WK.now ?_
      simp only [Tryd.results48, Kcons_go, Kone_go, Kfin_go, aresL_nil, aresL_tmp, allDefr_nil, offs_nil, one?, List.getD_cons_zero, List.getD_cons_succ, true_and, List.toList_toArray]
      rw [B_true]
      refine List.ext_getElem c1 fun j g1 g2 => ?_
      have := hp j g1
      simpa [List.getD_eq_getElem?_getD, g1, g2] using this

def N0 : List (Int × Ent) := [(7, (7, [5, 2], [0, 0]))]
def N1 : List (Int × Ent) := [(7, (7, [5, 2], [3, 1]))]
theorem lt2 {P : Nat → Prop} (h0 : P 0) (h1 : P 1) : ∀ k, k < 2 → P k
  | 0, _ => h0
  | 1, _ => h1
  | k + 2, h => absurd h (by omega)
theorem inR2 {a b : Int} (ha : I64 a) (hb : I64 b) : InR [a, b] := inR_of (by simp [ha, hb])
theorem inE_one {k : Int} {e : Ent} (h : InR e.2.1 ∧ InR e.2.2 ∧ Sz e.2.1 ∧ Sz e.2.2) : InE [(k, e)] := fun k' e' h' => by
  simp only [lget, List.find?_cons] at h'
  split at h'
  · simp at h'; subst h'; exact h
  · simp at h'
theorem n0_in : InE N0 := inE_one ⟨inR2 (by unfold I64; omega) (by unfold I64; omega), inR2 (by unfold I64; omega) (by unfold I64; omega), by unfold Sz; simp, by unfold Sz; simp⟩
theorem n1_in : InE N1 := inE_one ⟨inR2 (by unfold I64; omega) (by unfold I64; omega), inR2 (by unfold I64; omega) (by unfold I64; omega), by unfold Sz; simp, by unfold Sz; simp⟩
theorem v_in : InR [3, 1] := inR2 (by unfold I64; omega) (by unfold I64; omega)
theorem a_add (k : Int) (L : List (Int × Ent)) (cap : List Int) (h : L.length ≤ 1) (hc : cap.length ≤ 2) :
    ACalls env 26 [.pvar 2 0, .agg [.d (.int .i64 k), .svalf 1 (ints cap)]] (Ns 2 1 L) fun r H' => r = .d (errF (naddE 2 1 L k cap)) ∧ H' = Ns 2 1 (naddL 2 1 L k cap) :=
  (nadd_ok 2 1 L k cap (by omega) ⟨by omega, by omega, by omega⟩ (by omega)).argv (by simp [avsOk, avOk, argsOk, argOk])
theorem a_hold (L : List (Int × Ent)) (k : Int) (v : List Int) (hL : InE L) (hv : v.length ≤ 2) (rv : InR v) :
    ACalls env 27 [.pvar 2 0, .d (.int .i64 k), .svalf 1 (ints v)] (Ns 2 1 L) fun r H' => r = .d (errF (chgE L 2 k v (heldS v))) ∧ H' = Ns 2 1 (chgL L 2 k v (heldS v)) :=
  (nhold_ok 2 1 L k v hL (by unfold Sz; omega) rv).argv (by simp [avsOk, avOk, argOk, sl])
theorem a_rel (L : List (Int × Ent)) (k : Int) (v : List Int) (hL : InE L) (hv : v.length ≤ 2) (rv : InR v) :
    ACalls env 28 [.pvar 2 0, .d (.int .i64 k), .svalf 1 (ints v)] (Ns 2 1 L) fun r H' => r = .d (errF (chgE L 2 k v (freedS v))) ∧ H' = Ns 2 1 (chgL L 2 k v (freedS v)) :=
  (nrel_ok 2 1 L k v hL (by unfold Sz; omega) rv).argv (by simp [avsOk, avOk, argOk, sl])
theorem h0 : heldS [3, 1] (7, [5, 2], [0, 0]) = some [3, 1] := heldS_yes rfl rfl (lt2 (by decide) (by decide))
theorem h1 : heldS [3, 1] (7, [5, 2], [3, 1]) = none := heldS_no (k := 0) rfl (by decide) (by decide)
theorem f1 : freedS [3, 1] (7, [5, 2], [3, 1]) = some [0, 0] := subS_yes rfl (lt2 (by decide) (by decide))
theorem f0 : freedS [3, 1] (7, [5, 2], [0, 0]) = none := subS_no (k := 0) (by decide) (by decide)
theorem w31 : wrongS [3, 1] 2 = -1 := by decide
theorem a1 : ACalls env 26 [.pvar 2 0, .agg [.d (.int .i64 7), .svalf 1 [[.int .i64 5], [.int .i64 2]]]] (Ns 2 1 []) fun r H' => r = .d .nili ∧ H' = Ns 2 1 N0 := a_add 7 [] [5, 2] (by decide) (by decide)
theorem a2 : ACalls env 26 [.pvar 2 0, .agg [.d (.int .i64 8), .svalf 1 [[.int .i64 5], [.int .i64 2]]]] (Ns 2 1 N0) fun r H' => r = .d (errF (some (7, 0))) ∧ H' = Ns 2 1 N0 := a_add 8 N0 [5, 2] (by decide) (by decide)
theorem a3 : ACalls env 26 [.pvar 2 0, .agg [.d (.int .i64 8), .svalf 1 [[.int .i64 5]]]] (Ns 2 1 N0) fun r H' => r = .d (errF (some (3, 1))) ∧ H' = Ns 2 1 N0 := a_add 8 N0 [5] (by decide) (by decide)
theorem a4 : ACalls env 27 [.pvar 2 0, .d (.int .i64 7), .svalf 1 [[.int .i64 3], [.int .i64 1]]] (Ns 2 1 N0) fun r H' => r = .d .nili ∧ H' = Ns 2 1 N1 := by
  have := a_hold N0 7 [3, 1] n0_in (by decide) v_in
  rw [show chgE N0 2 7 [3, 1] (heldS [3, 1]) = none by simp [chgE, N0, lget, w31, h0], show chgL N0 2 7 [3, 1] (heldS [3, 1]) = N1 by simp [chgL, N0, N1, lget, lput, w31, h0]] at this
  exact this
theorem a5 : ACalls env 27 [.pvar 2 0, .d (.int .i64 7), .svalf 1 [[.int .i64 3], [.int .i64 1]]] (Ns 2 1 N1) fun r H' => r = .d (errF (some (10, 0))) ∧ H' = Ns 2 1 N1 := by
  have := a_hold N1 7 [3, 1] n1_in (by decide) v_in
  rw [show chgE N1 2 7 [3, 1] (heldS [3, 1]) = some (10, 0) by simp [chgE, N1, lget, w31, h1], show chgL N1 2 7 [3, 1] (heldS [3, 1]) = N1 by simp [chgL, N1, lget, w31, h1]] at this
  exact this
theorem a6 : ACalls env 28 [.pvar 2 0, .d (.int .i64 7), .svalf 1 [[.int .i64 3], [.int .i64 1]]] (Ns 2 1 N1) fun r H' => r = .d .nili ∧ H' = Ns 2 1 N0 := by
  have := a_rel N1 7 [3, 1] n1_in (by decide) v_in
  rw [show chgE N1 2 7 [3, 1] (freedS [3, 1]) = none by simp [chgE, N1, lget, w31, f1], show chgL N1 2 7 [3, 1] (freedS [3, 1]) = N0 by simp [chgL, N0, N1, lget, lput, w31, f1]] at this
  exact this
theorem a7 : ACalls env 28 [.pvar 2 0, .d (.int .i64 7), .svalf 1 [[.int .i64 3], [.int .i64 1]]] (Ns 2 1 N0) fun r H' => r = .d (errF (some (10, 0))) ∧ H' = Ns 2 1 N0 := by
  have := a_rel N0 7 [3, 1] n0_in (by decide) v_in
  rw [show chgE N0 2 7 [3, 1] (freedS [3, 1]) = some (10, 0) by simp [chgE, N0, lget, w31, f0], show chgL N0 2 7 [3, 1] (freedS [3, 1]) = N0 by simp [chgL, N0, lget, w31, f0]] at this
  exact this
theorem a8 : ACalls env 30 [.pvar 2 0, .d (.int .i64 7)] (Ns 2 1 N1) fun r H' => r = .d (.slice 1 [[.int .i64 3], [.int .i64 1]]) ∧ H' = Ns 2 1 N1 := nused_ok 2 1 N1 7 n1_in
theorem a9 : ACalls env 31 [.pvar 2 0, .d (.int .i64 7)] (Ns 2 1 N1) fun r H' => r = .d (.slice 1 [[.int .i64 2], [.int .i64 1]]) ∧ H' = Ns 2 1 N1 := by
  have := nfree_ok 2 1 N1 7 n1_in
  rw [show freeD (lget N1 7) = some [2, 1] from subS_yes rfl (lt2 (by decide) (by decide))] at this
  exact this
theorem a10 : ACalls env 32 [.pvar 2 0, .d (.int .i64 7)] (Ns 2 1 N0) fun r H' => r = .d (.tup [.agg [.int .i64 7, .slice 1 [[.int .i64 5], [.int .i64 2]]], .bool true]) ∧ H' = Ns 2 1 N0 := nget_ok 2 1 N0 7 n0_in
theorem a11 : ACalls env 33 [.pvar 2 0] (Ns 2 1 N0) fun r H' => r = .d (.slice 1 [[.int .i64 7]]) ∧ H' = Ns 2 1 N0 := by
  have := nids_ok 2 1 N0 (by decide)
  rw [show srt (N0.map (·.1)) = [7] by simp [N0, srt]] at this
  exact this
theorem a12 : ACalls env 49 [.pvar 2 0] (Ns 2 1 N0) fun r H' => r = .d (.int .i64 2) ∧ H' = Ns 2 1 N0 := ndims_ok 2 1 N0
theorem a13 (a b : Int) : PCall env 29 [sl [a, b], sl [a, b]] (.bool true) := by
  have := rsame_ok [a, b] [a, b] (by unfold Sz; simp) (by unfold Sz; simp)
  rwa [B_true rfl] at this
theorem a14 : PCall env 48 [sl [7], sl [7]] (.bool true) := by
  have := equal_ok [7] [7] (by unfold Sz; simp)
  rwa [B_true rfl] at this
theorem a15 (H : List AObj) : ACalls env 27 [.d .nilp, .d (.int .i64 1), .d .nils] H fun r H' => r = .d (errF (some (5, 0))) ∧ H' = H :=
  ((nhold_nil 1 []).anywhere H).argv (by simp [avsOk, avOk, argOk, sl, ints])

set_option maxRecDepth 8000 in
theorem nawake_ok : PCall env 25 [] (.bool true) := by
  refine acalls_of envOk Tryd.func25 rfl (by kernel_rfl) (m := 114) rfl ?_
  simp only [ext24, Kreg_go, Qseq_normal, aregL_nil, aregL_plain, awpL_region, awpL_seq, aop_assign, aop_call, acallF_go, ev, cst, putT, List.set_cons_zero, List.length_nil, List.map_cons, List.map_nil, List.nil_append, List.append_nil, List.reduceReplicate]
  refine (nnew_ok 2 1).thus (WK.now ?_)
  simp only [ty2, T2, ty3, T3, ty43, T43, ty55, T55, ty59, T59, ext26, Kat_go, Kreg_go, Qseq_normal, Kbr_false, aregL_nil, aregL_plain, awpL_skip, awpL_region, awpL_seq, awpL_cond, aop_move, aop_assign, aop_binOp, aop_build, aop_buildSlice, aop_call, acallF_go, ev, cst, putT, aopBin, isSl, abin, bEq, acmp, ptrish, kd, esz, abuild, zeroC, aplace, afill, splice, AV.cells, D.cells, mkAgg, allD, known, abuildS, AV.low, rep, chunk, List.getD_cons_zero, List.getD_cons_succ, List.set_cons_zero, List.set_cons_succ, List.getElem?_cons_zero, List.getElem?_cons_succ, List.length_cons, List.length_nil, List.map_cons, List.map_nil, List.cons_append, List.nil_append, List.append_nil, List.take_succ_cons, List.take_zero, List.take_nil, List.drop_succ_cons, List.drop_zero, List.drop_nil, List.all_cons, List.all_nil, Nat.reduceAdd, Nat.reduceLeDiff, Option.isSome_some, Bool.and_true, true_and, if_true, reduceCtorEq, ne_eq, not_false_eq_true, Nat.zero_add, Nat.mul_one, and_self]
  refine a1.thus (WK.now ?_)
  simp only [ty2, T2, ty3, T3, ty43, T43, ty59, T59, ext26, Kat_go, Kreg_go, Qseq_normal, aregL_nil, aregL_plain, awpL_region, awpL_seq, aop_move, aop_assign, aop_build, aop_buildSlice, aop_call, acallF_go, ev, cst, putT, kd, esz, abuild, zeroC, aplace, afill, splice, AV.cells, D.cells, mkAgg, allD, known, abuildS, AV.low, rep, chunk, List.getD_cons_zero, List.getD_cons_succ, List.set_cons_zero, List.set_cons_succ, List.getElem?_cons_zero, List.getElem?_cons_succ, List.length_cons, List.length_nil, List.map_cons, List.map_nil, List.cons_append, List.nil_append, List.append_nil, List.take_succ_cons, List.take_zero, List.take_nil, List.drop_succ_cons, List.drop_zero, List.drop_nil, List.all_cons, List.all_nil, Nat.reduceAdd, Nat.reduceLeDiff, Option.isSome_some, Bool.and_true, true_and, if_true, reduceCtorEq, ne_eq, not_false_eq_true, Nat.zero_add, Nat.mul_one, and_self]
  refine a2.thus (WK.now ?_)
  simp only [errF, ty2, T2, ty3, T3, ty43, T43, ty59, T59, ext26, Kat_go, Kreg_go, Qseq_normal, aregL_nil, aregL_plain, awpL_region, awpL_seq, aop_move, aop_assign, aop_build, aop_buildSlice, aop_call, acallF_go, ev, cst, putT, kd, esz, abuild, zeroC, aplace, afill, splice, AV.cells, D.cells, mkAgg, allD, known, abuildS, AV.low, rep, chunk, List.getD_cons_zero, List.getD_cons_succ, List.set_cons_zero, List.set_cons_succ, List.getElem?_cons_zero, List.getElem?_cons_succ, List.length_cons, List.length_nil, List.map_cons, List.map_nil, List.cons_append, List.nil_append, List.append_nil, List.take_succ_cons, List.take_zero, List.take_nil, List.drop_succ_cons, List.drop_zero, List.drop_nil, List.all_cons, List.all_nil, Nat.reduceAdd, Nat.reduceLeDiff, Option.isSome_some, Bool.and_true, true_and, if_true, reduceCtorEq, ne_eq, not_false_eq_true, Nat.zero_add, Nat.mul_one, and_self]
  refine a3.thus (WK.now ?_)
  simp only [errF, ty2, T2, ty43, T43, ext27, Kat_go, Kreg_go, Qseq_normal, aregL_nil, aregL_plain, awpL_region, awpL_seq, aop_move, aop_assign, aop_buildSlice, aop_call, acallF_go, ev, cst, putT, kd, afill, splice, AV.cells, D.cells, allD, abuildS, AV.low, rep, chunk, List.getD_cons_zero, List.getD_cons_succ, List.set_cons_zero, List.set_cons_succ, List.length_cons, List.length_nil, List.map_cons, List.map_nil, List.cons_append, List.nil_append, List.append_nil, List.take_succ_cons, List.take_zero, List.take_nil, List.drop_succ_cons, List.drop_zero, List.drop_nil, Nat.reduceAdd, Nat.reduceLeDiff, true_and, if_true, reduceCtorEq, ne_eq, not_false_eq_true, Nat.zero_add, Nat.mul_one, and_self]
  refine a4.thus (WK.now ?_)
  simp only [ty2, T2, ty43, T43, ext27, Kat_go, Kreg_go, Qseq_normal, aregL_nil, aregL_plain, awpL_region, awpL_seq, aop_move, aop_assign, aop_buildSlice, aop_call, acallF_go, ev, cst, putT, kd, afill, splice, AV.cells, D.cells, allD, abuildS, AV.low, rep, chunk, List.getD_cons_zero, List.getD_cons_succ, List.set_cons_zero, List.set_cons_succ, List.length_cons, List.length_nil, List.map_cons, List.map_nil, List.cons_append, List.nil_append, List.append_nil, List.take_succ_cons, List.take_zero, List.take_nil, List.drop_succ_cons, List.drop_zero, List.drop_nil, Nat.reduceAdd, Nat.reduceLeDiff, true_and, if_true, reduceCtorEq, ne_eq, not_false_eq_true, Nat.zero_add, Nat.mul_one, and_self]
  refine a5.thus (WK.now ?_)
  simp only [errF, ext30, Kreg_go, Qseq_normal, aregL_nil, aregL_plain, awpL_region, awpL_seq, aop_move, aop_assign, aop_call, acallF_go, ev, cst, putT, List.getD_cons_zero, List.getD_cons_succ, List.set_cons_zero, List.set_cons_succ, List.map_cons, List.map_nil, List.append_nil]
  refine a8.thus (WK.now ?_)
  simp only [ty2, T2, ty43, T43, ext29, Kat_go, Kreg_go, aregL_plain, aop_buildSlice, aop_call, acallF_go, ev, cst, putT, kd, afill, splice, AV.cells, D.cells, allD, abuildS, AV.low, rep, chunk, List.getD_cons_zero, List.getD_cons_succ, List.set_cons_zero, List.set_cons_succ, List.length_cons, List.length_nil, List.map_cons, List.map_nil, List.cons_append, List.nil_append, List.append_nil, List.take_succ_cons, List.take_zero, List.take_nil, List.drop_succ_cons, List.drop_zero, List.drop_nil, Nat.reduceAdd, Nat.reduceLeDiff, true_and, if_true, reduceCtorEq, ne_eq, not_false_eq_true, Nat.zero_add, Nat.mul_one, and_self]
  refine (a13 3 1).go (by simp [argsOk, argOk, sl, ints]) (WK.now ?_)
  simp only [ext31, Kreg_go, Kbr_true, Kgo_go, aregL_plain, aregL_guard, aop_move, aop_call, acallF_go, ev, cst, putT, gval, List.getD_cons_zero, List.getD_cons_succ, List.set_cons_zero, List.set_cons_succ, List.getElem?_cons_zero, List.getElem?_cons_succ, List.map_cons, List.map_nil, List.append_nil, Bool.not_true, beq_self_eq_true]
  refine a9.thus (WK.now ?_)
  simp only [ty2, T2, ty43, T43, ext29, Kat_go, Kreg_go, Kbr_true, Kgo_go, aregL_guard, aop_buildSlice, aop_call, acallF_go, ev, cst, putT, gval, kd, afill, splice, AV.cells, D.cells, allD, abuildS, AV.low, rep, chunk, List.getD_cons_zero, List.getD_cons_succ, List.set_cons_zero, List.set_cons_succ, List.getElem?_cons_zero, List.getElem?_cons_succ, List.length_cons, List.length_nil, List.map_cons, List.map_nil, List.cons_append, List.nil_append, List.append_nil, List.take_succ_cons, List.take_zero, List.take_nil, List.drop_succ_cons, List.drop_zero, List.drop_nil, Nat.reduceAdd, Nat.reduceLeDiff, Bool.not_true, beq_self_eq_true, true_and, if_true, reduceCtorEq, ne_eq, not_false_eq_true, Nat.zero_add, Nat.mul_one, and_self]
  refine (a13 2 1).go (by simp [argsOk, argOk, sl, ints]) (WK.now ?_)
  simp only [ty2, T2, ty43, T43, ext28, Kat_go, Kreg_go, Qseq_normal, Vbr_true, aregL_nil, aregL_plain, awpL_region, awpL_seq, aop_move, aop_assign, aop_pick, aop_buildSlice, aop_call, acallF_go, ev, cst, putT, kd, afill, splice, AV.cells, D.cells, allD, abuildS, AV.low, rep, chunk, List.getD_cons_zero, List.getD_cons_succ, List.set_cons_zero, List.set_cons_succ, List.length_cons, List.length_nil, List.map_cons, List.map_nil, List.cons_append, List.nil_append, List.append_nil, List.take_succ_cons, List.take_zero, List.take_nil, List.drop_succ_cons, List.drop_zero, List.drop_nil, Nat.reduceAdd, Nat.reduceLeDiff, true_and, if_true, reduceCtorEq, ne_eq, not_false_eq_true, Nat.zero_add, Nat.mul_one, and_self]
  refine a6.thus (WK.now ?_)
  simp only [ty2, T2, ty43, T43, ext28, Kat_go, Kreg_go, Qseq_normal, aregL_nil, aregL_plain, awpL_region, awpL_seq, aop_move, aop_assign, aop_buildSlice, aop_call, acallF_go, ev, cst, putT, kd, afill, splice, AV.cells, D.cells, allD, abuildS, AV.low, rep, chunk, List.getD_cons_zero, List.getD_cons_succ, List.set_cons_zero, List.set_cons_succ, List.length_cons, List.length_nil, List.map_cons, List.map_nil, List.cons_append, List.nil_append, List.append_nil, List.take_succ_cons, List.take_zero, List.take_nil, List.drop_succ_cons, List.drop_zero, List.drop_nil, Nat.reduceAdd, Nat.reduceLeDiff, true_and, if_true, reduceCtorEq, ne_eq, not_false_eq_true, Nat.zero_add, Nat.mul_one, and_self]
  refine a7.thus (WK.now ?_)
  simp only [errF, ext32, Kreg_go, Qseq_normal, aregL_nil, aregL_plain, awpL_region, awpL_seq, aop_move, aop_assign, aop_call, acallF_go, ev, cst, putT, List.getD_cons_zero, List.getD_cons_succ, List.set_cons_zero, List.set_cons_succ, List.map_cons, List.map_nil, List.append_nil]
  refine a10.thus (WK.now ?_)
  simp only [Ns, ty32, T32, ty59, T59, ext47, Kat_go, Kst_go, Kreg_go, Qseq_normal, Kbr_true, Kgo_go, aregL_nil, aregL_plain, aregL_guard, awpL_region, awpL_seq, aop_move, aop_assign, aop_binOp, aop_extract, aop_new, aop_store, aop_call, acallF_go, ev, cst, putT, gval, aopBin, isSl, abin, bEq, acmp, ifaceish, isC, aext, kd, esz, zeroC, splice, AV.cells, D.cells, aalloc, astore, List.getD_cons_zero, List.getD_cons_succ, List.set_cons_zero, List.set_cons_succ, List.getElem?_cons_zero, List.getElem?_cons_succ, List.length_cons, List.length_nil, List.map_cons, List.map_nil, List.cons_append, List.nil_append, List.append_nil, List.take_zero, List.drop_succ_cons, List.drop_nil, Nat.reduceAdd, Nat.reduceLeDiff, Bool.or_true, Bool.not_true, beq_self_eq_true, true_and, Nat.zero_add]
  refine (nwrong_yes 7 0).go (by first | exact ⟨.inl rfl, trivial⟩ | exact ⟨.inl rfl, .inl rfl, trivial⟩ | exact ⟨.inl rfl, .inl rfl, .inl rfl, trivial⟩ | simp [argsOk, argOk, sl, sll]) (WK.now ?_)
  simp only [ext47, Kat_go, Kreg_go, Kbr_true, Vbr_true, Kgo_go, aregL_plain, aregL_guard, aop_move, aop_pick, aop_call, acallF_go, ev, cst, putT, gval, List.getD_cons_zero, List.getD_cons_succ, List.set_cons_zero, List.set_cons_succ, List.getElem?_cons_zero, List.getElem?_cons_succ, List.map_cons, List.map_nil, List.append_nil, Bool.not_true, beq_self_eq_true]
  refine (nwrong_yes 3 1).go (by first | exact ⟨.inl rfl, trivial⟩ | exact ⟨.inl rfl, .inl rfl, trivial⟩ | exact ⟨.inl rfl, .inl rfl, .inl rfl, trivial⟩ | simp [argsOk, argOk, sl, sll]) (WK.now ?_)
  simp only [ty32, T32, ext47, Kat_go, Kreg_go, Kbr_true, Vbr_true, Kgo_go, aregL_plain, aregL_guard, aop_move, aop_pick, aop_binOp, aop_call, acallF_go, ev, cst, putT, gval, aopBin, isSl, abin, bEq, acmp, ifaceish, isC, kd, List.getD_cons_zero, List.getD_cons_succ, List.set_cons_zero, List.set_cons_succ, List.getElem?_cons_zero, List.getElem?_cons_succ, List.map_cons, List.map_nil, List.append_nil, Bool.or_true, Bool.not_true, beq_self_eq_true, true_and]
  refine (nwrong_yes 10 0).go (by first | exact ⟨.inl rfl, trivial⟩ | exact ⟨.inl rfl, .inl rfl, trivial⟩ | exact ⟨.inl rfl, .inl rfl, .inl rfl, trivial⟩ | simp [argsOk, argOk, sl, sll]) (WK.now ?_)
  simp only [ty32, T32, ext47, Kat_go, Kreg_go, Kbr_true, Vbr_true, Kgo_go, aregL_plain, aregL_guard, aop_move, aop_pick, aop_binOp, aop_call, acallF_go, ev, cst, putT, gval, aopBin, isSl, abin, bEq, acmp, ifaceish, isC, kd, List.getD_cons_zero, List.getD_cons_succ, List.set_cons_zero, List.set_cons_succ, List.getElem?_cons_zero, List.getElem?_cons_succ, List.map_cons, List.map_nil, List.append_nil, Bool.or_true, Bool.not_true, beq_self_eq_true, true_and]
  refine (nwrong_yes 10 0).go (by first | exact ⟨.inl rfl, trivial⟩ | exact ⟨.inl rfl, .inl rfl, trivial⟩ | exact ⟨.inl rfl, .inl rfl, .inl rfl, trivial⟩ | simp [argsOk, argOk, sl, sll]) (WK.now ?_)
  simp only [ty3, T3, ty59, T59, ext33, Kat_go, Kreg_go, Kbr_true, Vbr_true, Kgo_go, aregL_plain, aregL_guard, aop_move, aop_pick, aop_load, aop_binOp, aop_fieldAddr, aop_call, acallF_go, ev, cst, putT, gval, aopBin, isSl, abin, aint, fld, afldAddr, aload, ldK, kd, esz, List.getD_cons_zero, List.getD_cons_succ, List.set_cons_zero, List.set_cons_succ, List.getElem?_cons_zero, List.getElem?_cons_succ, List.map_cons, List.map_nil, List.append_nil, Bool.not_true, beq_self_eq_true, true_and, reduceCtorEq, ne_eq, not_false_eq_true, Nat.add_zero]
  refine a11.at [0, 1, 2] (by simp [Ns, sbl, ren_var, ren_map, bel_var, bel_map, AV.renL, AV.ren, AV.belL, AV.bel, rn]) (by simp) (by simp [Tb]) (by simp [AV.ren, rn]) (by simp [AV.belL, AV.bel]) (WK.now ?_)
  simp only [Ns, ty3, T3, ty66, T66, ext48, Kat_go, Kreg_go, Kbr_true, Kgo_go, aregL_guard, lift, putAll, rn, AV.ren, AV.renL, ren_var, ren_map, aop_buildSlice, aop_call, acallF_go, ev, cst, putT, gval, kd, afill, splice, AV.cells, D.cells, allD, abuildS, AV.low, rep, chunk, List.getD_cons_zero, List.getD_cons_succ, List.set_cons_zero, List.set_cons_succ, List.getElem?_cons_zero, List.getElem?_cons_succ, List.length_cons, List.length_nil, List.map_cons, List.map_nil, List.nil_append, List.append_nil, List.take_succ_cons, List.take_zero, List.take_nil, List.drop_succ_cons, List.drop_nil, Nat.reduceAdd, Nat.reduceSub, Nat.reduceLeDiff, Nat.reduceLT, Bool.not_true, beq_self_eq_true, true_and, if_true, reduceCtorEq, ne_eq, not_false_eq_true, Nat.zero_add, Nat.mul_one, and_self]
  refine a14.go (by simp [argsOk, argOk, sl, ints]) (WK.now ?_)
  simp only [ext49, Kat_go, Kreg_go, Kbr_true, Vbr_true, Kgo_go, aregL_plain, aregL_guard, aop_move, aop_pick, aop_call, acallF_go, ev, cst, putT, gval, List.getD_cons_zero, List.getD_cons_succ, List.set_cons_zero, List.set_cons_succ, List.getElem?_cons_zero, List.getElem?_cons_succ, List.map_cons, List.map_nil, List.append_nil, Bool.not_true, beq_self_eq_true]
  refine a12.at [0, 1, 2] (by simp [Ns, sbl, ren_var, ren_map, bel_var, bel_map, AV.renL, AV.ren, AV.belL, AV.bel, rn]) (by simp) (by simp [Tb]) (by simp [AV.ren, rn]) (by simp [AV.belL, AV.bel]) (WK.now ?_)
  simp only [Ns, ty3, T3, ext27, Kat_go, Kreg_go, Kbr_true, Vbr_true, Kgo_go, aregL_plain, aregL_guard, lift, putAll, rn, AV.ren, AV.renL, ren_var, ren_map, aop_move, aop_pick, aop_binOp, aop_call, acallF_go, ev, cst, putT, gval, aopBin, isSl, abin, aint, kd, List.getD_cons_zero, List.getD_cons_succ, List.set_cons_zero, List.set_cons_succ, List.getElem?_cons_zero, List.getElem?_cons_succ, List.length_cons, List.length_nil, List.map_cons, List.map_nil, List.append_nil, List.drop_succ_cons, List.drop_nil, Nat.reduceAdd, Nat.reduceSub, Nat.reduceLT, Bool.not_true, beq_self_eq_true, true_and, if_true, Nat.zero_add]
  refine (a15 _).thus (WK.now ?_)
  simp only [errF, ext47, Kbr_true, Kgo_go, aregL_guard, aop_call, acallF_go, ev, cst, putT, gval, List.getD_cons_zero, List.getD_cons_succ, List.set_cons_zero, List.set_cons_succ, List.getElem?_cons_zero, List.getElem?_cons_succ, List.map_cons, List.map_nil, List.append_nil, Bool.not_true, beq_self_eq_true]
  refine (nwrong_yes 5 0).go (by first | exact ⟨.inl rfl, trivial⟩ | exact ⟨.inl rfl, .inl rfl, trivial⟩ | exact ⟨.inl rfl, .inl rfl, .inl rfl, trivial⟩ | simp [argsOk, argOk, sl, sll]) (WK.now ?_)
  simp only [ext30, Kat_go, Kreg_go, Kbr_true, Vbr_true, Kgo_go, aregL_plain, aregL_guard, aop_move, aop_pick, aop_call, acallF_go, ev, cst, putT, gval, List.getD_cons_zero, List.getD_cons_succ, List.set_cons_zero, List.set_cons_succ, List.getElem?_cons_zero, List.getElem?_cons_succ, List.map_cons, List.map_nil, List.append_nil, Bool.not_true, beq_self_eq_true]
  refine (nused_nil 1).go (by first | exact ⟨.inl rfl, trivial⟩ | exact ⟨.inl rfl, .inl rfl, trivial⟩ | exact ⟨.inl rfl, .inl rfl, .inl rfl, trivial⟩ | simp [argsOk, argOk, sl, sll]) (WK.now ?_)
  simp only [ints_length, ty3, T3, ty43, T43, ints_length, sl, Kat_go, Kreg_go, Qseq_normal, Kbr_true, Vbr_true, Kgo_go, aret_ret, aregL_nil, aregL_plain, aregL_guard, awpL_ret, aop_assign, aop_pick, aop_binOp, aop_len, apureCall, ev, cst, putT, gval, aopBin, isSl, abin, aint, rowLen, alen, kd, List.getD_cons_zero, List.getD_cons_succ, List.set_cons_zero, List.set_cons_succ, List.getElem?_cons_zero, List.getElem?_cons_succ, List.length_nil, Bool.not_true, beq_self_eq_true, true_and, Int.cast_ofNat_Int]
  refine WK.now ?_
  simp only [Tryd.results25, Kcons_go, Kone_go, Kfin_go, aresL_nil, aresL_tmp, allDefr_nil, offs_nil, one?, List.getD_cons_zero, and_self, List.toList_toArray]
end Go.Proofs.YtjljjakfebfpfaaDoor
