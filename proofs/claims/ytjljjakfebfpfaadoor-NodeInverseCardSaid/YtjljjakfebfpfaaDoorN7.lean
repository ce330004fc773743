/-
  Releasing what was held leads to the usage before, in any order: the law's walk.
-/
import Derived.Test.YtjljjakfebfpfaaDoorNW
set_option autoImplicit false
set_option linter.unusedVariables false
set_option linter.unusedSimpArgs false
namespace Go.Proofs.YtjljjakfebfpfaaDoor
open Go.Abs


def sAt (k : Nat) (h : List (List Int)) : Int := (h.map (·.getD k 0)).sum
def sums (h : List (List Int)) : List Int := [sAt 0 h, sAt 1 h]
def Nd (cap : List Int) (h : List (List Int)) : List (Int × Ent) := [(1, (1, cap, sums h))]
def GoodV (v : List Int) : Prop := v.length = 2 ∧ ∀ n ∈ v, 0 ≤ n ∧ n ≤ 1099511627776
theorem goodV_of {v : List Int} (h : ¬ 0 ≤ wrongS v 2) : GoodV v := ⟨by have := (wrongS_neg h).1; omega, (wrongS_neg h).2⟩
theorem GoodV.ok {v : List Int} (h : GoodV v) : ¬ 0 ≤ wrongS v 2 := by
  have hi : ¬ 0 ≤ idx wrongP v := by
    unfold idx
    split
    · rename_i hlt
      rw [List.findIdx_lt_length] at hlt
      obtain ⟨x, hx, hp⟩ := hlt
      have := h.2 x hx
      unfold wrongP at hp
      have := of_decide_eq_true hp
      omega
    · omega
  unfold wrongS
  rw [if_neg hi, if_pos (by rw [h.1]; rfl)]
  omega
theorem GoodV.at {v : List Int} (h : GoodV v) (k : Nat) : 0 ≤ v.getD k 0 ∧ v.getD k 0 ≤ 1099511627776 := by
  rw [List.getD_eq_getElem?_getD]
  cases hk : v[k]? with
  | none => simp
  | some x => exact h.2 x (List.mem_of_getElem? hk)
theorem GoodV.two {v : List Int} (h : GoodV v) : v = [v.getD 0 0, v.getD 1 0] := by
  obtain ⟨h1, h2⟩ := h
  match v, h1 with
  | [a, b], _ => rfl
theorem GoodV.inR {v : List Int} (h : GoodV v) : InR v := inR_of fun n hn => by have := h.2 n hn; unfold I64; omega
theorem sAt_snoc (k : Nat) (h : List (List Int)) (v : List Int) : sAt k (h ++ [v]) = sAt k h + v.getD k 0 := by simp [sAt]
theorem sAt_cons (k : Nat) (h : List (List Int)) (v : List Int) : sAt k (v :: h) = v.getD k 0 + sAt k h := by simp [sAt]
theorem sAt_pos (k : Nat) : ∀ (h : List (List Int)), (∀ v ∈ h, GoodV v) → 0 ≤ sAt k h
  | [], _ => by simp [sAt]
  | v :: h, hg => by
    have := sAt_pos k h (fun x hx => hg x (by simp [hx]))
    have := ((hg v (by simp)).at k).1
    rw [sAt_cons]; omega
theorem sAt_drop (k : Nat) : ∀ (h : List (List Int)) (j : Nat), (∀ v ∈ h, GoodV v) → sAt k (h.drop j) ≤ sAt k h
  | [], j, _ => by simp
  | v :: h, 0, _ => by simp
  | v :: h, j + 1, hg => by
    have := sAt_drop k h j (fun x hx => hg x (by simp [hx]))
    have := ((hg v (by simp)).at k).1
    rw [sAt_cons]
    simp only [List.drop_succ_cons]
    omega
theorem nd_in {cap : List Int} {h : List (List Int)} (hc : GoodV cap) (hg : ∀ v ∈ h, GoodV v) (hs : ∀ k, k < 2 → sAt k h ≤ cap.getD k 0) : InE (Nd cap h) :=
  inE_one ⟨hc.inR, inR2 (by have := sAt_pos 0 h hg; have := hs 0 (by omega); have := hc.at 0; unfold I64; omega) (by have := sAt_pos 1 h hg; have := hs 1 (by omega); have := hc.at 1; unfold I64; omega), by unfold Sz; rw [hc.1]; omega, by unfold Sz sums; simp⟩
theorem nd_get (cap : List Int) (h : List (List Int)) : lget (Nd cap h) 1 = some (1, cap, sums h) := rfl
theorem hold_cases {cap : List Int} {h : List (List Int)} {v : List Int} (hc : GoodV cap) (hg : ∀ v ∈ h, GoodV v) (hs : ∀ k, k < 2 → sAt k h ≤ cap.getD k 0) :
    (∃ e, chgE (Nd cap h) 2 1 v (heldS v) = some e ∧ chgL (Nd cap h) 2 1 v (heldS v) = Nd cap h) ∨
    (chgE (Nd cap h) 2 1 v (heldS v) = none ∧ chgL (Nd cap h) 2 1 v (heldS v) = Nd cap (h ++ [v]) ∧ GoodV v ∧ ∀ k, k < 2 → sAt k (h ++ [v]) ≤ cap.getD k 0) := by
  unfold chgE chgL
  rw [nd_get]
  by_cases hw : 0 ≤ wrongS v 2
  · exact .inl ⟨(3, wrongS v 2), by simp only [if_pos hw], by simp only [if_pos hw]⟩
  · have hv := goodV_of hw
    cases hh : heldS v (1, cap, sums h) with
    | none => exact .inl ⟨(10, 0), by simp only [if_neg hw, hh], by simp only [if_neg hw, hh]⟩
    | some u =>
      obtain ⟨e1, e2, e3, e4⟩ := heldS_some hh
      have e5 : u = sums (h ++ [v]) := by
        rw [e2]
        conv => lhs; rw [hv.two]
        simp [sums, sAt_snoc]
      refine .inr ⟨by simp only [if_neg hw, hh], by simp only [if_neg hw, hh, e5]; rfl, hv, fun k hk => ?_⟩
      have := e4 k (by rw [e5]; simpa [sums] using hk)
      rw [e5] at this
      refine Int.le_trans (Int.le_of_eq ?_) this
      rcases k with _ | _ | k
      · rfl
      · rfl
      · omega
theorem rel_ok {cap v : List Int} {r : List (List Int)} (hc : GoodV cap) (hv : GoodV v) (hg : ∀ v ∈ r, GoodV v) (hs : ∀ k, k < 2 → sAt k (v :: r) ≤ cap.getD k 0) :
    chgE (Nd cap (v :: r)) 2 1 v (freedS v) = none ∧ chgL (Nd cap (v :: r)) 2 1 v (freedS v) = Nd cap r := by
  have hf : freedS v (1, cap, sums (v :: r)) = some (sums r) := by
    show subS (sums (v :: r)) v = _
    rw [subS_yes (by rw [hv.1]; rfl) (fun k hk => by
      have hk2 : k < 2 := by simpa [sums] using hk
      have h1 := sAt_pos k r hg
      have h2 := hs k hk2
      have h3 := hc.at k
      have h4 := hv.at k
      rw [sAt_cons] at h2
      have e : (sums (v :: r)).getD k 0 = v.getD k 0 + sAt k r := by
        rcases k with _ | _ | k
        · exact sAt_cons 0 r v
        · exact sAt_cons 1 r v
        · omega
      rw [e]
      omega)]
    conv => lhs; rw [hv.two]
    simp [sums, sAt_cons]
    omega
  have hw := hv.ok
  unfold chgE chgL
  rw [nd_get]
  simp only [if_neg hw, hf]
  exact ⟨trivial, rfl⟩

theorem add_one {cap : List Int} (hw : ¬ 0 ≤ wrongS cap 2) : naddE 2 1 [] 1 cap = none ∧ naddL 2 1 [] 1 cap = Nd cap [] := by
  unfold naddE naddL
  rw [if_neg hw, if_neg hw]
  exact ⟨rfl, rfl⟩
theorem free_none {cap : List Int} (hc : GoodV cap) : freeD (some (1, cap, sums [])) = some cap := by
  show subS cap (sums []) = _
  rw [subS_yes (by rw [hc.1]; rfl) (fun k hk => by
    have h3 := hc.at k
    have e : (sums []).getD k 0 = 0 := by
      rcases k with _ | _ | k
      · rfl
      · rfl
      · rfl
    rw [e]
    omega)]
  conv => rhs; rw [hc.two]
  conv => lhs; rw [hc.two]
  simp [sums, sAt]
set_option maxRecDepth 8000 in
set_option maxHeartbeats 4000000 in
theorem law7 (l : List (List Int)) (cap : List Int) (hl0 : l.length ≤ 9223372036854775807) (hr : InRs l) (hc0 : cap.length ≤ 9223372036854775807) : PCall env 7 [sll l, sl cap] (.bool true) := by
  refine acalls_of envOk Tryd.func7 rfl (by kernel_rfl) (m := 82) rfl ?_
  simp only [ext24, sl, sll, Kreg_go, Qseq_normal, aregL_nil, aregL_plain, awpL_region, awpL_seq, aop_assign, aop_call, acallF_go, ev, cst, putT, List.set_cons_zero, List.set_cons_succ, List.length_nil, List.map_cons, List.map_nil, List.cons_append, List.nil_append, List.append_nil, List.reduceReplicate]
  refine (nnew_ok 2 1).thus (WK.now ?_)
  simp only [ext25, Kreg_go, Qseq_normal, aregL_nil, aregL_plain, awpL_region, awpL_seq, aop_assign, aop_call, acallF_go, ev, putT, List.getD_cons_zero, List.getD_cons_succ, List.set_cons_zero, List.set_cons_succ, List.map_nil, List.append_nil]
  refine nawake_ok.go ⟨⟩ (WK.now ?_)
  simp only [intss_length, ty3, T3, ty54, T54, ty55, T55, intss_length, Kat_go, Kreg_go, Kbr_true, Vbr_false, Kgo_go, aregL_plain, aregL_guard, aop_move, aop_pick, aop_binOp, aop_unOp, aop_len, apureCall, ev, cst, putT, gval, aopBin, isSl, abin, aint, bEq, acmp, ptrish, aun, rowLen, alen, kd, List.getD_cons_zero, List.getD_cons_succ, List.set_cons_zero, List.set_cons_succ, List.getElem?_cons_zero, List.getElem?_cons_succ, Bool.not_true, Bool.not_false, beq_self_eq_true, true_and]
  refine Kbr.mk (fun c => ?_) (fun c => ?_)
  · have c60 : l.length ≤ 60 := by simp at c; omega
    simp only [ty3, T3, ty43, T43, ty59, T59, ext26, Kat_go, Kreg_go, Kbr_true, Kgo_go, aregL_guard, aop_move, aop_build, aop_call, acallF_go, ev, cst, putT, gval, kd, esz, abuild, zeroC, aplace, afill, splice, AV.cells, D.cells, mkAgg, allD, known, List.getD_cons_zero, List.getD_cons_succ, List.set_cons_zero, List.set_cons_succ, List.getElem?_cons_zero, List.getElem?_cons_succ, List.length_cons, List.length_nil, List.map_cons, List.map_nil, List.cons_append, List.nil_append, List.append_nil, List.take_succ_cons, List.take_zero, List.drop_succ_cons, List.drop_zero, List.drop_nil, List.all_cons, List.all_nil, Nat.reduceAdd, Nat.reduceLeDiff, Option.isSome_some, Bool.and_true, Bool.not_false, beq_self_eq_true, true_and, if_true, Nat.zero_add, and_self]
    refine (nadd_ok 2 1 [] 1 cap (by omega) ⟨by omega, by omega, by simp⟩ hc0).thus (WK.now ?_)
    by_cases hw : 0 ≤ wrongS cap 2
    · simp only [naddE, naddL, hw, if_true, errF, ty32, T32, ty55, T55, ext25, Kat_go, Kreg_go, Qseq_normal, Kbr_true, Vbr_false, Kgo_go, aregL_nil, aregL_plain, aregL_guard, awpL_region, awpL_seq, awpL_cond, aop_move, aop_pick, aop_binOp, aop_call, acallF_go, ev, cst, putT, gval, aopBin, isSl, abin, bEq, acmp, ptrish, ifaceish, kd, List.getD_cons_zero, List.getD_cons_succ, List.set_cons_zero, List.set_cons_succ, List.getElem?_cons_zero, List.getElem?_cons_succ, List.map_nil, List.append_nil, Bool.not_true, Bool.not_false, beq_self_eq_true, if_true]
      refine nawake_ok.go ⟨⟩ (WK.now ?_)
      simp only [Kat_go, Kreg_go, Qseq_normal, Qseq_ret, Vbr_true, aret_ret, aregL_nil, aregL_plain, awpL_ret, aop_assign, aop_pick, ev, cst, putT, List.getD_cons_zero, List.getD_cons_succ, List.set_cons_zero, List.set_cons_succ]
      refine WK.now ?_
      simp only [Tryd.results7, Kcons_go, Kone_go, Kfin_go, aresL_nil, aresL_tmp, allDefr_nil, offs_nil, one?, List.getD_cons_zero, List.getD_cons_succ, and_self, List.toList_toArray]
    · have hc := goodV_of hw
      rw [(add_one hw).1, (add_one hw).2]
      simp only [errF, ty32, T32, Kat_go, Kreg_go, Qseq_normal, Kbr_true, Kbr_false, Vbr_false, Kgo_go, aregL_nil, aregL_plain, aregL_guard, awpL_skip, awpL_region, awpL_seq, awpL_cond, awpL_block, awpL_loop, aop_assign, aop_pick, aop_binOp, ev, cst, putT, gval, aopBin, isSl, abin, bEq, acmp, ifaceish, isC, kd, List.getD_cons_zero, List.getD_cons_succ, List.set_cons_zero, List.set_cons_succ, List.getElem?_cons_zero, List.getElem?_cons_succ, Bool.or_true, Bool.not_true, Bool.not_false, beq_self_eq_true, true_and]
      refine ALoop.mk (fun n t H ds => ∃ (i : Nat) (h : List (List Int)), n = l.length - i ∧ i ≤ l.length ∧ h.length ≤ i ∧ (∀ v ∈ h, GoodV v) ∧ (∀ k, k < 2 → sAt k h ≤ cap.getD k 0) ∧ t = [.d (.slice 1 (intss l)), .d (.slice 1 (ints cap)), .dead, .dead, .d (.bool false), .pvar 2 0, .sfull 3, .d (.int .i64 (i : Nat)), .dead, .dead, .dead, .dead, .dead, .dead, .dead, .dead, .dead, .dead, .dead, .dead, .dead, .dead, .dead, .dead, .dead, .dead, .dead, .dead, .dead, .dead, .dead, .dead, .dead, .dead, .dead, .dead, .dead, .dead, .dead, .dead, .dead, .dead, .dead, .dead, .dead, .dead, .dead, .dead, .dead, .dead, .dead, .dead, .dead, .dead, .dead, .dead, .dead, .dead, .dead, .dead, .dead, .dead, .dead, .dead, .dead, .dead, .dead, .dead, .dead, .dead, .dead, .dead, .dead, .dead, .dead, .dead, .dead, .dead, .dead, .dead, .dead, .dead, .dead, .dead] ∧ H = Ns 2 1 (Nd cap h) ++ [.arr 43 1 (intss h)] ∧ ds = []) l.length
        (WK.nil 6 43 1 rfl (WK.fgt (t' := [.d (.slice 1 (intss l)), .d (.slice 1 (ints cap)), .dead, .dead, .d (.bool false), .pvar 2 0, .sfull 3, .d (.int .i64 (0 : Nat)), .dead, .dead, .dead, .dead, .dead, .dead, .dead, .dead, .dead, .dead, .dead, .dead, .dead, .dead, .dead, .dead, .dead, .dead, .dead, .dead, .dead, .dead, .dead, .dead, .dead, .dead, .dead, .dead, .dead, .dead, .dead, .dead, .dead, .dead, .dead, .dead, .dead, .dead, .dead, .dead, .dead, .dead, .dead, .dead, .dead, .dead, .dead, .dead, .dead, .dead, .dead, .dead, .dead, .dead, .dead, .dead, .dead, .dead, .dead, .dead, .dead, .dead, .dead, .dead, .dead, .dead, .dead, .dead, .dead, .dead, .dead, .dead, .dead, .dead, .dead, .dead]) (by simp [fgt, Ns]) (WK.now ⟨0, [], by omega, by omega, by simp, by simp, fun k hk => by simpa [sAt] using (hc.at k).1, rfl, by simp [Ns, intss], rfl⟩))) ?_
      rintro n t H ds ⟨i, h, rfl, hi, hh, hg, hs, rfl, rfl, rfl⟩
      simp only [Ns, intss_length, ty3, T3, ty54, T54, intss_length, Int.ofNat_lt, Kat_go, Kreg_go, Qseq_normal, aregL_nil, aregL_plain, awpL_region, awpL_seq, awpL_cond, aop_move, aop_binOp, aop_len, apureCall, ev, putT, aopBin, isSl, abin, aint, rowLen, alen, kd, List.getD_cons_zero, List.getD_cons_succ, List.set_cons_zero, List.set_cons_succ, List.cons_append, List.nil_append, true_and]
      refine Kbr.mk (fun c => ?_) (fun c => ?_)
      · have c2 : i < l.length := by simpa using c
        have hri := hr i
        obtain ⟨v, hv⟩ : ∃ v, v = l.getD i [] := ⟨_, rfl⟩
        rw [← hv] at hri
        simp only [c2, cel_intss, ← hv, ints_length, intss_length, ty3, T3, ty43, T43, ty54, T54, ints_length, intss_length, Int.natCast_nonneg, Int.ofNat_lt, Kat_go, Kreg_go, Qseq_normal, aregL_plain, aregL_guard, awpL_skip, awpL_region, awpL_seq, awpL_block, aop_move, aop_load, aop_binOp, aop_indexAddr, aop_len, apureCall, ev, cst, putT, gval, aopBin, isSl, abin, aint, rowLen, alen, rowPtr, aidx, aload, rdRow, ldK, kd, esz, List.getD_cons_zero, List.getD_cons_succ, List.set_cons_zero, List.set_cons_succ, List.getElem?_cons_zero, List.getElem?_cons_succ, Nat.reduceLT, Bool.not_true, true_and, Int.toNat_natCast, decide_true]
        refine Kbr.mk (fun c => ?_) (fun c => ?_)
        · have c3 : v.length ≤ 20 := by simp at c; omega
          simp only [c2, cel_intss, ← hv, intss_length, ty43, T43, ty54, T54, ext27, intss_length, Int.natCast_nonneg, Int.ofNat_lt, Kat_go, Kreg_go, Kbr_true, Kgo_go, aregL_guard, aop_move, aop_load, aop_indexAddr, aop_call, acallF_go, ev, cst, putT, gval, rowPtr, aidx, aload, rdRow, ldK, kd, esz, List.getD_cons_zero, List.getD_cons_succ, List.set_cons_zero, List.set_cons_succ, List.getElem?_cons_zero, List.getElem?_cons_succ, List.map_cons, List.map_nil, List.append_nil, Nat.reduceLT, Bool.not_true, beq_self_eq_true, true_and, Int.toNat_natCast]
          refine (nhold_ok 2 1 (Nd cap h) 1 v (nd_in hc hg hs) (by unfold Sz; omega) hri).at [0, 1, 2] (by simp [Ns, sbl, ren_var, ren_map, bel_var, bel_map, AV.renL, AV.ren, AV.belL, AV.bel, rn]) (by simp) (by simp [Tb]) (by simp [sl, AV.ren, rn]) (by simp [AV.belL, AV.bel]) (WK.now ?_)
          rcases hold_cases (v := v) hc hg hs with ⟨e, e1, e2⟩ | ⟨e1, e2, e3, e4⟩
          · rw [e1, e2]
            simp only [Ns, errF, succ64 c2 (show l.length ≤ 4611686018427387904 by omega), ty3, T3, ty32, T32, Qloop_normal, Kat_go, Kreg_go, Qseq_normal, Qblk_normal, Kbr_true, Kbr_false, Vbr_true, Kgo_go, aregL_nil, aregL_plain, aregL_guard, awpL_skip, awpL_region, awpL_cond, lift, putAll, rn, AV.ren, AV.renL, ren_var, ren_map, aop_move, aop_assign, aop_pick, aop_binOp, ev, cst, putT, gval, aopBin, isSl, abin, aint, bEq, acmp, ifaceish, kd, List.getD_cons_zero, List.getD_cons_succ, List.set_cons_zero, List.set_cons_succ, List.getElem?_cons_zero, List.getElem?_cons_succ, List.length_cons, List.length_nil, List.map_cons, List.map_nil, List.append_nil, List.drop_succ_cons, List.drop_nil, Nat.reduceAdd, Nat.reduceSub, Nat.reduceLT, Bool.not_true, beq_self_eq_true, true_and, if_true, Nat.zero_add]
            exact ⟨l.length - (i + 1), by omega, WK.fgt (t' := [.d (.slice 1 (intss l)), .d (.slice 1 (ints cap)), .dead, .dead, .d (.bool false), .pvar 2 0, .sfull 3, .d (.int .i64 (i + 1 : Nat)), .dead, .dead, .dead, .dead, .dead, .dead, .dead, .dead, .dead, .dead, .dead, .dead, .dead, .dead, .dead, .dead, .dead, .dead, .dead, .dead, .dead, .dead, .dead, .dead, .dead, .dead, .dead, .dead, .dead, .dead, .dead, .dead, .dead, .dead, .dead, .dead, .dead, .dead, .dead, .dead, .dead, .dead, .dead, .dead, .dead, .dead, .dead, .dead, .dead, .dead, .dead, .dead, .dead, .dead, .dead, .dead, .dead, .dead, .dead, .dead, .dead, .dead, .dead, .dead, .dead, .dead, .dead, .dead, .dead, .dead, .dead, .dead, .dead, .dead, .dead, .dead]) (by simp [fgt]) (WK.now ⟨i + 1, h, rfl, by omega, by omega, hg, hs, rfl, rfl, rfl⟩)⟩
          · rw [e1, e2]
            simp only [Ns, errF, c2, cel_intss, ← hv, succ64 c2 (show l.length ≤ 4611686018427387904 by omega), intss_length, ty3, T3, ty32, T32, ty43, T43, ty54, T54, Qloop_normal, intss_length, Int.natCast_nonneg, Int.ofNat_lt, Kat_go, Kreg_go, Qseq_normal, Qblk_normal, Kbr_true, Vbr_true, Kgo_go, Kapp_sfull, aregL_nil, aregL_plain, aregL_guard, awpL_region, awpL_cond, lift, putAll, rn, AV.ren, AV.renL, ren_var, ren_map, aop_move, aop_assign, aop_pick, aop_load, aop_binOp, aop_indexAddr, aop_buildSlice, aop_append, aapp_go, ev, cst, putT, gval, aopBin, isSl, abin, aint, bEq, acmp, ifaceish, isC, rowPtr, aidx, aload, rdRow, ldK, kd, esz, afill, splice, AV.cells, D.cells, allD, abuildS, AV.low, rep, chunk, srcRows, List.getD_cons_zero, List.getD_cons_succ, List.set_cons_zero, List.set_cons_succ, List.getElem?_cons_zero, List.getElem?_cons_succ, List.length_cons, List.length_nil, List.map_cons, List.map_nil, List.cons_append, List.nil_append, List.append_nil, List.take_succ_cons, List.take_zero, List.take_nil, List.drop_succ_cons, List.drop_nil, Nat.reduceAdd, Nat.reduceSub, Nat.reduceLeDiff, Nat.reduceLT, Bool.or_true, Bool.not_true, beq_self_eq_true, true_and, if_true, reduceCtorEq, ne_eq, not_false_eq_true, Nat.zero_add, Int.toNat_natCast, Nat.mul_one, and_self]
            refine ⟨room_of (by omega) (by omega), l.length - (i + 1), by omega, WK.pick [0, 1, 2, 4] (t' := [.d (.slice 1 (intss l)), .d (.slice 1 (ints cap)), .dead, .dead, .d (.bool false), .pvar 2 0, .sfull 3, .d (.int .i64 (i + 1 : Nat)), .dead, .dead, .dead, .dead, .dead, .dead, .dead, .dead, .dead, .dead, .dead, .dead, .dead, .dead, .dead, .dead, .dead, .dead, .dead, .dead, .dead, .dead, .dead, .dead, .dead, .dead, .dead, .dead, .dead, .dead, .dead, .dead, .dead, .dead, .dead, .dead, .dead, .dead, .dead, .dead, .dead, .dead, .dead, .dead, .dead, .dead, .dead, .dead, .dead, .dead, .dead, .dead, .dead, .dead, .dead, .dead, .dead, .dead, .dead, .dead, .dead, .dead, .dead, .dead, .dead, .dead, .dead, .dead, .dead, .dead, .dead, .dead, .dead, .dead, .dead, .dead]) (H' := [.map (entE fE (Nd cap (h ++ [v]))), .var [.d (.int .i64 1), .mapo 0], .var [.d (.int .i64 2), .pvar 1 0], .arr 43 1 (intss h ++ [[.slice 1 (ints v)]])]) (by simp [ints, intss, sbl, ren_var, ren_arr, ren_map, bel_var, bel_arr, bel_map, AV.renL, AV.ren, AV.belL, AV.bel, rn]) (by simp) (by simp) (by simp [tellL, AV.ren, AV.bel, rn]) (by intro id h; omega) (WK.now ⟨i + 1, h ++ [v], rfl, by omega, by simp; omega, fun x hx => ?_, e4, rfl, by simp [intss, sl], rfl⟩)⟩
            rcases List.mem_append.1 hx with hx | hx
            · exact hg x hx
            · simp at hx; subst hx; exact e3
        · simp only [succ64 c2 (show l.length ≤ 4611686018427387904 by omega), ty3, T3, Qloop_normal, Kat_go, Kreg_go, Qseq_normal, Qblk_normal, Kbr_false, Vbr_false, Kno_go, aregL_nil, aregL_plain, aregL_guard, awpL_skip, awpL_region, awpL_cond, aop_move, aop_assign, aop_pick, aop_binOp, ev, cst, putT, gval, aopBin, isSl, abin, aint, kd, List.getD_cons_zero, List.getD_cons_succ, List.set_cons_zero, List.set_cons_succ, List.getElem?_cons_zero, List.getElem?_cons_succ, Bool.not_true, true_and, Bool.false_beq]
          exact ⟨l.length - (i + 1), by omega, WK.fgt (t' := [.d (.slice 1 (intss l)), .d (.slice 1 (ints cap)), .dead, .dead, .d (.bool false), .pvar 2 0, .sfull 3, .d (.int .i64 (i + 1 : Nat)), .dead, .dead, .dead, .dead, .dead, .dead, .dead, .dead, .dead, .dead, .dead, .dead, .dead, .dead, .dead, .dead, .dead, .dead, .dead, .dead, .dead, .dead, .dead, .dead, .dead, .dead, .dead, .dead, .dead, .dead, .dead, .dead, .dead, .dead, .dead, .dead, .dead, .dead, .dead, .dead, .dead, .dead, .dead, .dead, .dead, .dead, .dead, .dead, .dead, .dead, .dead, .dead, .dead, .dead, .dead, .dead, .dead, .dead, .dead, .dead, .dead, .dead, .dead, .dead, .dead, .dead, .dead, .dead, .dead, .dead, .dead, .dead, .dead, .dead, .dead, .dead]) (by simp [fgt]) (WK.now ⟨i + 1, h, rfl, by omega, by omega, hg, hs, rfl, rfl, rfl⟩)⟩
      · have c2 : ¬ i < l.length := by simpa using c
        simp only [Qloop_exit, Kreg_go, Qseq_normal, Qseq_exit, Qblk_exit, aregL_nil, aregL_plain, awpL_region, awpL_seq, awpL_block, awpL_loop, awpL_exit, aop_assign, ev, cst, putT, List.set_cons_zero, List.set_cons_succ, if_true]
        refine ALoop.mk (fun n t H ds => ∃ (j : Nat), n = h.length - j ∧ j ≤ h.length ∧ t = [.d (.slice 1 (intss l)), .d (.slice 1 (ints cap)), .dead, .dead, .d (.bool false), .pvar 2 0, .d (.slice 1 (intss h)), .dead, .d (.int .i64 (j : Nat)), .dead, .dead, .dead, .dead, .dead, .dead, .dead, .dead, .dead, .dead, .dead, .dead, .dead, .dead, .dead, .dead, .dead, .dead, .dead, .dead, .dead, .dead, .dead, .dead, .dead, .dead, .dead, .dead, .dead, .dead, .dead, .dead, .dead, .dead, .dead, .dead, .dead, .dead, .dead, .dead, .dead, .dead, .dead, .dead, .dead, .dead, .dead, .dead, .dead, .dead, .dead, .dead, .dead, .dead, .dead, .dead, .dead, .dead, .dead, .dead, .dead, .dead, .dead, .dead, .dead, .dead, .dead, .dead, .dead, .dead, .dead, .dead, .dead, .dead, .dead] ∧ H = Ns 2 1 (Nd cap (h.drop j)) ∧ ds = []) h.length
          (by
            refine WK.frz 3 rfl ?_
            simp only [AV.frzL, AV.frz, AObj.frz, List.set_cons_zero, List.set_cons_succ, List.map_cons, List.map_nil, if_true]
            exact WK.pick [0, 1, 2] (t' := [.d (.slice 1 (intss l)), .d (.slice 1 (ints cap)), .dead, .dead, .d (.bool false), .pvar 2 0, .d (.slice 1 (intss h)), .dead, .d (.int .i64 (0 : Nat)), .dead, .dead, .dead, .dead, .dead, .dead, .dead, .dead, .dead, .dead, .dead, .dead, .dead, .dead, .dead, .dead, .dead, .dead, .dead, .dead, .dead, .dead, .dead, .dead, .dead, .dead, .dead, .dead, .dead, .dead, .dead, .dead, .dead, .dead, .dead, .dead, .dead, .dead, .dead, .dead, .dead, .dead, .dead, .dead, .dead, .dead, .dead, .dead, .dead, .dead, .dead, .dead, .dead, .dead, .dead, .dead, .dead, .dead, .dead, .dead, .dead, .dead, .dead, .dead, .dead, .dead, .dead, .dead, .dead, .dead, .dead, .dead, .dead, .dead, .dead]) (H' := [.map (entE fE (Nd cap h)), .var [.d (.int .i64 1), .mapo 0], .var [.d (.int .i64 2), .pvar 1 0]]) (by simp [sbl, ren_var, ren_map, bel_var, bel_map, AV.renL, AV.ren, AV.belL, AV.bel, rn]) (by simp) (by simp) (by simp [tellL, AV.ren, AV.bel, rn]) (by intro id h; omega) (WK.now ⟨0, by omega, by omega, rfl, rfl, rfl⟩)) ?_
        rintro n t H ds ⟨j, rfl, hj, rfl, rfl, rfl⟩
        simp only [Ns, intss_length, ty3, T3, ty54, T54, intss_length, Int.ofNat_lt, Kat_go, Kreg_go, Qseq_normal, aregL_nil, aregL_plain, awpL_region, awpL_seq, awpL_cond, aop_move, aop_binOp, aop_len, apureCall, ev, putT, aopBin, isSl, abin, aint, rowLen, alen, kd, List.getD_cons_zero, List.getD_cons_succ, List.set_cons_zero, List.set_cons_succ, true_and]
        have hgd : ∀ v ∈ h.drop j, GoodV v := fun v hv => hg v (List.mem_of_mem_drop hv)
        have hsd : ∀ k, k < 2 → sAt k (h.drop j) ≤ cap.getD k 0 := fun k hk => Int.le_trans (sAt_drop k h j hg) (hs k hk)
        refine Kbr.mk (fun c => ?_) (fun c => ?_)
        · have c3 : j < h.length := by simpa using c
          obtain ⟨v, hv⟩ : ∃ v, v = h.getD j [] := ⟨_, rfl⟩
          have hvd : h.drop j = v :: h.drop (j + 1) := by rw [List.drop_eq_getElem_cons c3, hv]; simp [List.getD_eq_getElem?_getD, c3]
          have hvg : GoodV v := hgd v (by rw [hvd]; simp)
          have hrd : ∀ x ∈ h.drop (j + 1), GoodV x := fun x hx => hgd x (by rw [hvd]; simp [hx])
          have hin := nd_in hc hgd hsd
          rw [hvd] at hin hsd
          obtain ⟨r1, r2⟩ := rel_ok hc hvg hrd hsd
          simp only [c3, cel_intss, ← hv, hvd, intss_length, ty43, T43, ty54, T54, ext28, intss_length, Int.natCast_nonneg, Int.ofNat_lt, Kat_go, Kreg_go, Qseq_normal, aregL_plain, awpL_skip, awpL_region, awpL_seq, awpL_block, aop_move, aop_load, aop_indexAddr, aop_call, acallF_go, ev, cst, putT, rowPtr, aidx, aload, rdRow, ldK, kd, esz, List.getD_cons_zero, List.getD_cons_succ, List.set_cons_zero, List.set_cons_succ, List.map_cons, List.map_nil, List.append_nil, Nat.reduceLT, true_and, Int.toNat_natCast, decide_true]
          refine (nrel_ok 2 1 (Nd cap (v :: h.drop (j + 1))) 1 v hin (by unfold Sz; rw [hvg.1]; omega) hvg.inR).at [0, 1, 2] (by simp [Ns, sbl, ren_var, ren_map, bel_var, bel_map, AV.renL, AV.ren, AV.belL, AV.bel, rn]) (by simp) (by simp [Tb]) (by simp [sl, AV.ren, rn]) (by simp [AV.belL, AV.bel]) (WK.now ?_)
          rw [r1, r2]
          simp only [Ns, errF, succ64 c3 (show h.length ≤ 4611686018427387904 by omega), ty3, T3, ty32, T32, Qloop_normal, Kat_go, Kreg_go, Qseq_normal, Qblk_normal, Kbr_false, aregL_nil, aregL_plain, awpL_skip, awpL_region, awpL_cond, lift, putAll, rn, AV.ren, AV.renL, ren_var, ren_map, aop_move, aop_assign, aop_binOp, ev, cst, putT, aopBin, isSl, abin, aint, bEq, acmp, ifaceish, isC, kd, List.getD_cons_zero, List.getD_cons_succ, List.set_cons_zero, List.set_cons_succ, List.length_cons, List.length_nil, List.map_cons, List.map_nil, List.append_nil, List.drop_succ_cons, List.drop_nil, Nat.reduceAdd, Nat.reduceSub, Nat.reduceLT, Bool.or_true, Bool.not_true, true_and, if_true, Nat.zero_add]
          exact ⟨h.length - (j + 1), by omega, WK.fgt (t' := [.d (.slice 1 (intss l)), .d (.slice 1 (ints cap)), .dead, .dead, .d (.bool false), .pvar 2 0, .d (.slice 1 (intss h)), .dead, .d (.int .i64 (j + 1 : Nat)), .dead, .dead, .dead, .dead, .dead, .dead, .dead, .dead, .dead, .dead, .dead, .dead, .dead, .dead, .dead, .dead, .dead, .dead, .dead, .dead, .dead, .dead, .dead, .dead, .dead, .dead, .dead, .dead, .dead, .dead, .dead, .dead, .dead, .dead, .dead, .dead, .dead, .dead, .dead, .dead, .dead, .dead, .dead, .dead, .dead, .dead, .dead, .dead, .dead, .dead, .dead, .dead, .dead, .dead, .dead, .dead, .dead, .dead, .dead, .dead, .dead, .dead, .dead, .dead, .dead, .dead, .dead, .dead, .dead, .dead, .dead, .dead, .dead, .dead, .dead]) (by simp [fgt]) (WK.now ⟨j + 1, rfl, by omega, rfl, rfl, rfl⟩)⟩
        · have c3 : ¬ j < h.length := by simpa using c
          have hnil : h.drop j = [] := List.drop_eq_nil_of_le (by omega)
          rw [hnil]
          have hin : InE (Nd cap []) := nd_in hc (by simp) (fun k hk => by simpa [sAt] using (hc.at k).1)
          simp only [ext30, Qloop_exit, Kreg_go, Qseq_normal, Qseq_exit, Qblk_exit, aregL_plain, awpL_region, awpL_seq, awpL_exit, aop_move, aop_call, acallF_go, ev, cst, putT, List.getD_cons_zero, List.getD_cons_succ, List.set_cons_zero, List.set_cons_succ, List.map_cons, List.map_nil, List.append_nil, if_true]
          refine (nused_ok 2 1 (Nd cap []) 1 hin).at [0, 1, 2] (by simp [Ns, sbl, ren_var, ren_map, bel_var, bel_map, AV.renL, AV.ren, AV.belL, AV.bel, rn]) (by simp) (by simp [Tb]) (by simp [AV.ren, rn]) (by simp [AV.belL, AV.bel]) (WK.now ?_)
          simp only [Ns, nd_get, usedD, show sums [] = [0, 0] from rfl, ty2, T2, ty43, T43, ext29, sl, Kat_go, Kreg_go, aregL_plain, lift, putAll, rn, AV.ren, AV.renL, ren_var, ren_map, aop_buildSlice, aop_call, acallF_go, ev, cst, putT, kd, afill, splice, AV.cells, D.cells, allD, abuildS, AV.low, rep, chunk, List.getD_cons_zero, List.getD_cons_succ, List.set_cons_zero, List.set_cons_succ, List.length_cons, List.length_nil, List.map_cons, List.map_nil, List.cons_append, List.nil_append, List.append_nil, List.take_succ_cons, List.take_zero, List.take_nil, List.drop_succ_cons, List.drop_zero, List.drop_nil, Nat.reduceAdd, Nat.reduceSub, Nat.reduceLeDiff, Nat.reduceLT, true_and, if_true, reduceCtorEq, ne_eq, not_false_eq_true, Nat.zero_add, Nat.mul_one, and_self]
          refine (a13 0 0).go (by simp [argsOk, argOk, sl, ints]) (WK.now ?_)
          simp only [ext31, Kreg_go, Kbr_true, Kgo_go, aregL_plain, aregL_guard, aop_move, aop_call, acallF_go, ev, cst, putT, gval, List.getD_cons_zero, List.getD_cons_succ, List.set_cons_zero, List.set_cons_succ, List.getElem?_cons_zero, List.getElem?_cons_succ, List.map_cons, List.map_nil, List.append_nil, Bool.not_true, beq_self_eq_true]
          refine (nfree_ok 2 1 (Nd cap []) 1 hin).at [0, 1, 2] (by simp [Ns, sbl, ren_var, ren_map, bel_var, bel_map, AV.renL, AV.ren, AV.belL, AV.bel, rn]) (by simp) (by simp [Tb]) (by simp [AV.ren, rn]) (by simp [AV.belL, AV.bel]) (WK.now ?_)
          simp only [Ns, nd_get, free_none hc, rowD, ext29, sl, Kreg_go, Kbr_true, Kgo_go, aregL_guard, lift, putAll, rn, AV.ren, AV.renL, ren_var, ren_map, aop_move, aop_call, acallF_go, ev, putT, gval, List.getD_cons_zero, List.getD_cons_succ, List.set_cons_zero, List.set_cons_succ, List.getElem?_cons_zero, List.getElem?_cons_succ, List.length_cons, List.length_nil, List.map_cons, List.map_nil, List.append_nil, List.drop_succ_cons, List.drop_nil, Nat.reduceAdd, Nat.reduceSub, Nat.reduceLT, Bool.not_true, beq_self_eq_true, if_true, Nat.zero_add]
          have hsz : Sz cap := by unfold Sz; rw [hc.1]; omega
          have hsame := rsame_ok cap cap hsz hsz
          rw [B_true rfl] at hsame
          refine hsame.go (by simp [argsOk, argOk, sl, ints]) (WK.now ?_)
          simp only [Kat_go, Kreg_go, Qseq_normal, Vbr_true, aret_ret, aregL_nil, aregL_plain, awpL_ret, aop_assign, aop_pick, ev, cst, putT, List.getD_cons_zero, List.getD_cons_succ, List.set_cons_zero, List.set_cons_succ]
          refine WK.now ?_
          simp only [Tryd.results7, Kcons_go, Kone_go, Kfin_go, aresL_nil, aresL_tmp, allDefr_nil, offs_nil, one?, List.getD_cons_zero, List.getD_cons_succ, and_self, List.toList_toArray]
  · simp only [ty55, T55, ext25, Kat_go, Kreg_go, Qseq_normal, Kbr_true, Kbr_false, Vbr_true, Kgo_go, Kno_go, aregL_nil, aregL_plain, aregL_guard, awpL_region, awpL_seq, awpL_cond, aop_move, aop_pick, aop_binOp, aop_call, acallF_go, ev, cst, putT, gval, aopBin, isSl, abin, bEq, acmp, ptrish, kd, List.getD_cons_zero, List.getD_cons_succ, List.set_cons_zero, List.set_cons_succ, List.getElem?_cons_zero, List.getElem?_cons_succ, List.map_nil, List.append_nil, Bool.not_true, Bool.not_false, beq_self_eq_true, Bool.true_beq]
    refine nawake_ok.go ⟨⟩ (WK.now ?_)
    simp only [Kat_go, Kreg_go, Qseq_normal, Qseq_ret, Vbr_true, aret_ret, aregL_nil, aregL_plain, awpL_ret, aop_assign, aop_pick, ev, cst, putT, List.getD_cons_zero, List.getD_cons_succ, List.set_cons_zero, List.set_cons_succ]
    refine WK.now ?_
    simp only [Tryd.results7, Kcons_go, Kone_go, Kfin_go, aresL_nil, aresL_tmp, allDefr_nil, offs_nil, one?, List.getD_cons_zero, List.getD_cons_succ, and_self, List.toList_toArray]
end Go.Proofs.YtjljjakfebfpfaaDoor
