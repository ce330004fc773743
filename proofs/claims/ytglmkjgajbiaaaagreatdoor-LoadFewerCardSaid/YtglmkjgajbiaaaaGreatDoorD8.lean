/-
  LoadRises, walked.
-/
import Derived.Test.YtglmkjgajbiaaaaGreatDoorD1
import Derived.Test.YtglmkjgajbiaaaaGreatDoorL5
section
set_option autoImplicit false
set_option linter.unusedVariables false
set_option linter.unusedSimpArgs false
namespace Go.Proofs.YtglmkjgajbiaaaaGreatDoor
open Go.Abs
theorem reqV_mono {f g : Pod → Bool} (k : Nat) : ∀ {l : List Pod}, (∀ q ∈ l, GoodV q.2) → (∀ q ∈ l, f q = true → g q = true) → reqV (l.filter f) k ≤ reqV (l.filter g) k
  | [], _, _ => by simp [reqV]
  | q :: l, h, hfg => by
    have ih := reqV_mono k (l := l) (fun x hx => h x (by simp [hx])) (fun x hx => hfg x (by simp [hx]))
    have hq := ((h q (by simp)).at k).1
    have hi := hfg q (by simp)
    rw [List.filter_cons, List.filter_cons]
    cases hf : f q with
    | true =>
      rw [hi hf]
      simp only [reqV, if_true, List.map_cons, List.sum_cons] at ih ⊢
      omega
    | false =>
      cases hg : g q with
      | false => simp only [Bool.false_eq_true, if_false]; exact ih
      | true =>
        simp only [Bool.false_eq_true, if_false, if_true]
        simp only [reqV, List.map_cons, List.sum_cons] at ih ⊢
        omega
theorem heldP_eq (P : List Pod) (n : Int) (wo : List Int) : heldP P n wo = P.filter fun q => takes wo q && onP n q := by
  unfold heldP
  rw [List.filter_filter]
theorem load_mono {w : Rc} {p q : Pod} {n : Int} {wo wo' : List Int} (hg : ∀ x ∈ w.pods, GoodV x.2) (hs : ∀ x, SeesP q x n → SeesP p x n) (hw : ∀ id, id ∈ wo → id ∈ wo') (k : Nat) :
    (loadV w q n wo').getD k 0 ≤ (loadV w p n wo).getD k 0 := by
  have h1 : ∀ k, reqV (seenP w.pods q n) k ≤ reqV (seenP w.pods p n) k := fun k => reqV_mono k hg fun x _ hx => B_true (hs x (B_iff.1 hx))
  have h2 : ∀ k, reqV (heldP w.pods n wo') k ≤ reqV (heldP w.pods n wo) k := fun k => by
    rw [heldP_eq, heldP_eq]
    refine reqV_mono k hg fun x _ hx => ?_
    obtain ⟨a, b, c⟩ := held_iff.1 hx
    exact held_iff.2 ⟨a, b, fun hm => c (hw _ hm)⟩
  unfold loadV
  split
  · match k with
    | 0 => exact Int.add_le_add (h1 0) (h2 0)
    | 1 => exact Int.add_le_add (h1 1) (h2 1)
    | k + 2 => simp
  · exact Int.le_refl _
theorem zipA_get {u v : List Int} (hu : u.length = 2) (hv : v.length = 2) {k : Nat} (hk : k < 2) : (List.zipWith (· + ·) u v).getD k 0 = u.getD k 0 + v.getD k 0 := by
  have e1 : u[k]? = some u[k] := List.getElem?_eq_getElem (by omega)
  have e2 : v[k]? = some v[k] := List.getElem?_eq_getElem (by omega)
  simp only [List.getD_eq_getElem?_getD, List.getElem?_zipWith, e1, e2, Option.getD_some]
theorem fit_mono {c : Cl} {w : Rc} (h : RC c w) {p q : Pod} {n : Int} {wo wo' : List Int} (hl : ∀ k, (loadV w q n wo').getD k 0 ≤ (loadV w p n wo).getD k 0)
    (hq : GoodV p.2 → GoodV q.2 ∧ ∀ k, q.2.getD k 0 ≤ p.2.getD k 0) (hf : fitB (totS c p n (loadV w p n wo)) = true) : fitB (totS c q n (loadV w q n wo')) = true := by
  rw [h.tot] at hf ⊢
  cases hn : findN w.nodes n with
  | none => rw [hn] at hf; exact hf
  | some m =>
    rw [hn] at hf
    dsimp only at hf ⊢
    by_cases hw : 0 ≤ wrongS p.2 2
    · rw [if_pos hw] at hf; cases hf
    · have hg := goodV_of hw
      obtain ⟨hg2, hle⟩ := hq hg
      rw [if_neg hw] at hf
      rw [if_neg hg2.ok]
      have hF : FitsP _ m.2 := B_iff.1 hf
      refine B_true ⟨by simp [load_len, hg2.1]; have := hF.1; simp [load_len, hg.1] at this; omega, fun k hk => ?_⟩
      have hk2 : k < 2 := by simp [load_len, hg2.1] at hk; omega
      have := hF.2 k (by simp [load_len, hg.1]; omega)
      rw [zipA_get (load_len _ _ _ _) hg.1 hk2] at this
      rw [zipA_get (load_len _ _ _ _) hg2.1 hk2]
      have a := hl k
      have b := hle k
      omega
def highP (p : Pod) (m : Int) : Pod := ({ p.1 with pr := p.1.pr + m }, p.2)
theorem high_sees {p : Pod} {m n : Int} (hm : 0 ≤ m) (x : Pod) (h : SeesP (highP p m) x n) : SeesP p x n :=
  ⟨h.1, h.2.1, h.2.2.1, by have := h.2.2.2; unfold highP at this; simp only at this; omega⟩
set_option maxRecDepth 8000 in
set_option maxHeartbeats 1000000 in
theorem loadRises_ok (nodes : List (Int × List Int)) (ps : List Plc) (p : Pod) (n m : Int) (hm : 0 ≤ m ∧ m ≤ 255) : PCall env 9 [.slice 2 (nds nodes), .slice 11 (plcs ps), fP p, .int .i64 n, .int .u8 m] (.bool true) := by
  refine acalls_of envOk Tryz.func9 rfl (by kernel_rfl) (m := 61) rfl ?_
  simp only [push_cast, simprocAttr, pods_length, nds_length, fP, pL]
  refine (build_ok nodes ps).atK [] (by simp [highP, PV, Tb, Ps, Psn, Ns, Cs, Csn, fP, pL, fE, errD, errF, pgetD, nodeD, sl, pods_length, nds_length, plcs_length, sbl, ren_none, ren_var, ren_arr, ren_map, ren_mapb, ren_iter, ren_loop, ren_defr, bel_none, bel_var, bel_arr, bel_map, bel_mapb, bel_iter, bel_loop, bel_defr, AV.renL, AV.ren, AV.belL, AV.bel, rn]) (by simp) (by simp [highP, PV, Tb, Ps, Psn, Ns, Cs, Csn, fP, pL, fE, errD, errF, pgetD, nodeD, sl, pods_length, nds_length, plcs_length]) (by simp [highP, PV, Tb, Ps, Psn, Ns, Cs, Csn, fP, pL, fE, errD, errF, pgetD, nodeD, sl, pods_length, nds_length, plcs_length, AV.ren, AV.renL, rn]) (by simp [AV.belL, AV.bel]) ?_
  rintro r H' (⟨x, y, z, rfl, rfl⟩ | ⟨c, w, rfl, rfl, h, hnl, hpl⟩)
  · refine WK.now ?_
    simp only [push_cast, simprocAttr, pods_length, nds_length, fP, pL]
    refine awake16_ok.go ⟨⟩ (WK.now ?_)
    simp only [push_cast, simprocAttr, pods_length, nds_length, fP, pL]
    refine awake16_ok.go ⟨⟩ (WK.now ?_)
    simp only [push_cast, simprocAttr, pods_length, nds_length, fP, pL]
    refine WK.now ?_
    simp only [push_cast, simprocAttr, pods_length, nds_length, fP, pL]
  · refine WK.now ?_
    simp only [Cs, fRc, push_cast, simprocAttr, pods_length, nds_length, fP, pL]
    refine awake16_ok.go ⟨⟩ (WK.now ?_)
    simp only [one_pod, push_cast, simprocAttr, pods_length, nds_length, fP, pL]
    refine (few_ok [p] (by simp)).go (by first | exact ⟨.inl rfl, trivial⟩ | exact ⟨.inl rfl, .inl rfl, trivial⟩ | exact ⟨.inl rfl, .inl rfl, .inl rfl, trivial⟩ | simp [argsOk, argOk, sl, sll]) (WK.now ?_)
    cases hf : B (FewP [p]) with
    | false =>
      simp only [push_cast, simprocAttr, pods_length, nds_length, fP, pL]
      refine awake16_ok.go ⟨⟩ (WK.now ?_)
      simp only [push_cast, simprocAttr, pods_length, nds_length, fP, pL]
      refine WK.now ?_
      simp only [push_cast, simprocAttr, pods_length, nds_length, fP, pL]
    | true =>
      have hp := (fewP_one p).1 (B_iff.1 hf)
      have e8 : IntKind.wrap .i64 m = m := wrapi (by omega) (by omega)
      have epr : IntKind.wrap .i64 (p.1.pr + m) = p.1.pr + m := wrapi (by have := hp.1; have := hp.2.1; omega) (by have := hp.1; have := hp.2.1; omega)
      have hsz : Sz p.2 := by have := hp.2.2; unfold Sz; omega
      have hlp := h.ld p n [] (by decide)
      have hlq := h.ld (highP p m) n [] (by decide)
      have hmono := load_mono (n := n) (wo := []) (wo' := []) h.gp (high_sees (p := p) hm.1) (fun _ h => h)
      simp only [e8, epr, push_cast, simprocAttr, pods_length, nds_length, fP, pL]
      refine (of_nil hlp).at [1, 2, 3, 4, 5, 6, 7, 8] (by simp [highP, PV, Tb, Ps, Psn, Ns, Cs, Csn, fP, pL, fE, errD, errF, pgetD, nodeD, sl, pods_length, nds_length, plcs_length, sbl, ren_none, ren_var, ren_arr, ren_map, ren_mapb, ren_iter, ren_loop, ren_defr, bel_none, bel_var, bel_arr, bel_map, bel_mapb, bel_iter, bel_loop, bel_defr, AV.renL, AV.ren, AV.belL, AV.bel, rn]) (by simp) (by simp [highP, PV, Tb, Ps, Psn, Ns, Cs, Csn, fP, pL, fE, errD, errF, pgetD, nodeD, sl, pods_length, nds_length, plcs_length]) (by simp [highP, PV, Tb, Ps, Psn, Ns, Cs, Csn, fP, pL, fE, errD, errF, pgetD, nodeD, sl, pods_length, nds_length, plcs_length, AV.ren, AV.renL, rn]) (by simp [AV.belL, AV.bel]) (WK.now ?_)
      simp only [Cs, push_cast, simprocAttr, pods_length, nds_length, fP, pL]
      refine (of_nil hlq).at [1, 2, 3, 4, 5, 6, 7, 8] (by simp [highP, PV, Tb, Ps, Psn, Ns, Cs, Csn, fP, pL, fE, errD, errF, pgetD, nodeD, sl, pods_length, nds_length, plcs_length, sbl, ren_none, ren_var, ren_arr, ren_map, ren_mapb, ren_iter, ren_loop, ren_defr, bel_none, bel_var, bel_arr, bel_map, bel_mapb, bel_iter, bel_loop, bel_defr, AV.renL, AV.ren, AV.belL, AV.bel, rn]) (by simp) (by simp [highP, PV, Tb, Ps, Psn, Ns, Cs, Csn, fP, pL, fE, errD, errF, pgetD, nodeD, sl, pods_length, nds_length, plcs_length]) (by simp [highP, PV, Tb, Ps, Psn, Ns, Cs, Csn, fP, pL, fE, errD, errF, pgetD, nodeD, sl, pods_length, nds_length, plcs_length, AV.ren, AV.renL, rn]) (by simp [AV.belL, AV.bel]) (WK.now ?_)
      simp only [Cs, push_cast, simprocAttr, pods_length, nds_length, fP, pL]
      refine (rfits_ok (loadV w (highP p m) n []) (loadV w p n []) (by unfold Sz; rw [load_len]; omega)).go (by first | exact ⟨.inl rfl, trivial⟩ | exact ⟨.inl rfl, .inl rfl, trivial⟩ | exact ⟨.inl rfl, .inl rfl, .inl rfl, trivial⟩ | simp [argsOk, argOk, sl, sll]) (WK.now ?_)
      simp only [B_true (show FitsP (loadV w (highP p m) n []) (loadV w p n []) from ⟨by rw [load_len, load_len], fun k _ => hmono k⟩), push_cast, simprocAttr, pods_length, nds_length, fP, pL]
      refine (fits_nil hlp hsz).at [1, 2, 3, 4, 5, 6, 7, 8] (by simp [highP, PV, Tb, Ps, Psn, Ns, Cs, Csn, fP, pL, fE, errD, errF, pgetD, nodeD, sl, pods_length, nds_length, plcs_length, sbl, ren_none, ren_var, ren_arr, ren_map, ren_mapb, ren_iter, ren_loop, ren_defr, bel_none, bel_var, bel_arr, bel_map, bel_mapb, bel_iter, bel_loop, bel_defr, AV.renL, AV.ren, AV.belL, AV.bel, rn]) (by simp) (by simp [highP, PV, Tb, Ps, Psn, Ns, Cs, Csn, fP, pL, fE, errD, errF, pgetD, nodeD, sl, pods_length, nds_length, plcs_length]) (by simp [highP, PV, Tb, Ps, Psn, Ns, Cs, Csn, fP, pL, fE, errD, errF, pgetD, nodeD, sl, pods_length, nds_length, plcs_length, AV.ren, AV.renL, rn]) (by simp [AV.belL, AV.bel]) (WK.now ?_)
      cases hfp : fitB (totS c p n (loadV w p n [])) with
      | false =>
        simp only [Cs, push_cast, simprocAttr, pods_length, nds_length, fP, pL]
        refine WK.now ?_
        simp only [push_cast, simprocAttr, pods_length, nds_length, fP, pL]
      | true =>
        have hfq := fit_mono h (q := highP p m) hmono (fun hg => ⟨hg, fun k => Int.le_refl _⟩) hfp
        simp only [Cs, push_cast, simprocAttr, pods_length, nds_length, fP, pL]
        refine (fits_nil hlq hsz).at [1, 2, 3, 4, 5, 6, 7, 8] (by simp [highP, PV, Tb, Ps, Psn, Ns, Cs, Csn, fP, pL, fE, errD, errF, pgetD, nodeD, sl, pods_length, nds_length, plcs_length, sbl, ren_none, ren_var, ren_arr, ren_map, ren_mapb, ren_iter, ren_loop, ren_defr, bel_none, bel_var, bel_arr, bel_map, bel_mapb, bel_iter, bel_loop, bel_defr, AV.renL, AV.ren, AV.belL, AV.bel, rn]) (by simp) (by simp [highP, PV, Tb, Ps, Psn, Ns, Cs, Csn, fP, pL, fE, errD, errF, pgetD, nodeD, sl, pods_length, nds_length, plcs_length]) (by simp [highP, PV, Tb, Ps, Psn, Ns, Cs, Csn, fP, pL, fE, errD, errF, pgetD, nodeD, sl, pods_length, nds_length, plcs_length, AV.ren, AV.renL, rn]) (by simp [AV.belL, AV.bel]) (WK.now ?_)
        simp only [Cs, hfq, push_cast, simprocAttr, pods_length, nds_length, fP, pL]
        refine WK.now ?_
        simp only [push_cast, simprocAttr, pods_length, nds_length, fP, pL]
end Go.Proofs.YtglmkjgajbiaaaaGreatDoor
end
