/-
  LoadBinds, walked.
-/
import Derived.Test.YtglmkjgajbiaaaaGreatDoorD1
import Derived.Test.YtglmkjgajbiaaaaGreatDoorL5
section
set_option autoImplicit false
set_option linter.unusedVariables false
set_option linter.unusedSimpArgs false
namespace Go.Proofs.YtglmkjgajbiaaaaGreatDoor
open Go.Abs
theorem sum_split (f : Pod → Int) (A B : List Pod) (q : Pod) : ((A ++ q :: B).map f).sum = (A.map f).sum + f q + (B.map f).sum := by
  simp [List.sum_append, Int.add_assoc]
theorem bind_load {w : Rc} (hn : NoDup (kv pid w.pods)) {q : Pod} (hq : q ∈ w.pods) (hph : ¬ holdsP q.1.ph) (p : Pod) (n : Int) (hne : p.1.id ≠ q.1.id) (hnode : (findN w.nodes n).isSome = true) (k : Nat) (hk : k < 2) :
    (loadV { w with pods := updP w.pods (applyP q 1 3 n (-1)) } p n []).getD k 0 = (loadV w p n []).getD k 0 + if B (SeesP p q n) = true then 0 else q.2.getD k 0 := by
  obtain ⟨A, B', hP, hA, hB⟩ := split_of hn hq
  have hup : updP w.pods (applyP q 1 3 n (-1)) = A ++ (applyP q 1 3 n (-1)) :: B' := by rw [hP]; exact updP_split rfl hA hB
  have hseen : ∀ k, reqV (seenP (updP w.pods (applyP q 1 3 n (-1))) p n) k = reqV (seenP w.pods p n) k - if B (SeesP p q n) = true then q.2.getD k 0 else 0 := fun k => by
    rw [seenV_sum, seenV_sum, hup, hP, sum_split, sum_split]
    rw [B_false (show ¬ SeesP p (applyP q 1 3 n (-1)) n from fun h => absurd (show (3 : Int) = 2 from h.1) (by decide))]
    simp only [Bool.false_eq_true, if_false]
    omega
  have hheld : ∀ k, reqV (heldP (updP w.pods (applyP q 1 3 n (-1))) n []) k = reqV (heldP w.pods n []) k + q.2.getD k 0 := fun k => by
    rw [heldV_sum, heldV_sum, hup, hP, sum_split, sum_split]
    rw [if_pos (show (applyP q 1 3 n (-1)).1.nd = n ∧ holdsP (applyP q 1 3 n (-1)).1.ph ∧ (applyP q 1 3 n (-1)).1.id ∉ [] from ⟨rfl, .inl rfl, by simp⟩), if_neg (fun h => hph h.2.1)]
    show _ + (q.2.getD k 0) + _ = _
    omega
  unfold loadV
  rw [hnode]
  simp only [if_true]
  have hk2 : k = 0 ∨ k = 1 := by omega
  rcases hk2 with rfl | rfl
  · show reqV _ 0 + reqV _ 0 = (reqV _ 0 + reqV _ 0) + _
    rw [hseen, hheld]
    cases B (SeesP p q n) <;> simp <;> omega
  · show reqV _ 1 + reqV _ 1 = (reqV _ 1 + reqV _ 1) + _
    rw [hseen, hheld]
    cases B (SeesP p q n) <;> simp <;> omega
theorem load_two (w : Rc) (p : Pod) (n : Int) (wo : List Int) : loadV w p n wo = [(loadV w p n wo).getD 0 0, (loadV w p n wo).getD 1 0] := by
  have := load_len w p n wo
  match loadV w p n wo, this with
  | [a, b], _ => rfl
theorem RC.hold_eq {c : Cl} {w : Rc} (h : RC c w) {q : Pod} {n : Int} {m : Int × List Int} (hm : q ∈ w.pods) (hn : findN w.nodes n = some m) :
    chgE c.N c.d n q.2 (heldS q.2) = bif B (FitsP ((addS [useOf w.pods n, q.2]).getD []) m.2) then none else some (10, 0) := by
  obtain ⟨hnm, hna⟩ := findN_some hn
  have hg := h.gp q hm
  have hgn := h.gn m hnm
  have u0 := useAt_pos 0 n w.pods h.gp
  have u1 := useAt_pos 1 n w.pods h.gp
  have f0 := h.fit m hnm 0 (by omega)
  have f1 := h.fit m hnm 1 (by omega)
  rw [hna] at f0 f1
  have g0 := hg.at 0
  have g1 := hg.at 1
  have c0 := hgn.at 0
  have c1 := hgn.at 1
  have hadd : addS [useOf w.pods n, q.2] = some (List.zipWith (· + ·) (useOf w.pods n) q.2) := addS_two (by rw [hg.1]; rfl) (fun k hk => by
    have hk2 : k = 0 ∨ k = 1 := by have : k < 2 := hk; omega
    rcases hk2 with rfl | rfl
    · show I64 (useAt 0 w.pods n + _); unfold I64; omega
    · show I64 (useAt 1 w.pods n + _); unfold I64; omega)
  have hgetN : lget c.N n = some (m.1, m.2, useOf w.pods m.1) := by
    have := h.getN n
    rw [hn] at this
    exact this
  have hheld : heldS q.2 (m.1, m.2, useOf w.pods m.1) = bif B (FitsP (List.zipWith (· + ·) (useOf w.pods n) q.2) m.2) then some (List.zipWith (· + ·) (useOf w.pods n) q.2) else none := by
    unfold heldS
    rw [hna, hadd]
    rfl
  unfold chgE
  rw [hgetN, h.d1, hadd]
  simp only [if_neg hg.ok, hheld, Option.getD_some]
  cases B (FitsP (List.zipWith (· + ·) (useOf w.pods n) q.2) m.2) <;> rfl
theorem bind_cases {c : Cl} {w : Rc} (h : RC c w) (id n : Int) :
    ((∃ x : Int × Int, ∃ y : Pd × D, placeD c id n 1 = .tup [.agg (pL' y), errF (some x)]) ∧ (clPlace c id n 1).1 = c) ∨
    (∃ q, findP w.pods id = some q ∧ ¬ holdsP q.1.ph ∧ (findN w.nodes n).isSome = true ∧ placeD c id n 1 = .tup [fP (applyP q 1 3 n (-1)), .nili] ∧ rcPlace w id n 1 = { w with pods := updP w.pods (applyP q 1 3 n (-1)) }) := by
  have hb := h.bind id n
  unfold placeD clPlace
  rw [h.get, h.getN]
  cases hp : findP w.pods id with
  | none => exact .inl ⟨⟨_, (pod0, .nils), rfl⟩, rfl⟩
  | some q =>
    cases hn : findN w.nodes n with
    | none => exact .inl ⟨⟨_, (pod0, .nils), rfl⟩, rfl⟩
    | some m =>
      dsimp only [Option.map_some]
      cases hx : nextP q.1.ph 1 with
      | none => exact .inl ⟨⟨_, (pod0, .nils), rfl⟩, rfl⟩
      | some to =>
        have hw := next_waits (.inl hx)
        have hto : to = 3 := by
          unfold nextP at hx
          rw [if_pos rfl, if_pos hw] at hx
          exact (Option.some.inj hx).symm
        subst hto
        dsimp only
        rw [if_pos rfl, if_pos rfl]
        cases ha : (chgE c.N c.d n q.2 (heldS q.2)).any (fun x => x.1 == 10) with
        | true =>
          obtain ⟨x, hx'⟩ : ∃ x, chgE c.N c.d n q.2 (heldS q.2) = some x := by
            cases hc : chgE c.N c.d n q.2 (heldS q.2) with
            | none => rw [hc] at ha; cases ha
            | some x => exact ⟨x, rfl⟩
          rw [hx']
          exact .inl ⟨⟨x, (pod0, .nils), rfl⟩, rfl⟩
        | false =>
          refine .inr ⟨q, rfl, by unfold holdsP; omega, rfl, rfl, ?_⟩
          unfold rcPlace
          rw [hp, hn]
          dsimp only
          rw [hx]
          dsimp only
          rw [if_pos rfl]
          cases hB : B (FitsP ((addS [useOf w.pods n, q.2]).getD []) m.2) with
          | true => rfl
          | false =>
            rw [h.hold_eq (findP_some hp).1 hn, hB] at ha
            cases ha
set_option maxRecDepth 8000 in
set_option maxHeartbeats 1000000 in
theorem loadBinds_ok (nodes : List (Int × List Int)) (ps : List Plc) (p : Pod) (id n : Int) : PCall env 10 [.slice 2 (nds nodes), .slice 11 (plcs ps), fP p, .int .i64 id, .int .i64 n] (.bool true) := by
  refine acalls_of envOk Tryz.func10 rfl (by kernel_rfl) (m := 106) rfl ?_
  simp only [push_cast, simprocAttr, pods_length, nds_length, fP, pL]
  refine (build_ok nodes ps).atK [] (by simp [applyP, pL', PV, Tb, Ps, Psn, Ns, Cs, Csn, fP, pL, fE, errD, errF, pgetD, nodeD, sl, pods_length, nds_length, plcs_length, sbl, ren_none, ren_var, ren_arr, ren_map, ren_mapb, ren_iter, ren_loop, ren_defr, bel_none, bel_var, bel_arr, bel_map, bel_mapb, bel_iter, bel_loop, bel_defr, AV.renL, AV.ren, AV.belL, AV.bel, rn]) (by simp) (by simp [applyP, pL', PV, Tb, Ps, Psn, Ns, Cs, Csn, fP, pL, fE, errD, errF, pgetD, nodeD, sl, pods_length, nds_length, plcs_length]) (by simp [applyP, pL', PV, Tb, Ps, Psn, Ns, Cs, Csn, fP, pL, fE, errD, errF, pgetD, nodeD, sl, pods_length, nds_length, plcs_length, AV.ren, AV.renL, rn]) (by simp [AV.belL, AV.bel]) ?_
  rintro r H' (⟨x, y, z, rfl, rfl⟩ | ⟨c, w, rfl, rfl, h, hnl, hpl⟩)
  · refine WK.now ?_
    simp only [push_cast, simprocAttr, pods_length, nds_length, fP, pL]
    refine awake16_ok.go ⟨⟩ (WK.now ?_)
    simp only [push_cast, simprocAttr, pods_length, nds_length, fP, pL]
    refine awake16_ok.go ⟨⟩ (WK.now ?_)
    simp only [push_cast, simprocAttr, pods_length, nds_length, fP, pL]
    refine WK.now ?_
    simp only [push_cast, simprocAttr, pods_length, nds_length, fP, pL]
  · refine WK.now ?_
    simp only [Cs, fRc, push_cast, simprocAttr, pods_length, nds_length, fP, pL]
    refine awake16_ok.go ⟨⟩ (WK.now ?_)
    simp only [one_pod, push_cast, simprocAttr, pods_length, nds_length, fP, pL]
    refine (few_ok [p] (by simp)).go (by first | exact ⟨.inl rfl, trivial⟩ | exact ⟨.inl rfl, .inl rfl, trivial⟩ | exact ⟨.inl rfl, .inl rfl, .inl rfl, trivial⟩ | simp [argsOk, argOk, sl, sll]) (WK.now ?_)
    cases hf : B (FewP [p]) with
    | false =>
      simp only [push_cast, simprocAttr, pods_length, nds_length, fP, pL]
      refine awake16_ok.go ⟨⟩ (WK.now ?_)
      simp only [push_cast, simprocAttr, pods_length, nds_length, fP, pL]
      refine WK.now ?_
      simp only [push_cast, simprocAttr, pods_length, nds_length, fP, pL]
    | true =>
      by_cases hid : p.1.id = id
      · have e1 : (p.1.id == id) = true := by simpa using hid
        simp only [e1, push_cast, simprocAttr, pods_length, nds_length, fP, pL]
        refine awake16_ok.go ⟨⟩ (WK.now ?_)
        simp only [push_cast, simprocAttr, pods_length, nds_length, fP, pL]
        refine WK.now ?_
        simp only [push_cast, simprocAttr, pods_length, nds_length, fP, pL]
      · have e1 : (p.1.id == id) = false := by simpa using hid
        have hld := h.ld p n [] (by decide)
        have hb := h.bind id n
        have hcb := cbind_ok c id n h.ok
        have hlen := load_len w p n []
        simp only [e1, push_cast, simprocAttr, pods_length, nds_length, fP, pL]
        refine (cpod_ok c id h.ok.L).at [1, 2, 3, 4, 5, 6, 7, 8] (by simp [applyP, pL', PV, Tb, Ps, Psn, Ns, Cs, Csn, fP, pL, fE, errD, errF, pgetD, nodeD, sl, pods_length, nds_length, plcs_length, sbl, ren_none, ren_var, ren_arr, ren_map, ren_mapb, ren_iter, ren_loop, ren_defr, bel_none, bel_var, bel_arr, bel_map, bel_mapb, bel_iter, bel_loop, bel_defr, AV.renL, AV.ren, AV.belL, AV.bel, rn]) (by simp) (by simp [applyP, pL', PV, Tb, Ps, Psn, Ns, Cs, Csn, fP, pL, fE, errD, errF, pgetD, nodeD, sl, pods_length, nds_length, plcs_length]) (by simp [applyP, pL', PV, Tb, Ps, Psn, Ns, Cs, Csn, fP, pL, fE, errD, errF, pgetD, nodeD, sl, pods_length, nds_length, plcs_length, AV.ren, AV.renL, rn]) (by simp [AV.belL, AV.bel]) (WK.now ?_)
        rcases bind_cases h id n with ⟨⟨x, y, hpd⟩, hcl⟩ | ⟨q, hq, hph, hnode, hpd, hrc⟩
        · rw [hpd] at hcb
          rw [hcl] at hcb
          have hq2 : ∃ q : Pd × D, ∃ b : Bool, pgetD (lget c.L id) = .tup [.agg (pL' q), .bool b] := ⟨(((lget c.L id).getD pz).1, .slice 1 (ints ((lget c.L id).getD pz).2)), (lget c.L id).isSome, rfl⟩
          obtain ⟨q, bb, hq2⟩ := hq2
          rw [hq2]
          simp only [Cs, pL', push_cast, simprocAttr, pods_length, nds_length, fP, pL]
          refine (of_nil hld).at [1, 2, 3, 4, 5, 6, 7, 8] (by simp [applyP, pL', PV, Tb, Ps, Psn, Ns, Cs, Csn, fP, pL, fE, errD, errF, pgetD, nodeD, sl, pods_length, nds_length, plcs_length, sbl, ren_none, ren_var, ren_arr, ren_map, ren_mapb, ren_iter, ren_loop, ren_defr, bel_none, bel_var, bel_arr, bel_map, bel_mapb, bel_iter, bel_loop, bel_defr, AV.renL, AV.ren, AV.belL, AV.bel, rn]) (by simp) (by simp [applyP, pL', PV, Tb, Ps, Psn, Ns, Cs, Csn, fP, pL, fE, errD, errF, pgetD, nodeD, sl, pods_length, nds_length, plcs_length]) (by simp [applyP, pL', PV, Tb, Ps, Psn, Ns, Cs, Csn, fP, pL, fE, errD, errF, pgetD, nodeD, sl, pods_length, nds_length, plcs_length, AV.ren, AV.renL, rn]) (by simp [AV.belL, AV.bel]) (WK.now ?_)
          simp only [Cs, push_cast, simprocAttr, pods_length, nds_length, fP, pL]
          by_cases k1 : q.1.ph = 2
          · have s1 : (q.1.ph == 2) = true := by simpa using k1
            by_cases k2 : q.1.nd = n
            · have s2 : (q.1.nd == n) = true := by simpa using k2
              simp only [s1, s2, push_cast, simprocAttr, pods_length, nds_length, fP, pL]
              refine hcb.at [1, 2, 3, 4, 5, 6, 7, 8] (by simp [applyP, pL', PV, Tb, Ps, Psn, Ns, Cs, Csn, fP, pL, fE, errD, errF, pgetD, nodeD, sl, pods_length, nds_length, plcs_length, sbl, ren_none, ren_var, ren_arr, ren_map, ren_mapb, ren_iter, ren_loop, ren_defr, bel_none, bel_var, bel_arr, bel_map, bel_mapb, bel_iter, bel_loop, bel_defr, AV.renL, AV.ren, AV.belL, AV.bel, rn]) (by simp) (by simp [applyP, pL', PV, Tb, Ps, Psn, Ns, Cs, Csn, fP, pL, fE, errD, errF, pgetD, nodeD, sl, pods_length, nds_length, plcs_length]) (by simp [applyP, pL', PV, Tb, Ps, Psn, Ns, Cs, Csn, fP, pL, fE, errD, errF, pgetD, nodeD, sl, pods_length, nds_length, plcs_length, AV.ren, AV.renL, rn]) (by simp [AV.belL, AV.bel]) (WK.now ?_)
              simp only [Cs, pL', errF, push_cast, simprocAttr, pods_length, nds_length, fP, pL]
              refine (of_nil hld).at [1, 2, 3, 4, 5, 6, 7, 8] (by simp [applyP, pL', PV, Tb, Ps, Psn, Ns, Cs, Csn, fP, pL, fE, errD, errF, pgetD, nodeD, sl, pods_length, nds_length, plcs_length, sbl, ren_none, ren_var, ren_arr, ren_map, ren_mapb, ren_iter, ren_loop, ren_defr, bel_none, bel_var, bel_arr, bel_map, bel_mapb, bel_iter, bel_loop, bel_defr, AV.renL, AV.ren, AV.belL, AV.bel, rn]) (by simp) (by simp [applyP, pL', PV, Tb, Ps, Psn, Ns, Cs, Csn, fP, pL, fE, errD, errF, pgetD, nodeD, sl, pods_length, nds_length, plcs_length]) (by simp [applyP, pL', PV, Tb, Ps, Psn, Ns, Cs, Csn, fP, pL, fE, errD, errF, pgetD, nodeD, sl, pods_length, nds_length, plcs_length, AV.ren, AV.renL, rn]) (by simp [AV.belL, AV.bel]) (WK.now ?_)
              simp only [Cs, push_cast, simprocAttr, pods_length, nds_length, fP, pL]
              refine (rsame_ok (loadV w p n []) (loadV w p n []) (by unfold Sz; omega) (by unfold Sz; omega)).go (by first | exact ⟨.inl rfl, trivial⟩ | exact ⟨.inl rfl, .inl rfl, trivial⟩ | exact ⟨.inl rfl, .inl rfl, .inl rfl, trivial⟩ | simp [argsOk, argOk, sl, sll]) (WK.now ?_)
              simp only [B_true (show loadV w p n [] = loadV w p n [] from rfl), push_cast, simprocAttr, pods_length, nds_length, fP, pL]
              refine WK.now ?_
              simp only [push_cast, simprocAttr, pods_length, nds_length, fP, pL]
            · have s2 : (q.1.nd == n) = false := by simpa using k2
              simp only [s1, s2, push_cast, simprocAttr, pods_length, nds_length, fP, pL]
              refine hcb.at [1, 2, 3, 4, 5, 6, 7, 8] (by simp [applyP, pL', PV, Tb, Ps, Psn, Ns, Cs, Csn, fP, pL, fE, errD, errF, pgetD, nodeD, sl, pods_length, nds_length, plcs_length, sbl, ren_none, ren_var, ren_arr, ren_map, ren_mapb, ren_iter, ren_loop, ren_defr, bel_none, bel_var, bel_arr, bel_map, bel_mapb, bel_iter, bel_loop, bel_defr, AV.renL, AV.ren, AV.belL, AV.bel, rn]) (by simp) (by simp [applyP, pL', PV, Tb, Ps, Psn, Ns, Cs, Csn, fP, pL, fE, errD, errF, pgetD, nodeD, sl, pods_length, nds_length, plcs_length]) (by simp [applyP, pL', PV, Tb, Ps, Psn, Ns, Cs, Csn, fP, pL, fE, errD, errF, pgetD, nodeD, sl, pods_length, nds_length, plcs_length, AV.ren, AV.renL, rn]) (by simp [AV.belL, AV.bel]) (WK.now ?_)
              simp only [Cs, pL', errF, push_cast, simprocAttr, pods_length, nds_length, fP, pL]
              refine (of_nil hld).at [1, 2, 3, 4, 5, 6, 7, 8] (by simp [applyP, pL', PV, Tb, Ps, Psn, Ns, Cs, Csn, fP, pL, fE, errD, errF, pgetD, nodeD, sl, pods_length, nds_length, plcs_length, sbl, ren_none, ren_var, ren_arr, ren_map, ren_mapb, ren_iter, ren_loop, ren_defr, bel_none, bel_var, bel_arr, bel_map, bel_mapb, bel_iter, bel_loop, bel_defr, AV.renL, AV.ren, AV.belL, AV.bel, rn]) (by simp) (by simp [applyP, pL', PV, Tb, Ps, Psn, Ns, Cs, Csn, fP, pL, fE, errD, errF, pgetD, nodeD, sl, pods_length, nds_length, plcs_length]) (by simp [applyP, pL', PV, Tb, Ps, Psn, Ns, Cs, Csn, fP, pL, fE, errD, errF, pgetD, nodeD, sl, pods_length, nds_length, plcs_length, AV.ren, AV.renL, rn]) (by simp [AV.belL, AV.bel]) (WK.now ?_)
              simp only [Cs, push_cast, simprocAttr, pods_length, nds_length, fP, pL]
              refine (rsame_ok (loadV w p n []) (loadV w p n []) (by unfold Sz; omega) (by unfold Sz; omega)).go (by first | exact ⟨.inl rfl, trivial⟩ | exact ⟨.inl rfl, .inl rfl, trivial⟩ | exact ⟨.inl rfl, .inl rfl, .inl rfl, trivial⟩ | simp [argsOk, argOk, sl, sll]) (WK.now ?_)
              simp only [B_true (show loadV w p n [] = loadV w p n [] from rfl), push_cast, simprocAttr, pods_length, nds_length, fP, pL]
              refine WK.now ?_
              simp only [push_cast, simprocAttr, pods_length, nds_length, fP, pL]
          · have s1 : (q.1.ph == 2) = false := by simpa using k1
            simp only [s1, push_cast, simprocAttr, pods_length, nds_length, fP, pL]
            refine hcb.at [1, 2, 3, 4, 5, 6, 7, 8] (by simp [applyP, pL', PV, Tb, Ps, Psn, Ns, Cs, Csn, fP, pL, fE, errD, errF, pgetD, nodeD, sl, pods_length, nds_length, plcs_length, sbl, ren_none, ren_var, ren_arr, ren_map, ren_mapb, ren_iter, ren_loop, ren_defr, bel_none, bel_var, bel_arr, bel_map, bel_mapb, bel_iter, bel_loop, bel_defr, AV.renL, AV.ren, AV.belL, AV.bel, rn]) (by simp) (by simp [applyP, pL', PV, Tb, Ps, Psn, Ns, Cs, Csn, fP, pL, fE, errD, errF, pgetD, nodeD, sl, pods_length, nds_length, plcs_length]) (by simp [applyP, pL', PV, Tb, Ps, Psn, Ns, Cs, Csn, fP, pL, fE, errD, errF, pgetD, nodeD, sl, pods_length, nds_length, plcs_length, AV.ren, AV.renL, rn]) (by simp [AV.belL, AV.bel]) (WK.now ?_)
            simp only [Cs, pL', errF, push_cast, simprocAttr, pods_length, nds_length, fP, pL]
            refine (of_nil hld).at [1, 2, 3, 4, 5, 6, 7, 8] (by simp [applyP, pL', PV, Tb, Ps, Psn, Ns, Cs, Csn, fP, pL, fE, errD, errF, pgetD, nodeD, sl, pods_length, nds_length, plcs_length, sbl, ren_none, ren_var, ren_arr, ren_map, ren_mapb, ren_iter, ren_loop, ren_defr, bel_none, bel_var, bel_arr, bel_map, bel_mapb, bel_iter, bel_loop, bel_defr, AV.renL, AV.ren, AV.belL, AV.bel, rn]) (by simp) (by simp [applyP, pL', PV, Tb, Ps, Psn, Ns, Cs, Csn, fP, pL, fE, errD, errF, pgetD, nodeD, sl, pods_length, nds_length, plcs_length]) (by simp [applyP, pL', PV, Tb, Ps, Psn, Ns, Cs, Csn, fP, pL, fE, errD, errF, pgetD, nodeD, sl, pods_length, nds_length, plcs_length, AV.ren, AV.renL, rn]) (by simp [AV.belL, AV.bel]) (WK.now ?_)
            simp only [Cs, push_cast, simprocAttr, pods_length, nds_length, fP, pL]
            refine (rsame_ok (loadV w p n []) (loadV w p n []) (by unfold Sz; omega) (by unfold Sz; omega)).go (by first | exact ⟨.inl rfl, trivial⟩ | exact ⟨.inl rfl, .inl rfl, trivial⟩ | exact ⟨.inl rfl, .inl rfl, .inl rfl, trivial⟩ | simp [argsOk, argOk, sl, sll]) (WK.now ?_)
            simp only [B_true (show loadV w p n [] = loadV w p n [] from rfl), push_cast, simprocAttr, pods_length, nds_length, fP, pL]
            refine WK.now ?_
            simp only [push_cast, simprocAttr, pods_length, nds_length, fP, pL]
        · rw [hpd] at hcb
          rw [hrc] at hb
          obtain ⟨hqm, hqi⟩ := findP_some hq
          have hne : p.1.id ≠ q.1.id := fun e => hid (e.trans hqi)
          have hbl := bind_load h.ndp hqm hph p n hne hnode
          have hld2 := hb.ld p n [] (by decide)
          have hgq := h.gp q hqm
          obtain ⟨c', hc'⟩ : ∃ c', c' = (clPlace c id n 1).1 := ⟨_, rfl⟩
          rw [← hc'] at hcb hb hld2
          obtain ⟨lv, hlv⟩ : ∃ lv, lv = loadV w p n [] := ⟨_, rfl⟩
          obtain ⟨lv2, hlv2⟩ : ∃ lv, lv = loadV { w with pods := updP w.pods (applyP q 1 3 n (-1)) } p n [] := ⟨_, rfl⟩
          have hl2 := load_len { w with pods := updP w.pods (applyP q 1 3 n (-1)) } p n []
          have ht1 := load_two w p n []
          have ht2 := load_two { w with pods := updP w.pods (applyP q 1 3 n (-1)) } p n []
          have hinr := load_inR h p n []
          have hbd := load_bd h p n []
          rw [← hlv2] at hld2 hl2 ht2 hbl
          rw [← hlv] at hld hlen ht1 hbl hinr hbd
          have hlg : lget c.L id = some q := by rw [h.get, hq]
          rw [hlg]
          simp only [Cs, pgetD, Option.getD_some, Option.isSome_some, push_cast, simprocAttr, pods_length, nds_length, fP, pL]
          refine (of_nil hld).at [1, 2, 3, 4, 5, 6, 7, 8] (by simp [applyP, pL', PV, Tb, Ps, Psn, Ns, Cs, Csn, fP, pL, fE, errD, errF, pgetD, nodeD, sl, pods_length, nds_length, plcs_length, sbl, ren_none, ren_var, ren_arr, ren_map, ren_mapb, ren_iter, ren_loop, ren_defr, bel_none, bel_var, bel_arr, bel_map, bel_mapb, bel_iter, bel_loop, bel_defr, AV.renL, AV.ren, AV.belL, AV.bel, rn]) (by simp) (by simp [applyP, pL', PV, Tb, Ps, Psn, Ns, Cs, Csn, fP, pL, fE, errD, errF, pgetD, nodeD, sl, pods_length, nds_length, plcs_length]) (by simp [applyP, pL', PV, Tb, Ps, Psn, Ns, Cs, Csn, fP, pL, fE, errD, errF, pgetD, nodeD, sl, pods_length, nds_length, plcs_length, AV.ren, AV.renL, rn]) (by simp [AV.belL, AV.bel]) (WK.now ?_)
          simp only [Cs, push_cast, simprocAttr, pods_length, nds_length, fP, pL]
          have hnosee : ∀ (hs : ¬ SeesP p q n), lv2 = List.zipWith (· + ·) lv q.2 ∧ addS [lv, q.2] = some lv2 := fun hs => by
            have e0 := hbl 0 (by omega)
            have e1 := hbl 1 (by omega)
            rw [B_false hs] at e0 e1
            simp only [Bool.false_eq_true, if_false] at e0 e1
            have hz : lv2 = List.zipWith (· + ·) lv q.2 := by
              rw [ht2, e0, e1]
              conv => rhs; rw [ht1, hgq.two]
              rfl
            refine ⟨hz, ?_⟩
            rw [hz]
            exact addS_two (by rw [hlen, hgq.1]) fun k hk => by
              have a := hbd k
              have b := hgq.at k
              unfold I64; omega
          have hsee : SeesP p q n → lv2 = lv := fun hs => by
            have e0 := hbl 0 (by omega)
            have e1 := hbl 1 (by omega)
            rw [B_true hs] at e0 e1
            simp only [if_true, Int.add_zero] at e0 e1
            rw [ht2, e0, e1, ← ht1]
          by_cases k1 : q.1.ph = 2
          · have s1 : (q.1.ph == 2) = true := by simpa using k1
            by_cases k2 : q.1.nd = n
            · have s2 : (q.1.nd == n) = true := by simpa using k2
              by_cases k3 : p.1.pr ≤ q.1.pr
              · have s3 : decide (q.1.pr ≥ p.1.pr) = true := decide_eq_true k3
                simp only [s1, s2, s3, push_cast, simprocAttr, pods_length, nds_length, fP, pL]
                rw [hsee ⟨k1, k2, fun e => hne e.symm, k3⟩] at hld2
                refine hcb.at [1, 2, 3, 4, 5, 6, 7, 8] (by simp [applyP, pL', PV, Tb, Ps, Psn, Ns, Cs, Csn, fP, pL, fE, errD, errF, pgetD, nodeD, sl, pods_length, nds_length, plcs_length, sbl, ren_none, ren_var, ren_arr, ren_map, ren_mapb, ren_iter, ren_loop, ren_defr, bel_none, bel_var, bel_arr, bel_map, bel_mapb, bel_iter, bel_loop, bel_defr, AV.renL, AV.ren, AV.belL, AV.bel, rn]) (by simp) (by simp [applyP, pL', PV, Tb, Ps, Psn, Ns, Cs, Csn, fP, pL, fE, errD, errF, pgetD, nodeD, sl, pods_length, nds_length, plcs_length]) (by simp [applyP, pL', PV, Tb, Ps, Psn, Ns, Cs, Csn, fP, pL, fE, errD, errF, pgetD, nodeD, sl, pods_length, nds_length, plcs_length, AV.ren, AV.renL, rn]) (by simp [AV.belL, AV.bel]) (WK.now ?_)
                simp only [Cs, applyP, push_cast, simprocAttr, pods_length, nds_length, fP, pL]
                refine (of_nil hld2).at [1, 2, 3, 4, 5, 6, 7, 8] (by simp [applyP, pL', PV, Tb, Ps, Psn, Ns, Cs, Csn, fP, pL, fE, errD, errF, pgetD, nodeD, sl, pods_length, nds_length, plcs_length, sbl, ren_none, ren_var, ren_arr, ren_map, ren_mapb, ren_iter, ren_loop, ren_defr, bel_none, bel_var, bel_arr, bel_map, bel_mapb, bel_iter, bel_loop, bel_defr, AV.renL, AV.ren, AV.belL, AV.bel, rn]) (by simp) (by simp [applyP, pL', PV, Tb, Ps, Psn, Ns, Cs, Csn, fP, pL, fE, errD, errF, pgetD, nodeD, sl, pods_length, nds_length, plcs_length]) (by simp [applyP, pL', PV, Tb, Ps, Psn, Ns, Cs, Csn, fP, pL, fE, errD, errF, pgetD, nodeD, sl, pods_length, nds_length, plcs_length, AV.ren, AV.renL, rn]) (by simp [AV.belL, AV.bel]) (WK.now ?_)
                simp only [Cs, push_cast, simprocAttr, pods_length, nds_length, fP, pL]
                refine (rsame_ok lv lv (by unfold Sz; omega) (by unfold Sz; omega)).go (by first | exact ⟨.inl rfl, trivial⟩ | exact ⟨.inl rfl, .inl rfl, trivial⟩ | exact ⟨.inl rfl, .inl rfl, .inl rfl, trivial⟩ | simp [argsOk, argOk, sl, sll]) (WK.now ?_)
                simp only [B_true (show lv = lv from rfl), push_cast, simprocAttr, pods_length, nds_length, fP, pL]
                refine WK.now ?_
                simp only [push_cast, simprocAttr, pods_length, nds_length, fP, pL]
              · have s3 : decide (q.1.pr ≥ p.1.pr) = false := decide_eq_false k3
                simp only [s1, s2, s3, push_cast, simprocAttr, pods_length, nds_length, fP, pL]
                have hns : ¬ SeesP p q n := fun h => k3 h.2.2.2
                obtain ⟨z1, z2⟩ := hnosee hns
                have hra := radd_ok [lv, q.2] (by unfold Sz; simp) (rows2 (by unfold Sz; omega) hgq.sz) (rows2 hinr hgq.inR)
                rw [z2] at hra
                refine hcb.at [1, 2, 3, 4, 5, 6, 7, 8] (by simp [applyP, pL', PV, Tb, Ps, Psn, Ns, Cs, Csn, fP, pL, fE, errD, errF, pgetD, nodeD, sl, pods_length, nds_length, plcs_length, sbl, ren_none, ren_var, ren_arr, ren_map, ren_mapb, ren_iter, ren_loop, ren_defr, bel_none, bel_var, bel_arr, bel_map, bel_mapb, bel_iter, bel_loop, bel_defr, AV.renL, AV.ren, AV.belL, AV.bel, rn]) (by simp) (by simp [applyP, pL', PV, Tb, Ps, Psn, Ns, Cs, Csn, fP, pL, fE, errD, errF, pgetD, nodeD, sl, pods_length, nds_length, plcs_length]) (by simp [applyP, pL', PV, Tb, Ps, Psn, Ns, Cs, Csn, fP, pL, fE, errD, errF, pgetD, nodeD, sl, pods_length, nds_length, plcs_length, AV.ren, AV.renL, rn]) (by simp [AV.belL, AV.bel]) (WK.now ?_)
                simp only [Cs, applyP, two_rows2, push_cast, simprocAttr, pods_length, nds_length, fP, pL]
                refine hra.go (by first | exact ⟨.inl rfl, trivial⟩ | exact ⟨.inl rfl, .inl rfl, trivial⟩ | exact ⟨.inl rfl, .inl rfl, .inl rfl, trivial⟩ | simp [argsOk, argOk, sl, sll]) (WK.now ?_)
                simp only [resS, push_cast, simprocAttr, pods_length, nds_length, fP, pL]
                refine (of_nil hld2).at [1, 2, 3, 4, 5, 6, 7, 8] (by simp [applyP, pL', PV, Tb, Ps, Psn, Ns, Cs, Csn, fP, pL, fE, errD, errF, pgetD, nodeD, sl, pods_length, nds_length, plcs_length, sbl, ren_none, ren_var, ren_arr, ren_map, ren_mapb, ren_iter, ren_loop, ren_defr, bel_none, bel_var, bel_arr, bel_map, bel_mapb, bel_iter, bel_loop, bel_defr, AV.renL, AV.ren, AV.belL, AV.bel, rn]) (by simp) (by simp [applyP, pL', PV, Tb, Ps, Psn, Ns, Cs, Csn, fP, pL, fE, errD, errF, pgetD, nodeD, sl, pods_length, nds_length, plcs_length]) (by simp [applyP, pL', PV, Tb, Ps, Psn, Ns, Cs, Csn, fP, pL, fE, errD, errF, pgetD, nodeD, sl, pods_length, nds_length, plcs_length, AV.ren, AV.renL, rn]) (by simp [AV.belL, AV.bel]) (WK.now ?_)
                simp only [Cs, push_cast, simprocAttr, pods_length, nds_length, fP, pL]
                refine (rsame_ok lv2 lv2 (by unfold Sz; omega) (by unfold Sz; omega)).go (by first | exact ⟨.inl rfl, trivial⟩ | exact ⟨.inl rfl, .inl rfl, trivial⟩ | exact ⟨.inl rfl, .inl rfl, .inl rfl, trivial⟩ | simp [argsOk, argOk, sl, sll]) (WK.now ?_)
                simp only [B_true (show lv2 = lv2 from rfl), push_cast, simprocAttr, pods_length, nds_length, fP, pL]
                refine WK.now ?_
                simp only [push_cast, simprocAttr, pods_length, nds_length, fP, pL]
            · have s2 : (q.1.nd == n) = false := by simpa using k2
              simp only [s1, s2, push_cast, simprocAttr, pods_length, nds_length, fP, pL]
              have hns : ¬ SeesP p q n := fun h => k2 h.2.1
              obtain ⟨z1, z2⟩ := hnosee hns
              have hra := radd_ok [lv, q.2] (by unfold Sz; simp) (rows2 (by unfold Sz; omega) hgq.sz) (rows2 hinr hgq.inR)
              rw [z2] at hra
              refine hcb.at [1, 2, 3, 4, 5, 6, 7, 8] (by simp [applyP, pL', PV, Tb, Ps, Psn, Ns, Cs, Csn, fP, pL, fE, errD, errF, pgetD, nodeD, sl, pods_length, nds_length, plcs_length, sbl, ren_none, ren_var, ren_arr, ren_map, ren_mapb, ren_iter, ren_loop, ren_defr, bel_none, bel_var, bel_arr, bel_map, bel_mapb, bel_iter, bel_loop, bel_defr, AV.renL, AV.ren, AV.belL, AV.bel, rn]) (by simp) (by simp [applyP, pL', PV, Tb, Ps, Psn, Ns, Cs, Csn, fP, pL, fE, errD, errF, pgetD, nodeD, sl, pods_length, nds_length, plcs_length]) (by simp [applyP, pL', PV, Tb, Ps, Psn, Ns, Cs, Csn, fP, pL, fE, errD, errF, pgetD, nodeD, sl, pods_length, nds_length, plcs_length, AV.ren, AV.renL, rn]) (by simp [AV.belL, AV.bel]) (WK.now ?_)
              simp only [Cs, applyP, two_rows2, push_cast, simprocAttr, pods_length, nds_length, fP, pL]
              refine hra.go (by first | exact ⟨.inl rfl, trivial⟩ | exact ⟨.inl rfl, .inl rfl, trivial⟩ | exact ⟨.inl rfl, .inl rfl, .inl rfl, trivial⟩ | simp [argsOk, argOk, sl, sll]) (WK.now ?_)
              simp only [resS, push_cast, simprocAttr, pods_length, nds_length, fP, pL]
              refine (of_nil hld2).at [1, 2, 3, 4, 5, 6, 7, 8] (by simp [applyP, pL', PV, Tb, Ps, Psn, Ns, Cs, Csn, fP, pL, fE, errD, errF, pgetD, nodeD, sl, pods_length, nds_length, plcs_length, sbl, ren_none, ren_var, ren_arr, ren_map, ren_mapb, ren_iter, ren_loop, ren_defr, bel_none, bel_var, bel_arr, bel_map, bel_mapb, bel_iter, bel_loop, bel_defr, AV.renL, AV.ren, AV.belL, AV.bel, rn]) (by simp) (by simp [applyP, pL', PV, Tb, Ps, Psn, Ns, Cs, Csn, fP, pL, fE, errD, errF, pgetD, nodeD, sl, pods_length, nds_length, plcs_length]) (by simp [applyP, pL', PV, Tb, Ps, Psn, Ns, Cs, Csn, fP, pL, fE, errD, errF, pgetD, nodeD, sl, pods_length, nds_length, plcs_length, AV.ren, AV.renL, rn]) (by simp [AV.belL, AV.bel]) (WK.now ?_)
              simp only [Cs, push_cast, simprocAttr, pods_length, nds_length, fP, pL]
              refine (rsame_ok lv2 lv2 (by unfold Sz; omega) (by unfold Sz; omega)).go (by first | exact ⟨.inl rfl, trivial⟩ | exact ⟨.inl rfl, .inl rfl, trivial⟩ | exact ⟨.inl rfl, .inl rfl, .inl rfl, trivial⟩ | simp [argsOk, argOk, sl, sll]) (WK.now ?_)
              simp only [B_true (show lv2 = lv2 from rfl), push_cast, simprocAttr, pods_length, nds_length, fP, pL]
              refine WK.now ?_
              simp only [push_cast, simprocAttr, pods_length, nds_length, fP, pL]
          · have s1 : (q.1.ph == 2) = false := by simpa using k1
            simp only [s1, push_cast, simprocAttr, pods_length, nds_length, fP, pL]
            have hns : ¬ SeesP p q n := fun h => k1 h.1
            obtain ⟨z1, z2⟩ := hnosee hns
            have hra := radd_ok [lv, q.2] (by unfold Sz; simp) (rows2 (by unfold Sz; omega) hgq.sz) (rows2 hinr hgq.inR)
            rw [z2] at hra
            refine hcb.at [1, 2, 3, 4, 5, 6, 7, 8] (by simp [applyP, pL', PV, Tb, Ps, Psn, Ns, Cs, Csn, fP, pL, fE, errD, errF, pgetD, nodeD, sl, pods_length, nds_length, plcs_length, sbl, ren_none, ren_var, ren_arr, ren_map, ren_mapb, ren_iter, ren_loop, ren_defr, bel_none, bel_var, bel_arr, bel_map, bel_mapb, bel_iter, bel_loop, bel_defr, AV.renL, AV.ren, AV.belL, AV.bel, rn]) (by simp) (by simp [applyP, pL', PV, Tb, Ps, Psn, Ns, Cs, Csn, fP, pL, fE, errD, errF, pgetD, nodeD, sl, pods_length, nds_length, plcs_length]) (by simp [applyP, pL', PV, Tb, Ps, Psn, Ns, Cs, Csn, fP, pL, fE, errD, errF, pgetD, nodeD, sl, pods_length, nds_length, plcs_length, AV.ren, AV.renL, rn]) (by simp [AV.belL, AV.bel]) (WK.now ?_)
            simp only [Cs, applyP, two_rows2, push_cast, simprocAttr, pods_length, nds_length, fP, pL]
            refine hra.go (by first | exact ⟨.inl rfl, trivial⟩ | exact ⟨.inl rfl, .inl rfl, trivial⟩ | exact ⟨.inl rfl, .inl rfl, .inl rfl, trivial⟩ | simp [argsOk, argOk, sl, sll]) (WK.now ?_)
            simp only [resS, push_cast, simprocAttr, pods_length, nds_length, fP, pL]
            refine (of_nil hld2).at [1, 2, 3, 4, 5, 6, 7, 8] (by simp [applyP, pL', PV, Tb, Ps, Psn, Ns, Cs, Csn, fP, pL, fE, errD, errF, pgetD, nodeD, sl, pods_length, nds_length, plcs_length, sbl, ren_none, ren_var, ren_arr, ren_map, ren_mapb, ren_iter, ren_loop, ren_defr, bel_none, bel_var, bel_arr, bel_map, bel_mapb, bel_iter, bel_loop, bel_defr, AV.renL, AV.ren, AV.belL, AV.bel, rn]) (by simp) (by simp [applyP, pL', PV, Tb, Ps, Psn, Ns, Cs, Csn, fP, pL, fE, errD, errF, pgetD, nodeD, sl, pods_length, nds_length, plcs_length]) (by simp [applyP, pL', PV, Tb, Ps, Psn, Ns, Cs, Csn, fP, pL, fE, errD, errF, pgetD, nodeD, sl, pods_length, nds_length, plcs_length, AV.ren, AV.renL, rn]) (by simp [AV.belL, AV.bel]) (WK.now ?_)
            simp only [Cs, push_cast, simprocAttr, pods_length, nds_length, fP, pL]
            refine (rsame_ok lv2 lv2 (by unfold Sz; omega) (by unfold Sz; omega)).go (by first | exact ⟨.inl rfl, trivial⟩ | exact ⟨.inl rfl, .inl rfl, trivial⟩ | exact ⟨.inl rfl, .inl rfl, .inl rfl, trivial⟩ | simp [argsOk, argOk, sl, sll]) (WK.now ?_)
            simp only [B_true (show lv2 = lv2 from rfl), push_cast, simprocAttr, pods_length, nds_length, fP, pL]
            refine WK.now ?_
            simp only [push_cast, simprocAttr, pods_length, nds_length, fP, pL]
end Go.Proofs.YtglmkjgajbiaaaaGreatDoor
end
