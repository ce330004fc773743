/-
  ReserveClears, walked.
-/
import Derived.Test.YtglmkjgajbiaaaaGreatDoorB3
section
set_option autoImplicit false
set_option linter.unusedVariables false
set_option linter.unusedSimpArgs false
namespace Go.Proofs.YtglmkjgajbiaaaaGreatDoor
open Go.Abs
theorem clear_at {w : Rc} (hn : NoDup (kv pid w.pods)) {id : Int} {q : Pod} (hq : q ∈ (rcChange w id 3 0).pods) (hid : q.1.id = id) : q.1.ph ≠ 2 := by
  have hfind : ∀ p ∈ w.pods, p.1.id = id → findP w.pods id = some p := fun p hp e => by
    subst e
    rw [← lget_kv, lget_mem hn]
    exact List.mem_map.2 ⟨p, hp, rfl⟩
  unfold rcChange at hq
  cases hf : findP w.pods id with
  | none =>
    rw [hf] at hq
    rw [hfind q hq hid] at hf; cases hf
  | some p =>
    rw [hf] at hq
    dsimp only at hq
    rw [if_neg (by omega)] at hq
    by_cases h2 : p.1.ph = 2
    · have hx : nextP p.1.ph 3 = some 1 := by unfold nextP; rw [if_neg (by omega), if_neg (by omega), if_pos rfl, if_pos h2]
      rw [hx] at hq
      rcases upd_mem hq with rfl | ⟨_, hne⟩
      · show (1 : Int) ≠ 2; omega
      · exact absurd (show q.1.id = p.1.id by rw [hid, (findP_some hf).2]) hne
    · have hx : nextP p.1.ph 3 = none := by unfold nextP; rw [if_neg (by omega), if_neg (by omega), if_pos rfl, if_neg h2]
      rw [hx] at hq
      have := hfind q hq hid
      rw [hf] at this
      obtain rfl := Option.some.inj this
      exact h2
theorem clear_own {c : Cl} {w : Rc} (h : RC c w) (id : Int) : ownS (clChange c id 3 0).1 id = none := by
  have h' := h.change id 3 0
  rw [h'.own]
  cases hf : findP (rcChange w id 3 0).pods id with
  | none => rfl
  | some q =>
    rw [Option.bind_some, if_neg]
    obtain ⟨hm, hid⟩ := findP_some hf
    exact clear_at h.ndp hm hid
theorem clear_seen {c : Cl} {w : Rc} (h : RC c w) (id : Int) (p : Pod) (n : Int) : ∀ q ∈ seenL (clChange c id 3 0).1 p n, q.1.id ≠ id := fun q hq e => by
  rw [(h.change id 3 0).seen] at hq
  obtain ⟨h1, h2⟩ := List.mem_filter.1 hq
  exact clear_at h.ndp h1 e (B_iff.1 h2).1
theorem clear_ans (c : Cl) (id : Int) : ∃ q : Pd × D, changeD c id 3 0 = .tup [.agg (pL' q), errF (if (ownS c id).isSome then none else some (if (lget c.L id).isSome then 8 else 5, 0))] := by
  unfold changeD ownS
  cases lget c.L id with
  | none => exact ⟨(pod0, .nils), rfl⟩
  | some p =>
    dsimp only
    rw [if_neg (by omega), Option.bind_some]
    by_cases h2 : p.1.ph = 2
    · have hx : nextP p.1.ph 3 = some 1 := by unfold nextP; rw [if_neg (by omega), if_neg (by omega), if_pos rfl, if_pos h2]
      rw [hx, if_pos h2]
      exact ⟨((applyP p 3 1 (-1) 0).1, .slice 1 (ints p.2)), rfl⟩
    · have hx : nextP p.1.ph 3 = none := by unfold nextP; rw [if_neg (by omega), if_neg (by omega), if_pos rfl, if_neg h2]
      rw [hx, if_neg h2]
      exact ⟨(pod0, .nils), rfl⟩
set_option maxRecDepth 8000 in
set_option maxHeartbeats 1000000 in
theorem reserveClears_ok (nodes : List (Int × List Int)) (ps : List Plc) (id : Int) (p : Pod) (n : Int) : PCall env 5 [.slice 2 (nds nodes), .slice 11 (plcs ps), .int .i64 id, fP p, .int .i64 n] (.bool true) := by
  refine acalls_of envOk Tryz.func5 rfl (by kernel_rfl) (m := 70) rfl ?_
  simp only [push_cast, simprocAttr, pods_length, nds_length, fP, pL]
  refine (build_ok nodes ps).atK [] (by simp [PV, Tb, Ps, Psn, Ns, Cs, Csn, fP, pL, fE, errD, errF, pgetD, nodeD, sl, pods_length, nds_length, plcs_length, sbl, ren_none, ren_var, ren_arr, ren_map, ren_mapb, ren_iter, ren_loop, ren_defr, bel_none, bel_var, bel_arr, bel_map, bel_mapb, bel_iter, bel_loop, bel_defr, AV.renL, AV.ren, AV.belL, AV.bel, rn]) (by simp) (by simp [PV, Tb, Ps, Psn, Ns, Cs, Csn, fP, pL, fE, errD, errF, pgetD, nodeD, sl, pods_length, nds_length, plcs_length]) (by simp [PV, Tb, Ps, Psn, Ns, Cs, Csn, fP, pL, fE, errD, errF, pgetD, nodeD, sl, pods_length, nds_length, plcs_length, AV.ren, AV.renL, rn]) (by simp [AV.belL, AV.bel]) ?_
  rintro r H' (⟨x, y, z, rfl, rfl⟩ | ⟨c, w, rfl, rfl, h, hnl, hpl⟩)
  · refine WK.now ?_
    simp only [push_cast, simprocAttr, pods_length, nds_length, fP, pL]
    refine awake15_ok.go ⟨⟩ (WK.now ?_)
    simp only [push_cast, simprocAttr, pods_length, nds_length, fP, pL]
    refine awake15_ok.go ⟨⟩ (WK.now ?_)
    simp only [push_cast, simprocAttr, pods_length, nds_length, fP, pL]
    refine WK.now ?_
    simp only [push_cast, simprocAttr, pods_length, nds_length, fP, pL]
  · have hok := h.ok
    have h' := h.change id 3 0
    have hok' := h'.ok
    obtain ⟨q, hans⟩ := clear_ans c id
    have hch := cchange_ok c id 3 0 hok
    rw [hans] at hch
    have hcs := clear_seen h id p n
    have hco := clear_own h id
    have hl40 : (seenL (clChange c id 3 0).1 p n).length ≤ 65536 := by
      rw [h'.seen]
      exact Nat.le_trans (List.length_filter_le _ _) h'.len
    obtain ⟨c', hc'⟩ : ∃ c', c' = (clChange c id 3 0).1 := ⟨_, rfl⟩
    rw [← hc'] at hch hcs hco hok' hl40
    obtain ⟨l, hl⟩ : ∃ l, l = seenL c' p n := ⟨_, rfl⟩
    rw [← hl] at hcs hl40
    refine WK.now ?_
    simp only [Cs, fRc, push_cast, simprocAttr, pods_length, nds_length, fP, pL]
    refine awake15_ok.go ⟨⟩ (WK.now ?_)
    simp only [push_cast, simprocAttr, pods_length, nds_length, fP, pL]
    refine (own_ok c id hok).at [1, 2, 3, 4, 5, 6, 7, 8] (by simp [PV, Tb, Ps, Psn, Ns, Cs, Csn, fP, pL, fE, errD, errF, pgetD, nodeD, sl, pods_length, nds_length, plcs_length, sbl, ren_none, ren_var, ren_arr, ren_map, ren_mapb, ren_iter, ren_loop, ren_defr, bel_none, bel_var, bel_arr, bel_map, bel_mapb, bel_iter, bel_loop, bel_defr, AV.renL, AV.ren, AV.belL, AV.bel, rn]) (by simp) (by simp [PV, Tb, Ps, Psn, Ns, Cs, Csn, fP, pL, fE, errD, errF, pgetD, nodeD, sl, pods_length, nds_length, plcs_length]) (by simp [PV, Tb, Ps, Psn, Ns, Cs, Csn, fP, pL, fE, errD, errF, pgetD, nodeD, sl, pods_length, nds_length, plcs_length, AV.ren, AV.renL, rn]) (by simp [AV.belL, AV.bel]) (WK.now ?_)
    simp only [Cs, push_cast, simprocAttr, pods_length, nds_length, fP, pL]
    refine hch.at [1, 2, 3, 4, 5, 6, 7, 8] (by simp [PV, Tb, Ps, Psn, Ns, Cs, Csn, fP, pL, fE, errD, errF, pgetD, nodeD, sl, pods_length, nds_length, plcs_length, sbl, ren_none, ren_var, ren_arr, ren_map, ren_mapb, ren_iter, ren_loop, ren_defr, bel_none, bel_var, bel_arr, bel_map, bel_mapb, bel_iter, bel_loop, bel_defr, AV.renL, AV.ren, AV.belL, AV.bel, rn]) (by simp) (by simp [PV, Tb, Ps, Psn, Ns, Cs, Csn, fP, pL, fE, errD, errF, pgetD, nodeD, sl, pods_length, nds_length, plcs_length]) (by simp [PV, Tb, Ps, Psn, Ns, Cs, Csn, fP, pL, fE, errD, errF, pgetD, nodeD, sl, pods_length, nds_length, plcs_length, AV.ren, AV.renL, rn]) (by simp [AV.belL, AV.bel]) (WK.now ?_)
    have hk : ∀ b : Bool, (b == (b : Bool)) = true := by decide
    cases ho : (ownS c id).isSome with
    | true =>
      simp only [Cs, pL', errF, push_cast, simprocAttr, pods_length, nds_length, fP, pL]
      refine (pods_ok c' p n hok').at [1, 2, 3, 4, 5, 6, 7, 8] (by simp [PV, Tb, Ps, Psn, Ns, Cs, Csn, fP, pL, fE, errD, errF, pgetD, nodeD, sl, pods_length, nds_length, plcs_length, sbl, ren_none, ren_var, ren_arr, ren_map, ren_mapb, ren_iter, ren_loop, ren_defr, bel_none, bel_var, bel_arr, bel_map, bel_mapb, bel_iter, bel_loop, bel_defr, AV.renL, AV.ren, AV.belL, AV.bel, rn]) (by simp) (by simp [PV, Tb, Ps, Psn, Ns, Cs, Csn, fP, pL, fE, errD, errF, pgetD, nodeD, sl, pods_length, nds_length, plcs_length]) (by simp [PV, Tb, Ps, Psn, Ns, Cs, Csn, fP, pL, fE, errD, errF, pgetD, nodeD, sl, pods_length, nds_length, plcs_length, AV.ren, AV.renL, rn]) (by simp [AV.belL, AV.bel]) (WK.now ?_)
      rw [← hl]
      simp only [Cs, push_cast, simprocAttr, pods_length, nds_length, fP, pL]
      refine ALoop.mk (fun n t H ds => ∃ i : Nat, n = l.length - i ∧ i ≤ l.length ∧ t = [.dead, .dead, .d (.int .i64 id), .dead, .dead, .dead, .dead, .dead, .dead, .dead, .d (.bool false), .pvar 7 0, .dead, .dead, .dead, .dead, .dead, .d (.slice 9 (pods l)), .d (.int .i64 (i : Nat)), .dead, .dead, .dead, .dead, .dead, .dead, .dead, .dead, .dead, .dead, .dead, .dead, .dead, .dead, .dead, .dead, .dead, .dead, .dead, .dead, .dead, .dead, .dead, .dead, .dead, .dead, .dead, .dead, .dead, .dead, .dead, .dead, .dead, .dead, .dead, .dead, .dead, .dead, .dead, .dead, .dead, .dead, .dead, .dead, .dead, .dead, .dead, .dead, .dead, .dead, .dead, .dead, .dead, .dead, .dead, .dead] ∧ H = Cs c' ∧ ds = []) l.length
        (WK.fgt (t' := [.dead, .dead, .d (.int .i64 id), .dead, .dead, .dead, .dead, .dead, .dead, .dead, .d (.bool false), .pvar 8 0, .dead, .dead, .dead, .dead, .dead, .d (.slice 9 (pods l)), .d (.int .i64 (0 : Nat)), .dead, .dead, .dead, .dead, .dead, .dead, .dead, .dead, .dead, .dead, .dead, .dead, .dead, .dead, .dead, .dead, .dead, .dead, .dead, .dead, .dead, .dead, .dead, .dead, .dead, .dead, .dead, .dead, .dead, .dead, .dead, .dead, .dead, .dead, .dead, .dead, .dead, .dead, .dead, .dead, .dead, .dead, .dead, .dead, .dead, .dead, .dead, .dead, .dead, .dead, .dead, .dead, .dead, .dead, .dead, .dead]) (by simp [fgt]) (WK.pick [1, 2, 3, 4, 5, 6, 7, 8] (t' := [.dead, .dead, .d (.int .i64 id), .dead, .dead, .dead, .dead, .dead, .dead, .dead, .d (.bool false), .pvar 7 0, .dead, .dead, .dead, .dead, .dead, .d (.slice 9 (pods l)), .d (.int .i64 (0 : Nat)), .dead, .dead, .dead, .dead, .dead, .dead, .dead, .dead, .dead, .dead, .dead, .dead, .dead, .dead, .dead, .dead, .dead, .dead, .dead, .dead, .dead, .dead, .dead, .dead, .dead, .dead, .dead, .dead, .dead, .dead, .dead, .dead, .dead, .dead, .dead, .dead, .dead, .dead, .dead, .dead, .dead, .dead, .dead, .dead, .dead, .dead, .dead, .dead, .dead, .dead, .dead, .dead, .dead, .dead, .dead, .dead]) (H' := Cs c') (by simp [Cs, sbl, ren_none, ren_var, ren_arr, ren_map, bel_none, bel_var, bel_arr, bel_map, AV.renL, AV.ren, AV.belL, AV.bel, rn]) (by simp) (by simp) (by simp [tellL, AV.ren, AV.renL, AV.bel, AV.belL, rn]) (by simp) (WK.now ⟨0, by omega, by omega, rfl, rfl, rfl⟩))) ?_
      rintro n' t H ds ⟨i, rfl, hi, rfl, rfl, rfl⟩
      simp only [Cs, push_cast, simprocAttr, pods_length, nds_length, fP, pL]
      refine Kbr.mk (fun g => ?_) (fun g => ?_)
      · have c1 : i < l.length := by simpa using g
        have hne : ((l.getD i pz).1.id == id) = false := by
          have := hcs (l.getD i pz) (by rw [List.getD_eq_getElem?_getD, List.getElem?_eq_getElem c1]; exact List.getElem_mem c1)
          simpa using this
        simp only [c1, cel_id, hne, succ64 c1 (show l.length ≤ 4611686018427387904 by omega), push_cast, simprocAttr, pods_length, nds_length, fP, pL]
        exact ⟨l.length - (i + 1), by omega, WK.fgt (t' := [.dead, .dead, .d (.int .i64 id), .dead, .dead, .dead, .dead, .dead, .dead, .dead, .d (.bool false), .pvar 7 0, .dead, .dead, .dead, .dead, .dead, .d (.slice 9 (pods l)), .d (.int .i64 (i + 1 : Nat)), .dead, .dead, .dead, .dead, .dead, .dead, .dead, .dead, .dead, .dead, .dead, .dead, .dead, .dead, .dead, .dead, .dead, .dead, .dead, .dead, .dead, .dead, .dead, .dead, .dead, .dead, .dead, .dead, .dead, .dead, .dead, .dead, .dead, .dead, .dead, .dead, .dead, .dead, .dead, .dead, .dead, .dead, .dead, .dead, .dead, .dead, .dead, .dead, .dead, .dead, .dead, .dead, .dead, .dead, .dead, .dead]) (by simp [fgt]) (WK.now ⟨i + 1, rfl, by omega, rfl, rfl, rfl⟩)⟩
      · simp only [push_cast, simprocAttr, pods_length, nds_length, fP, pL]
        refine (own_ok c' id hok').at [0, 1, 2, 3, 4, 5, 6, 7] (by simp [PV, Tb, Ps, Psn, Ns, Cs, Csn, fP, pL, fE, errD, errF, pgetD, nodeD, sl, pods_length, nds_length, plcs_length, sbl, ren_none, ren_var, ren_arr, ren_map, ren_mapb, ren_iter, ren_loop, ren_defr, bel_none, bel_var, bel_arr, bel_map, bel_mapb, bel_iter, bel_loop, bel_defr, AV.renL, AV.ren, AV.belL, AV.bel, rn]) (by simp) (by simp [PV, Tb, Ps, Psn, Ns, Cs, Csn, fP, pL, fE, errD, errF, pgetD, nodeD, sl, pods_length, nds_length, plcs_length]) (by simp [PV, Tb, Ps, Psn, Ns, Cs, Csn, fP, pL, fE, errD, errF, pgetD, nodeD, sl, pods_length, nds_length, plcs_length, AV.ren, AV.renL, rn]) (by simp [AV.belL, AV.bel]) (WK.now ?_)
        simp only [Cs, hco, push_cast, simprocAttr, pods_length, nds_length, fP, pL]
        refine WK.now ?_
        simp only [push_cast, simprocAttr, pods_length, nds_length, fP, pL]
    | false =>
      simp only [Cs, pL', errF, push_cast, simprocAttr, pods_length, nds_length, fP, pL]
      refine (pods_ok c' p n hok').at [1, 2, 3, 4, 5, 6, 7, 8] (by simp [PV, Tb, Ps, Psn, Ns, Cs, Csn, fP, pL, fE, errD, errF, pgetD, nodeD, sl, pods_length, nds_length, plcs_length, sbl, ren_none, ren_var, ren_arr, ren_map, ren_mapb, ren_iter, ren_loop, ren_defr, bel_none, bel_var, bel_arr, bel_map, bel_mapb, bel_iter, bel_loop, bel_defr, AV.renL, AV.ren, AV.belL, AV.bel, rn]) (by simp) (by simp [PV, Tb, Ps, Psn, Ns, Cs, Csn, fP, pL, fE, errD, errF, pgetD, nodeD, sl, pods_length, nds_length, plcs_length]) (by simp [PV, Tb, Ps, Psn, Ns, Cs, Csn, fP, pL, fE, errD, errF, pgetD, nodeD, sl, pods_length, nds_length, plcs_length, AV.ren, AV.renL, rn]) (by simp [AV.belL, AV.bel]) (WK.now ?_)
      rw [← hl]
      simp only [Cs, push_cast, simprocAttr, pods_length, nds_length, fP, pL]
      refine ALoop.mk (fun n t H ds => ∃ i : Nat, n = l.length - i ∧ i ≤ l.length ∧ t = [.dead, .dead, .d (.int .i64 id), .dead, .dead, .dead, .dead, .dead, .dead, .dead, .d (.bool false), .pvar 7 0, .dead, .dead, .dead, .dead, .dead, .d (.slice 9 (pods l)), .d (.int .i64 (i : Nat)), .dead, .dead, .dead, .dead, .dead, .dead, .dead, .dead, .dead, .dead, .dead, .dead, .dead, .dead, .dead, .dead, .dead, .dead, .dead, .dead, .dead, .dead, .dead, .dead, .dead, .dead, .dead, .dead, .dead, .dead, .dead, .dead, .dead, .dead, .dead, .dead, .dead, .dead, .dead, .dead, .dead, .dead, .dead, .dead, .dead, .dead, .dead, .dead, .dead, .dead, .dead, .dead, .dead, .dead, .dead, .dead] ∧ H = Cs c' ∧ ds = []) l.length
        (WK.fgt (t' := [.dead, .dead, .d (.int .i64 id), .dead, .dead, .dead, .dead, .dead, .dead, .dead, .d (.bool false), .pvar 8 0, .dead, .dead, .dead, .dead, .dead, .d (.slice 9 (pods l)), .d (.int .i64 (0 : Nat)), .dead, .dead, .dead, .dead, .dead, .dead, .dead, .dead, .dead, .dead, .dead, .dead, .dead, .dead, .dead, .dead, .dead, .dead, .dead, .dead, .dead, .dead, .dead, .dead, .dead, .dead, .dead, .dead, .dead, .dead, .dead, .dead, .dead, .dead, .dead, .dead, .dead, .dead, .dead, .dead, .dead, .dead, .dead, .dead, .dead, .dead, .dead, .dead, .dead, .dead, .dead, .dead, .dead, .dead, .dead, .dead]) (by simp [fgt]) (WK.pick [1, 2, 3, 4, 5, 6, 7, 8] (t' := [.dead, .dead, .d (.int .i64 id), .dead, .dead, .dead, .dead, .dead, .dead, .dead, .d (.bool false), .pvar 7 0, .dead, .dead, .dead, .dead, .dead, .d (.slice 9 (pods l)), .d (.int .i64 (0 : Nat)), .dead, .dead, .dead, .dead, .dead, .dead, .dead, .dead, .dead, .dead, .dead, .dead, .dead, .dead, .dead, .dead, .dead, .dead, .dead, .dead, .dead, .dead, .dead, .dead, .dead, .dead, .dead, .dead, .dead, .dead, .dead, .dead, .dead, .dead, .dead, .dead, .dead, .dead, .dead, .dead, .dead, .dead, .dead, .dead, .dead, .dead, .dead, .dead, .dead, .dead, .dead, .dead, .dead, .dead, .dead, .dead]) (H' := Cs c') (by simp [Cs, sbl, ren_none, ren_var, ren_arr, ren_map, bel_none, bel_var, bel_arr, bel_map, AV.renL, AV.ren, AV.belL, AV.bel, rn]) (by simp) (by simp) (by simp [tellL, AV.ren, AV.renL, AV.bel, AV.belL, rn]) (by simp) (WK.now ⟨0, by omega, by omega, rfl, rfl, rfl⟩))) ?_
      rintro n' t H ds ⟨i, rfl, hi, rfl, rfl, rfl⟩
      simp only [Cs, push_cast, simprocAttr, pods_length, nds_length, fP, pL]
      refine Kbr.mk (fun g => ?_) (fun g => ?_)
      · have c1 : i < l.length := by simpa using g
        have hne : ((l.getD i pz).1.id == id) = false := by
          have := hcs (l.getD i pz) (by rw [List.getD_eq_getElem?_getD, List.getElem?_eq_getElem c1]; exact List.getElem_mem c1)
          simpa using this
        simp only [c1, cel_id, hne, succ64 c1 (show l.length ≤ 4611686018427387904 by omega), push_cast, simprocAttr, pods_length, nds_length, fP, pL]
        exact ⟨l.length - (i + 1), by omega, WK.fgt (t' := [.dead, .dead, .d (.int .i64 id), .dead, .dead, .dead, .dead, .dead, .dead, .dead, .d (.bool false), .pvar 7 0, .dead, .dead, .dead, .dead, .dead, .d (.slice 9 (pods l)), .d (.int .i64 (i + 1 : Nat)), .dead, .dead, .dead, .dead, .dead, .dead, .dead, .dead, .dead, .dead, .dead, .dead, .dead, .dead, .dead, .dead, .dead, .dead, .dead, .dead, .dead, .dead, .dead, .dead, .dead, .dead, .dead, .dead, .dead, .dead, .dead, .dead, .dead, .dead, .dead, .dead, .dead, .dead, .dead, .dead, .dead, .dead, .dead, .dead, .dead, .dead, .dead, .dead, .dead, .dead, .dead, .dead, .dead, .dead, .dead, .dead]) (by simp [fgt]) (WK.now ⟨i + 1, rfl, by omega, rfl, rfl, rfl⟩)⟩
      · simp only [push_cast, simprocAttr, pods_length, nds_length, fP, pL]
        refine (own_ok c' id hok').at [0, 1, 2, 3, 4, 5, 6, 7] (by simp [PV, Tb, Ps, Psn, Ns, Cs, Csn, fP, pL, fE, errD, errF, pgetD, nodeD, sl, pods_length, nds_length, plcs_length, sbl, ren_none, ren_var, ren_arr, ren_map, ren_mapb, ren_iter, ren_loop, ren_defr, bel_none, bel_var, bel_arr, bel_map, bel_mapb, bel_iter, bel_loop, bel_defr, AV.renL, AV.ren, AV.belL, AV.bel, rn]) (by simp) (by simp [PV, Tb, Ps, Psn, Ns, Cs, Csn, fP, pL, fE, errD, errF, pgetD, nodeD, sl, pods_length, nds_length, plcs_length]) (by simp [PV, Tb, Ps, Psn, Ns, Cs, Csn, fP, pL, fE, errD, errF, pgetD, nodeD, sl, pods_length, nds_length, plcs_length, AV.ren, AV.renL, rn]) (by simp [AV.belL, AV.bel]) (WK.now ?_)
        simp only [Cs, hco, push_cast, simprocAttr, pods_length, nds_length, fP, pL]
        refine WK.now ?_
        simp only [push_cast, simprocAttr, pods_length, nds_length, fP, pL]
end Go.Proofs.YtglmkjgajbiaaaaGreatDoor
end
