/-
  FilterAdds, walked.
-/
import Derived.Test.YtcmhdpbmcgglmaaGreatDoorH1
section
set_option autoImplicit false
set_option linter.unusedVariables false
set_option linter.unusedSimpArgs false
namespace Go.Proofs.YtcmhdpbmcgglmaaGreatDoor
open Go.Abs
theorem selN_app (A B : List (Int × List Int)) (g : Int × List Int → Bool) : selN (A ++ B) g = selN A g ++ selN B g := by
  unfold selN
  rw [List.filter_append, List.map_append]
theorem selN_congr {N : List (Int × List Int)} {g g' : Int × List Int → Bool} (h : ∀ m ∈ N, g m = g' m) : selN N g = selN N g' := by
  unfold selN
  rw [List.filter_congr h]
theorem naddL_err {d sz k : Int} {L : List (Int × Ent)} {cap : List Int} {e : Int × Int} (h : naddE d sz L k cap = some e) : naddL d sz L k cap = L := by
  unfold naddE at h
  unfold naddL
  by_cases hw : 0 ≤ wrongS cap d
  · rw [if_pos hw]
  · rw [if_neg hw] at h ⊢
    unfold addF addE at h
    unfold addL
    by_cases h1 : (lget L k).isSome = true
    · rw [if_pos h1]
    · rw [if_neg h1] at h ⊢
      by_cases h2 : sz = L.length
      · rw [if_pos h2]
      · rw [if_neg h2] at h; cases h
section
variable {c : Cl} {w : Rc}
theorem clAdd_err (h : RC c w) {k : Int} {cap : List Int} {e : Int × Int} (he : naddE c.d 1024 c.N k cap = some e) : clAdd c k cap = c := by
  unfold clAdd
  rw [naddL_err he]
theorem RC.adds (h : RC c w) {k : Int} {cap : List Int} (he : naddE c.d 1024 c.N k cap = none) :
    ∃ A B, w.nodes = A ++ B ∧ (rcAdd w k cap).nodes = A ++ (k, cap) :: B ∧ (rcAdd w k cap).pods = w.pods ∧ ∀ m ∈ w.nodes, m.1 ≠ k := by
  unfold naddE at he
  rw [h.d1] at he
  by_cases hw : 0 ≤ wrongS cap 2
  · rw [if_pos hw] at he; cases he
  · rw [if_neg hw] at he
    unfold addF addE at he
    by_cases h1 : (lget c.N k).isSome = true
    · rw [if_pos h1] at he; cases he
    · rw [if_neg h1] at he
      by_cases h2 : (1024 : Int) = c.N.length
      · rw [if_pos h2] at he; cases he
      · have hroom := h.nodes.room
        have hlen := h.nodes.len
        rw [List.length_map] at hlen
        have hno : ∀ m ∈ w.nodes, m.1 ≠ k := fun m hm e => by
          rw [h.getN, ← e, h.findN_mem hm] at h1
          exact h1 rfl
        have hr : rfind (kv (·.1) w.nodes) k < 0 := by
          rw [rfind_neg, lget_none]
          intro hm
          obtain ⟨x, hx, hxk⟩ := List.mem_map.1 hm
          unfold kv at hx
          obtain ⟨m, hm', rfl⟩ := List.mem_map.1 hx
          exact hno m hm' hxk
        refine ⟨w.nodes.takeWhile (fun q => decide (q.1 < k)), w.nodes.dropWhile (fun q => decide (q.1 < k)), List.takeWhile_append_dropWhile.symm, ?_, (rcAdd_len w k cap).1, hno⟩
        unfold rcAdd
        rw [h.d2, if_neg (by exact hw)]
        show raddK (·.1) w.nodes 1024 (k, cap) = _
        unfold raddK
        rw [if_neg (show ¬ 0 ≤ rfind (kv (·.1) w.nodes) k by omega), if_neg (by omega)]
        unfold insK
        simp
theorem RC.fits_add (h : RC c w) {c' : Cl} {w' : Rc} (h' : RC c' w') (hp : w'.pods = w.pods) (p : Pod) {m : Int × List Int} (hm : m ∈ w.nodes) (hm' : m ∈ w'.nodes) : fitsB c' p (lvW w' p) m = fitsB c p (lvW w p) m := by
  have e : loadV w' p m.1 [] = loadV w p m.1 [] := by
    unfold loadV
    rw [h.findN_mem hm, h'.findN_mem hm', hp]
  unfold fitsB lvW
  rw [h.tot, h'.tot, h.findN_mem hm, h'.findN_mem hm', e]
end
theorem idxV_mid {x : Int} {A B : List Int} (hA : x ∉ A) : idxV x (A ++ x :: B) = A.length := by
  refine idxV_at (by simp) (fun j hj e => hA ?_) (by simp [List.getD_eq_getElem?_getD])
  rw [List.getD_eq_getElem?_getD, List.getElem?_append_left hj, List.getElem?_eq_getElem hj] at e
  rw [e]
  exact List.getElem_mem hj
theorem idxV_out {x : Int} {A : List Int} (hA : x ∉ A) : idxV x A = -1 := idxV_no fun j hj e => hA (by
  rw [List.getD_eq_getElem?_getD, List.getElem?_eq_getElem hj] at e
  rw [e]
  exact List.getElem_mem hj)
theorem apI_intro {A B : List Int} {X Y : Prop} (h1 : A ≠ [] → B = [] → X) (h2 : (0 < B.length ∨ A.length = 0) → Y) : apSame (ints A) (ints B) X Y := by
  cases B with
  | nil =>
    cases A with
    | nil => exact h2 (.inr rfl)
    | cons a A => exact h1 (by simp) rfl
  | cons b B =>
    rw [show ints (b :: B) = [.int .i64 b] :: ints B from rfl, apSame_more]
    exact h2 (.inl (by simp))
theorem ints_app (A B : List Int) : ints A ++ ints B = ints (A ++ B) := by simp [ints]
set_option maxRecDepth 8000 in
set_option maxHeartbeats 1000000 in
theorem filterAdds_ok (nodes : List (Int × List Int)) (ps : List Plc) (p : Pod) (n : Int × List Int) : PCall env 10 [.slice 2 (nds nodes), .slice 11 (plcs ps), fP p, nF n] (.bool true) := by
  unfold nF
  refine acalls_of envOk Tryz.func10 rfl (by kernel_rfl) (m := 68) rfl ?_
  simp only [push_cast, simprocAttr, pods_length, nds_length, fP, pL]
  refine (build_ok nodes ps).atK [] (by simp [nF, PV, Tb, Ps, Psn, Ns, Cs, Csn, fP, pL, fE, errD, errF, pgetD, nodeD, sl, pods_length, nds_length, plcs_length, sbl, ren_none, ren_var, ren_arr, ren_map, ren_mapb, ren_iter, ren_loop, ren_defr, bel_none, bel_var, bel_arr, bel_map, bel_mapb, bel_iter, bel_loop, bel_defr, AV.renL, AV.ren, AV.belL, AV.bel, rn]) (by simp) (by simp [nF, PV, Tb, Ps, Psn, Ns, Cs, Csn, fP, pL, fE, errD, errF, pgetD, nodeD, sl, pods_length, nds_length, plcs_length]) (by simp [nF, PV, Tb, Ps, Psn, Ns, Cs, Csn, fP, pL, fE, errD, errF, pgetD, nodeD, sl, pods_length, nds_length, plcs_length, AV.ren, AV.renL, rn]) (by simp [AV.belL, AV.bel]) ?_
  rintro r H' (⟨x, y, z, rfl, rfl⟩ | ⟨c, w, rfl, rfl, h, hnl, hpl⟩)
  · refine WK.now ?_
    simp only [push_cast, simprocAttr, pods_length, nds_length, fP, pL]
    refine awake17_ok.go ⟨⟩ (WK.now ?_)
    simp only [push_cast, simprocAttr, pods_length, nds_length, fP, pL]
    refine awake17_ok.go ⟨⟩ (WK.now ?_)
    simp only [push_cast, simprocAttr, pods_length, nds_length, fP, pL]
    refine WK.now ?_
    simp only [push_cast, simprocAttr, pods_length, nds_length, fP, pL]
  · refine WK.now ?_
    simp only [Cs, fRc, push_cast, simprocAttr, pods_length, nds_length, fP, pL]
    refine awake17_ok.go ⟨⟩ (WK.now ?_)
    simp only [one_pod, push_cast, simprocAttr, pods_length, nds_length, fP, pL]
    refine (few_ok [p] (by simp)).go (by first | exact ⟨.inl rfl, trivial⟩ | exact ⟨.inl rfl, .inl rfl, trivial⟩ | exact ⟨.inl rfl, .inl rfl, .inl rfl, trivial⟩ | simp [argsOk, argOk, sl, sll]) (WK.now ?_)
    cases hf : B (FewP [p]) with
    | false =>
      simp only [push_cast, simprocAttr, pods_length, nds_length, fP, pL]
      refine awake17_ok.go ⟨⟩ (WK.now ?_)
      simp only [push_cast, simprocAttr, pods_length, nds_length, fP, pL]
      refine WK.now ?_
      simp only [push_cast, simprocAttr, pods_length, nds_length, fP, pL]
    | true =>
      have hp := (fewP_one p).1 (B_iff.1 hf)
      have hsz : Sz p.2 := by have := hp.2.2; unfold Sz; omega
      by_cases hw : (n.2.length : Int) > 20
      · simp only [decide_eq_true hw, push_cast, simprocAttr, pods_length, nds_length, fP, pL]
        refine awake17_ok.go ⟨⟩ (WK.now ?_)
        simp only [push_cast, simprocAttr, pods_length, nds_length, fP, pL]
        refine WK.now ?_
        simp only [push_cast, simprocAttr, pods_length, nds_length, fP, pL]
      · have h1 := fnodes_ok (h.lds p hsz)
        rw [h.nds] at h1
        obtain ⟨fs, hfs⟩ : ∃ fs, fs = selN w.nodes (fitsB c p (lvW w p)) := ⟨_, rfl⟩
        rw [← hfs] at h1
        have hfl : fs.length ≤ 1000000 := by
          rw [hfs]; unfold selN; rw [List.length_map]
          have := List.length_filter_le (fitsB c p (lvW w p)) w.nodes
          omega
        have hadd := cadd_ok c n.1 n.2 h.ok.d h.ok.nl (by omega)
        simp only [decide_eq_false hw, push_cast, simprocAttr, pods_length, nds_length, fP, pL]
        refine h1.at [2, 3, 4, 5, 6, 7, 8, 9] (by simp [nF, PV, Tb, Ps, Psn, Ns, Cs, Csn, fP, pL, fE, errD, errF, pgetD, nodeD, sl, pods_length, nds_length, plcs_length, sbl, ren_none, ren_var, ren_arr, ren_map, ren_mapb, ren_iter, ren_loop, ren_defr, bel_none, bel_var, bel_arr, bel_map, bel_mapb, bel_iter, bel_loop, bel_defr, AV.renL, AV.ren, AV.belL, AV.bel, rn]) (by simp) (by simp [nF, PV, Tb, Ps, Psn, Ns, Cs, Csn, fP, pL, fE, errD, errF, pgetD, nodeD, sl, pods_length, nds_length, plcs_length]) (by simp [nF, PV, Tb, Ps, Psn, Ns, Cs, Csn, fP, pL, fE, errD, errF, pgetD, nodeD, sl, pods_length, nds_length, plcs_length, AV.ren, AV.renL, rn]) (by simp [AV.belL, AV.bel]) (WK.now ?_)
        simp only [Cs, push_cast, simprocAttr, pods_length, nds_length, fP, pL]
        cases he : naddE c.d 1024 c.N n.1 n.2 with
        | some e =>
          rw [he, clAdd_err h he] at hadd
          refine hadd.at [2, 3, 4, 5, 6, 7, 8, 9] (by simp [nF, PV, Tb, Ps, Psn, Ns, Cs, Csn, fP, pL, fE, errD, errF, pgetD, nodeD, sl, pods_length, nds_length, plcs_length, sbl, ren_none, ren_var, ren_arr, ren_map, ren_mapb, ren_iter, ren_loop, ren_defr, bel_none, bel_var, bel_arr, bel_map, bel_mapb, bel_iter, bel_loop, bel_defr, AV.renL, AV.ren, AV.belL, AV.bel, rn]) (by simp) (by simp [nF, PV, Tb, Ps, Psn, Ns, Cs, Csn, fP, pL, fE, errD, errF, pgetD, nodeD, sl, pods_length, nds_length, plcs_length]) (by simp [nF, PV, Tb, Ps, Psn, Ns, Cs, Csn, fP, pL, fE, errD, errF, pgetD, nodeD, sl, pods_length, nds_length, plcs_length, AV.ren, AV.renL, rn]) (by simp [AV.belL, AV.bel]) (WK.now ?_)
          simp only [Cs, errF, push_cast, simprocAttr, pods_length, nds_length, fP, pL]
          refine h1.at [2, 3, 4, 5, 6, 7, 8, 9] (by simp [nF, PV, Tb, Ps, Psn, Ns, Cs, Csn, fP, pL, fE, errD, errF, pgetD, nodeD, sl, pods_length, nds_length, plcs_length, sbl, ren_none, ren_var, ren_arr, ren_map, ren_mapb, ren_iter, ren_loop, ren_defr, bel_none, bel_var, bel_arr, bel_map, bel_mapb, bel_iter, bel_loop, bel_defr, AV.renL, AV.ren, AV.belL, AV.bel, rn]) (by simp) (by simp [nF, PV, Tb, Ps, Psn, Ns, Cs, Csn, fP, pL, fE, errD, errF, pgetD, nodeD, sl, pods_length, nds_length, plcs_length]) (by simp [nF, PV, Tb, Ps, Psn, Ns, Cs, Csn, fP, pL, fE, errD, errF, pgetD, nodeD, sl, pods_length, nds_length, plcs_length, AV.ren, AV.renL, rn]) (by simp [AV.belL, AV.bel]) (WK.now ?_)
          simp only [Cs, push_cast, simprocAttr, pods_length, nds_length, fP, pL]
          refine (seq_ok fs fs (by unfold Sz; omega) (by unfold Sz; omega)).go (by first | exact ⟨.inl rfl, trivial⟩ | exact ⟨.inl rfl, .inl rfl, trivial⟩ | exact ⟨.inl rfl, .inl rfl, .inl rfl, trivial⟩ | simp [argsOk, argOk, sl, sll]) (WK.now ?_)
          simp only [B_true (show fs = fs from rfl), push_cast, simprocAttr, pods_length, nds_length, fP, pL]
          refine WK.now ?_
          simp only [push_cast, simprocAttr, pods_length, nds_length, fP, pL]
        | none =>
          rw [he] at hadd
          obtain ⟨A, B', hnA, hnB, hpods, hno⟩ := h.adds he
          have h' := h.add n.1 n.2
          obtain ⟨c', hc'⟩ : ∃ c', c' = clAdd c n.1 n.2 := ⟨_, rfl⟩
          obtain ⟨w', hw'⟩ : ∃ w', w' = rcAdd w n.1 n.2 := ⟨_, rfl⟩
          rw [← hc', ← hw'] at h'
          rw [← hc'] at hadd
          rw [← hw'] at hnB hpods
          have h2 := fnodes_ok (h'.lds p hsz)
          rw [h'.nds, hnB, selN_app] at h2
          have hg : ∀ m ∈ w.nodes, fitsB c' p (lvW w' p) m = fitsB c p (lvW w p) m := fun m hm => h.fits_add h' hpods p hm (by
            rw [hnB]; rw [hnA] at hm
            rcases List.mem_append.1 hm with hm | hm
            · exact List.mem_append_left _ hm
            · exact List.mem_append_right _ (List.mem_cons_of_mem _ hm))
          have eA : selN A (fitsB c' p (lvW w' p)) = selN A (fitsB c p (lvW w p)) := selN_congr fun m hm => hg m (by rw [hnA]; exact List.mem_append_left _ hm)
          have eB : selN B' (fitsB c' p (lvW w' p)) = selN B' (fitsB c p (lvW w p)) := selN_congr fun m hm => hg m (by rw [hnA]; exact List.mem_append_right _ hm)
          obtain ⟨SA, hSA⟩ : ∃ SA, SA = selN A (fitsB c p (lvW w p)) := ⟨_, rfl⟩
          obtain ⟨SB, hSB⟩ : ∃ SB, SB = selN B' (fitsB c p (lvW w p)) := ⟨_, rfl⟩
          have hfs2 : fs = SA ++ SB := by rw [hfs, hnA, selN_app, ← hSA, ← hSB]
          have hmemS : ∀ x ∈ fs, x ≠ n.1 := fun x hx => by
            rw [hfs] at hx
            unfold selN at hx
            obtain ⟨m, hm, rfl⟩ := List.mem_map.1 hx
            exact hno m (List.mem_filter.1 hm).1
          have hnotA : n.1 ∉ SA := fun hx => hmemS n.1 (by rw [hfs2]; exact List.mem_append_left _ hx) rfl
          have hlen : SA.length + SB.length ≤ 1000000 := by rw [hfs2, List.length_append] at hfl; exact hfl
          refine hadd.at [2, 3, 4, 5, 6, 7, 8, 9] (by simp [nF, PV, Tb, Ps, Psn, Ns, Cs, Csn, fP, pL, fE, errD, errF, pgetD, nodeD, sl, pods_length, nds_length, plcs_length, sbl, ren_none, ren_var, ren_arr, ren_map, ren_mapb, ren_iter, ren_loop, ren_defr, bel_none, bel_var, bel_arr, bel_map, bel_mapb, bel_iter, bel_loop, bel_defr, AV.renL, AV.ren, AV.belL, AV.bel, rn]) (by simp) (by simp [nF, PV, Tb, Ps, Psn, Ns, Cs, Csn, fP, pL, fE, errD, errF, pgetD, nodeD, sl, pods_length, nds_length, plcs_length]) (by simp [nF, PV, Tb, Ps, Psn, Ns, Cs, Csn, fP, pL, fE, errD, errF, pgetD, nodeD, sl, pods_length, nds_length, plcs_length, AV.ren, AV.renL, rn]) (by simp [AV.belL, AV.bel]) (WK.now ?_)
          simp only [Cs, errF, push_cast, simprocAttr, pods_length, nds_length, fP, pL]
          cases hgn : fitsB c' p (lvW w' p) (n.1, n.2) with
          | false =>
            have hsel : selN ((n.1, n.2) :: B') (fitsB c' p (lvW w' p)) = SB := by
              unfold selN at eB ⊢
              rw [List.filter_cons_of_neg (by rw [hgn]; decide), eB, hSB]
              rfl
            rw [eA, hsel, ← hSA, ← hfs2] at h2
            refine h2.at [2, 3, 4, 5, 6, 7, 8, 9] (by simp [nF, PV, Tb, Ps, Psn, Ns, Cs, Csn, fP, pL, fE, errD, errF, pgetD, nodeD, sl, pods_length, nds_length, plcs_length, sbl, ren_none, ren_var, ren_arr, ren_map, ren_mapb, ren_iter, ren_loop, ren_defr, bel_none, bel_var, bel_arr, bel_map, bel_mapb, bel_iter, bel_loop, bel_defr, AV.renL, AV.ren, AV.belL, AV.bel, rn]) (by simp) (by simp [nF, PV, Tb, Ps, Psn, Ns, Cs, Csn, fP, pL, fE, errD, errF, pgetD, nodeD, sl, pods_length, nds_length, plcs_length]) (by simp [nF, PV, Tb, Ps, Psn, Ns, Cs, Csn, fP, pL, fE, errD, errF, pgetD, nodeD, sl, pods_length, nds_length, plcs_length, AV.ren, AV.renL, rn]) (by simp [AV.belL, AV.bel]) (WK.now ?_)
            simp only [Cs, push_cast, simprocAttr, pods_length, nds_length, fP, pL]
            refine (index_ok' fs n.1 (by omega)).go (by first | exact ⟨.inl rfl, trivial⟩ | exact ⟨.inl rfl, .inl rfl, trivial⟩ | exact ⟨.inl rfl, .inl rfl, .inl rfl, trivial⟩ | simp [argsOk, argOk, sl, sll]) (WK.now ?_)
            simp only [idxV_out (show n.1 ∉ fs from fun hx => hmemS n.1 hx rfl), push_cast, simprocAttr, pods_length, nds_length, fP, pL]
            refine (seq_ok fs fs (by unfold Sz; omega) (by unfold Sz; omega)).go (by first | exact ⟨.inl rfl, trivial⟩ | exact ⟨.inl rfl, .inl rfl, trivial⟩ | exact ⟨.inl rfl, .inl rfl, .inl rfl, trivial⟩ | simp [argsOk, argOk, sl, sll]) (WK.now ?_)
            simp only [B_true (show fs = fs from rfl), push_cast, simprocAttr, pods_length, nds_length, fP, pL]
            refine WK.now ?_
            simp only [push_cast, simprocAttr, pods_length, nds_length, fP, pL]
          | true =>
            have hsel : selN ((n.1, n.2) :: B') (fitsB c' p (lvW w' p)) = n.1 :: SB := by
              unfold selN at eB ⊢
              rw [List.filter_cons_of_pos hgn, List.map_cons, eB, hSB]
              rfl
            rw [eA, hsel, ← hSA] at h2
            have hix := index_ok' (SA ++ n.1 :: SB) n.1 (by simp; omega)
            rw [idxV_mid hnotA] at hix
            refine h2.at [2, 3, 4, 5, 6, 7, 8, 9] (by simp [nF, PV, Tb, Ps, Psn, Ns, Cs, Csn, fP, pL, fE, errD, errF, pgetD, nodeD, sl, pods_length, nds_length, plcs_length, sbl, ren_none, ren_var, ren_arr, ren_map, ren_mapb, ren_iter, ren_loop, ren_defr, bel_none, bel_var, bel_arr, bel_map, bel_mapb, bel_iter, bel_loop, bel_defr, AV.renL, AV.ren, AV.belL, AV.bel, rn]) (by simp) (by simp [nF, PV, Tb, Ps, Psn, Ns, Cs, Csn, fP, pL, fE, errD, errF, pgetD, nodeD, sl, pods_length, nds_length, plcs_length]) (by simp [nF, PV, Tb, Ps, Psn, Ns, Cs, Csn, fP, pL, fE, errD, errF, pgetD, nodeD, sl, pods_length, nds_length, plcs_length, AV.ren, AV.renL, rn]) (by simp [AV.belL, AV.bel]) (WK.now ?_)
            simp only [Cs, push_cast, simprocAttr, pods_length, nds_length, fP, pL]
            refine hix.go (by first | exact ⟨.inl rfl, trivial⟩ | exact ⟨.inl rfl, .inl rfl, trivial⟩ | exact ⟨.inl rfl, .inl rfl, .inl rfl, trivial⟩ | simp [argsOk, argOk, sl, sll]) (WK.now ?_)
            have g0 : decide ((SA.length : Int) ≥ 0) = true := decide_eq_true (by omega)
            have w1 : IntKind.wrap .i64 ((SA.length : Int) + 1) = ((SA.length + 1 : Nat) : Int) := by rw [wrapi (by omega) (by omega)]; omega
            simp only [g0, push_cast, simprocAttr, pods_length, nds_length, fP, pL]
            refine DRegL.det [8] [0, 1, 2, 3, 4, 5, 6, 7] [(8, [], [9])] (by kernel_rfl) (by kernel_rfl) (by kernel_rfl) ?_
            simp only [w1, List.length_append, push_cast, simprocAttr, pods_length, nds_length, fP, pL]
            have t1 : List.take SA.length (ints (SA ++ n.1 :: SB)) = ints SA := by
              unfold ints
              rw [← List.map_take, List.take_left]
            have t2 : List.drop ((SA.length : Int) + 1).toNat (List.take ((SA.length : Int) + ((SB.length : Int) + 1)).toNat (ints (SA ++ n.1 :: SB))) = ints SB := by
              have z1 : ((SA.length : Int) + 1).toNat = SA.length + 1 := by omega
              have z2 : ((SA.length : Int) + ((SB.length : Int) + 1)).toNat = (SA ++ n.1 :: SB).length := by simp; omega
              rw [z1, z2]
              unfold ints
              rw [← List.map_take, List.take_length, ← List.map_drop]
              congr 1
              rw [← List.drop_drop, List.drop_left]
              rfl
            rw [t1, t2]
            refine ⟨by omega, by omega, by omega, by omega, apI_intro (fun hne he => ?_) (fun hor => ?_)⟩
            · subst he
              rw [show fs = SA by rw [hfs2, List.append_nil]]
              refine (seq_ok SA SA (by unfold Sz; omega) (by unfold Sz; omega)).go (by simp [argsOk, argOk, sl, sll, ints, intss]) (WK.now ?_)
              simp only [B_true (show SA = SA from rfl), push_cast, simprocAttr, pods_length, nds_length, fP, pL]
              refine WK.now ?_
              simp only [push_cast, simprocAttr, pods_length, nds_length, fP, pL]
            · simp only [push_cast, simprocAttr, pods_length, nds_length, fP, pL]
              refine ⟨hor, room_of (by omega) (by omega), ?_⟩
              rw [ints_app, ← hfs2]
              refine (seq_ok fs fs (by unfold Sz; omega) (by unfold Sz; omega)).frzgo 11 rfl (by simp [AV.frzL, AV.frz, argsOk, argOk, sl]) (WK.now ?_)
              simp only [B_true (show fs = fs from rfl), push_cast, simprocAttr, pods_length, nds_length, fP, pL]
              refine WK.now ?_
              simp only [push_cast, simprocAttr, pods_length, nds_length, fP, pL]
end Go.Proofs.YtcmhdpbmcgglmaaGreatDoor
end
