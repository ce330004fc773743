/-
  FilterBinds, walked.
-/
import Derived.Test.YtcmhdpbmcgglmaaGreatDoorH1
section
set_option autoImplicit false
set_option linter.unusedVariables false
set_option linter.unusedSimpArgs false
namespace Go.Proofs.YtcmhdpbmcgglmaaGreatDoor
open Go.Abs
section
variable {c : Cl} {w : Rc}
theorem RC.use_load (h : RC c w) (q : Pod) {n : Int} (hn : (findN w.nodes n).isSome = true) (k : Nat) (hk : k < 2) : useAt k w.pods n ≤ (loadV w q n []).getD k 0 := by
  have e : useAt k w.pods n = reqV (heldP w.pods n []) k := by
    have := use_held k n [] w.pods
    rw [show (w.pods.filter fun q => !decide (q.1.id ∈ ([] : List Int))) = w.pods from List.filter_eq_self.2 (by simp)] at this
    exact this
  rw [e]
  unfold loadV
  rw [hn]
  simp only [if_true]
  have hk2 : k = 0 ∨ k = 1 := by omega
  rcases hk2 with rfl | rfl
  · have := (seen_bd h q n 0).1
    show _ ≤ reqV _ 0 + reqV _ 0
    omega
  · have := (seen_bd h q n 1).1
    show _ ≤ reqV _ 1 + reqV _ 1
    omega
theorem RC.bind_fits (h : RC c w) {id n : Int} {q : Pod} (hq : findP w.pods id = some q) (hph : q.1.ph = 1) {m : Int × List Int} (hm : m ∈ w.nodes) (hn : m.1 = n) (hf : fitsB c q (lvW w q) m = true) :
    placeD c id n 1 = .tup [fP (applyP q 1 3 n (-1)), .nili] := by
  subst hn
  have hfm := h.findN_mem hm
  have hqm := (findP_some hq).1
  have hv := h.gp q hqm
  have hgn := h.gn m hm
  have ht := h.tot q m.1 []
  rw [hfm] at ht
  dsimp only at ht
  rw [if_neg hv.ok] at ht
  unfold fitsB at hf
  rw [show lvW w q m.1 = loadV w q m.1 [] from rfl, ht] at hf
  have hF : FitsP _ m.2 := B_iff.1 hf
  have u0 := h.use_load q (n := m.1) (by rw [hfm]; rfl) 0 (by omega)
  have u1 := h.use_load q (n := m.1) (by rw [hfm]; rfl) 1 (by omega)
  have z0 := zipA_get (load_len w q m.1 []) hv.1 (k := 0) (by omega)
  have z1 := zipA_get (load_len w q m.1 []) hv.1 (k := 1) (by omega)
  have f0 := hF.2 0 (by rw [zip_two (load_len w q m.1 []) hv.1]; omega)
  have f1 := hF.2 1 (by rw [zip_two (load_len w q m.1 []) hv.1]; omega)
  have v0 := zipA_get (u := useOf w.pods m.1) (v := q.2) rfl hv.1 (k := 0) (by omega)
  have v1 := zipA_get (u := useOf w.pods m.1) (v := q.2) rfl hv.1 (k := 1) (by omega)
  have a0 : (useOf w.pods m.1).getD 0 0 = useAt 0 w.pods m.1 := rfl
  have a1 : (useOf w.pods m.1).getD 1 0 = useAt 1 w.pods m.1 := rfl
  have p0 := useAt_pos 0 m.1 w.pods h.gp
  have p1 := useAt_pos 1 m.1 w.pods h.gp
  have b0 := hv.at 0
  have b1 := hv.at 1
  have c0 := hgn.at 0
  have c1 := hgn.at 1
  have hadd : addS [useOf w.pods m.1, q.2] = some (List.zipWith (· + ·) (useOf w.pods m.1) q.2) := addS_two (by rw [hv.1]; rfl) (fun k hk => by
    have hk2 : k = 0 ∨ k = 1 := by have : k < 2 := hk; omega
    rcases hk2 with rfl | rfl
    · show I64 (useAt 0 w.pods m.1 + _); unfold I64; omega
    · show I64 (useAt 1 w.pods m.1 + _); unfold I64; omega)
  have hfit : FitsP ((addS [useOf w.pods m.1, q.2]).getD []) m.2 := by
    rw [hadd, Option.getD_some]
    refine ⟨by rw [zip_two rfl hv.1, hgn.1], fun k hk => ?_⟩
    rw [zip_two rfl hv.1] at hk
    have hk2 : k = 0 ∨ k = 1 := by omega
    rcases hk2 with rfl | rfl
    · omega
    · omega
  unfold placeD
  rw [h.get, h.getN, hq, hfm]
  dsimp only [Option.map_some]
  rw [hph, show nextP 1 1 = some 3 from rfl]
  dsimp only
  rw [if_pos rfl, h.hold_eq hqm hfm, B_true hfit]
  rfl
theorem submit_cases (h : RC c w) (p : Pod) (hw : w.pods.length ≤ 40) :
    ((∃ e, (clSubmit c p).2 = some e) ∧ (0 ≤ wrongS p.2 2 ∨ (lget c.L p.1.id).isSome = true)) ∨
    ((clSubmit c p).2 = none ∧ rcSubmit w p = { w with pods := w.pods ++ [submitP p w.pods.length] } ∧ findP (w.pods ++ [submitP p w.pods.length]) p.1.id = some (submitP p w.pods.length) ∧ c.ids.length = w.pods.length) := by
  unfold clSubmit
  rw [h.d1]
  by_cases h1 : 0 ≤ wrongS p.2 2
  · rw [if_pos h1]
    exact .inl ⟨⟨_, rfl⟩, .inl h1⟩
  · rw [if_neg h1]
    by_cases h2 : (lget c.L p.1.id).isSome = true
    · unfold addE
      rw [if_pos h2]
      exact .inl ⟨⟨_, rfl⟩, .inr h2⟩
    · have hl : c.L.length = w.pods.length := by have := h.perm.length_eq; rwa [kv_length] at this
      have h3 : ¬ (65536 : Int) = c.L.length := by omega
      unfold addE
      rw [if_neg h2, if_neg h3]
      refine .inr ⟨rfl, ?_, ?_, ?_⟩
      · unfold rcSubmit
        rw [h.d2, if_neg (by exact h1), ← h.get, if_neg h2, if_neg (by omega)]
      · have hnone : findP w.pods p.1.id = none := by
          rw [← h.get]
          cases hg : lget c.L p.1.id with
          | none => rfl
          | some x => rw [hg] at h2; exact absurd rfl h2
        unfold findP at hnone ⊢
        rw [List.find?_append, hnone]
        simp [submitP]
      · rw [h.ids, List.length_map]
end
def idP (p : Pod) : Pod := ({ p.1 with id := 536870912 }, p.2)
set_option maxRecDepth 8000 in
set_option maxHeartbeats 1000000 in
theorem filterBinds_ok (nodes : List (Int × List Int)) (ps : List Plc) (p : Pod) : PCall env 11 [.slice 2 (nds nodes), .slice 11 (plcs ps), fP p] (.bool true) := by
  refine acalls_of envOk Tryz.func11 rfl (by kernel_rfl) (m := 90) rfl ?_
  simp only [push_cast, simprocAttr, pods_length, nds_length, fP, pL]
  refine (build_ok nodes ps).atK [] (by simp [idP, applyP, submitP, PV, Tb, Ps, Psn, Ns, Cs, Csn, fP, pL, fE, errD, errF, pgetD, nodeD, sl, pods_length, nds_length, plcs_length, sbl, ren_none, ren_var, ren_arr, ren_map, ren_mapb, ren_iter, ren_loop, ren_defr, bel_none, bel_var, bel_arr, bel_map, bel_mapb, bel_iter, bel_loop, bel_defr, AV.renL, AV.ren, AV.belL, AV.bel, rn]) (by simp) (by simp [idP, applyP, submitP, PV, Tb, Ps, Psn, Ns, Cs, Csn, fP, pL, fE, errD, errF, pgetD, nodeD, sl, pods_length, nds_length, plcs_length]) (by simp [idP, applyP, submitP, PV, Tb, Ps, Psn, Ns, Cs, Csn, fP, pL, fE, errD, errF, pgetD, nodeD, sl, pods_length, nds_length, plcs_length, AV.ren, AV.renL, rn]) (by simp [AV.belL, AV.bel]) ?_
  rintro r H' (⟨x, y, z, rfl, rfl⟩ | ⟨c, w, rfl, rfl, h, hnl, hpl⟩)
  · refine WK.now ?_
    simp only [push_cast, simprocAttr, pods_length, nds_length, fP, pL]
    refine awake17_ok.go ⟨⟩ (WK.now ?_)
    simp only [push_cast, simprocAttr, pods_length, nds_length, fP, pL]
    refine awake17_ok.go ⟨⟩ (WK.now ?_)
    simp only [push_cast, simprocAttr, pods_length, nds_length, fP, pL]
    refine WK.now ?_
    simp only [push_cast, simprocAttr, pods_length, nds_length, fP, pL]
  · refine WK.now ?_
    simp only [Cs, fRc, push_cast, simprocAttr, pods_length, nds_length, fP, pL]
    refine awake17_ok.go ⟨⟩ (WK.now ?_)
    simp only [one_pod, push_cast, simprocAttr, pods_length, nds_length, fP, pL]
    refine (few_ok [p] (by simp)).go (by first | exact ⟨.inl rfl, trivial⟩ | exact ⟨.inl rfl, .inl rfl, trivial⟩ | exact ⟨.inl rfl, .inl rfl, .inl rfl, trivial⟩ | simp [argsOk, argOk, sl, sll]) (WK.now ?_)
    cases hf : B (FewP [p]) with
    | false =>
      simp only [push_cast, simprocAttr, pods_length, nds_length, fP, pL]
      refine awake17_ok.go ⟨⟩ (WK.now ?_)
      simp only [push_cast, simprocAttr, pods_length, nds_length, fP, pL]
      refine WK.now ?_
      simp only [push_cast, simprocAttr, pods_length, nds_length, fP, pL]
    | true =>
      have hp := (fewP_one p).1 (B_iff.1 hf)
      have hsz : Sz p.2 := by have := hp.2.2; unfold Sz; omega
      have hpod := cpod_ok c 536870912 h.ok.L
      have hq2 : ∃ q : Pd × D, pgetD (lget c.L 536870912) = .tup [.agg (pL' q), .bool (lget c.L 536870912).isSome] := ⟨(((lget c.L 536870912).getD pz).1, .slice 1 (ints ((lget c.L 536870912).getD pz).2)), rfl⟩
      obtain ⟨q, hq2⟩ := hq2
      rw [hq2] at hpod
      simp only [push_cast, simprocAttr, pods_length, nds_length, fP, pL]
      refine hpod.at [1, 2, 3, 4, 5, 6, 7, 8] (by simp [idP, applyP, submitP, PV, Tb, Ps, Psn, Ns, Cs, Csn, fP, pL, fE, errD, errF, pgetD, nodeD, sl, pods_length, nds_length, plcs_length, sbl, ren_none, ren_var, ren_arr, ren_map, ren_mapb, ren_iter, ren_loop, ren_defr, bel_none, bel_var, bel_arr, bel_map, bel_mapb, bel_iter, bel_loop, bel_defr, AV.renL, AV.ren, AV.belL, AV.bel, rn]) (by simp) (by simp [idP, applyP, submitP, PV, Tb, Ps, Psn, Ns, Cs, Csn, fP, pL, fE, errD, errF, pgetD, nodeD, sl, pods_length, nds_length, plcs_length]) (by simp [idP, applyP, submitP, PV, Tb, Ps, Psn, Ns, Cs, Csn, fP, pL, fE, errD, errF, pgetD, nodeD, sl, pods_length, nds_length, plcs_length, AV.ren, AV.renL, rn]) (by simp [AV.belL, AV.bel]) (WK.now ?_)
      simp only [Cs, pL', push_cast, simprocAttr, pods_length, nds_length, fP, pL]
      rcases submit_cases h (idP p) hpl with ⟨⟨e, he⟩, hwhy⟩ | ⟨he, hrc, hfind, hlen⟩
      · refine (csubmit_err c (idP p) h.ok hsz e he).at [1, 2, 3, 4, 5, 6, 7, 8] (by simp [idP, applyP, submitP, PV, Tb, Ps, Psn, Ns, Cs, Csn, fP, pL, fE, errD, errF, pgetD, nodeD, sl, pods_length, nds_length, plcs_length, sbl, ren_none, ren_var, ren_arr, ren_map, ren_mapb, ren_iter, ren_loop, ren_defr, bel_none, bel_var, bel_arr, bel_map, bel_mapb, bel_iter, bel_loop, bel_defr, AV.renL, AV.ren, AV.belL, AV.bel, rn]) (by simp) (by simp [idP, applyP, submitP, PV, Tb, Ps, Psn, Ns, Cs, Csn, fP, pL, fE, errD, errF, pgetD, nodeD, sl, pods_length, nds_length, plcs_length]) (by simp [idP, applyP, submitP, PV, Tb, Ps, Psn, Ns, Cs, Csn, fP, pL, fE, errD, errF, pgetD, nodeD, sl, pods_length, nds_length, plcs_length, AV.ren, AV.renL, rn]) (by simp [AV.belL, AV.bel]) (WK.now ?_)
        simp only [Cs, errF, zP, pod0, push_cast, simprocAttr, pods_length, nds_length, fP, pL]
        refine (rwrong_ok p.2 2 (by have := hp.2.2; omega)).go (by first | exact ⟨.inl rfl, trivial⟩ | exact ⟨.inl rfl, .inl rfl, trivial⟩ | exact ⟨.inl rfl, .inl rfl, .inl rfl, trivial⟩ | simp [argsOk, argOk, sl, sll]) (WK.now ?_)
        simp only [push_cast, simprocAttr, pods_length, nds_length, fP, pL]
        refine Kbr.mk (fun b => ?_) (fun b => ?_)
        · have hk : (lget c.L 536870912).isSome = true := by
            rcases hwhy with h1 | h1
            · exact absurd b (by rw [decide_eq_true (show wrongS p.2 2 ≥ 0 from h1)]; decide)
            · exact h1
          simp only [hk, push_cast, simprocAttr, pods_length, nds_length, fP, pL]
          refine WK.now ?_
          simp only [hk, push_cast, simprocAttr, pods_length, nds_length, fP, pL]
        · simp only [push_cast, simprocAttr, pods_length, nds_length, fP, pL]
          refine WK.now ?_
          simp only [push_cast, simprocAttr, pods_length, nds_length, fP, pL]
      · obtain ⟨c1, hc1⟩ : ∃ c1, c1 = (clSubmit c (idP p)).1 := ⟨_, rfl⟩
        obtain ⟨qv, hqv⟩ : ∃ qv, qv = submitP (idP p) w.pods.length := ⟨_, rfl⟩
        have hsub := csubmit_new c (idP p) h.ok hsz he
        have h1 := h.submit (idP p)
        rw [← hc1, hrc, ← hqv] at h1
        rw [← hc1, hlen, ← hqv] at hsub
        rw [← hqv] at hfind
        have hqs : Sz qv.2 := by rw [hqv]; exact hsz
        have hqp : qv.1.ph = 1 := by rw [hqv]; rfl
        have hqi : qv.1.id = 536870912 := by rw [hqv]; rfl
        have hf1 := first_ok (h1.lds qv hqs)
        have hf2 := fnodes_ok (h1.lds qv hqs)
        rw [h1.nds] at hf1 hf2
        refine hsub.at [1, 2, 3, 4, 5, 6, 7, 8] (by simp [idP, applyP, submitP, PV, Tb, Ps, Psn, Ns, Cs, Csn, fP, pL, fE, errD, errF, pgetD, nodeD, sl, pods_length, nds_length, plcs_length, sbl, ren_none, ren_var, ren_arr, ren_map, ren_mapb, ren_iter, ren_loop, ren_defr, bel_none, bel_var, bel_arr, bel_map, bel_mapb, bel_iter, bel_loop, bel_defr, AV.renL, AV.ren, AV.belL, AV.bel, rn]) (by simp) (by simp [idP, applyP, submitP, PV, Tb, Ps, Psn, Ns, Cs, Csn, fP, pL, fE, errD, errF, pgetD, nodeD, sl, pods_length, nds_length, plcs_length]) (by simp [idP, applyP, submitP, PV, Tb, Ps, Psn, Ns, Cs, Csn, fP, pL, fE, errD, errF, pgetD, nodeD, sl, pods_length, nds_length, plcs_length, AV.ren, AV.renL, rn]) (by simp [AV.belL, AV.bel]) (WK.now ?_)
        simp only [Csn, push_cast, simprocAttr, pods_length, nds_length, fP, pL]
        refine hf1.at [1, 2, 3, 11, 5, 6, 7, 8] (by simp [idP, applyP, submitP, PV, Tb, Ps, Psn, Ns, Cs, Csn, fP, pL, fE, errD, errF, pgetD, nodeD, sl, pods_length, nds_length, plcs_length, sbl, ren_none, ren_var, ren_arr, ren_map, ren_mapb, ren_iter, ren_loop, ren_defr, bel_none, bel_var, bel_arr, bel_map, bel_mapb, bel_iter, bel_loop, bel_defr, AV.renL, AV.ren, AV.belL, AV.bel, rn]) (by simp) (by simp [idP, applyP, submitP, PV, Tb, Ps, Psn, Ns, Cs, Csn, fP, pL, fE, errD, errF, pgetD, nodeD, sl, pods_length, nds_length, plcs_length]) (by simp [idP, applyP, submitP, PV, Tb, Ps, Psn, Ns, Cs, Csn, fP, pL, fE, errD, errF, pgetD, nodeD, sl, pods_length, nds_length, plcs_length, AV.ren, AV.renL, rn]) (by simp [AV.belL, AV.bel]) (WK.now ?_)
        cases hs : selN w.nodes (fitsB c1 qv (lvW { w with pods := w.pods ++ [qv] } qv)) with
        | nil =>
          rw [hs] at hf2
          simp only [Cs, fstD, push_cast, simprocAttr, pods_length, nds_length, fP, pL]
          refine hf2.at [1, 2, 3, 11, 5, 6, 7, 8] (by simp [idP, applyP, submitP, PV, Tb, Ps, Psn, Ns, Cs, Csn, fP, pL, fE, errD, errF, pgetD, nodeD, sl, pods_length, nds_length, plcs_length, sbl, ren_none, ren_var, ren_arr, ren_map, ren_mapb, ren_iter, ren_loop, ren_defr, bel_none, bel_var, bel_arr, bel_map, bel_mapb, bel_iter, bel_loop, bel_defr, AV.renL, AV.ren, AV.belL, AV.bel, rn]) (by simp) (by simp [idP, applyP, submitP, PV, Tb, Ps, Psn, Ns, Cs, Csn, fP, pL, fE, errD, errF, pgetD, nodeD, sl, pods_length, nds_length, plcs_length]) (by simp [idP, applyP, submitP, PV, Tb, Ps, Psn, Ns, Cs, Csn, fP, pL, fE, errD, errF, pgetD, nodeD, sl, pods_length, nds_length, plcs_length, AV.ren, AV.renL, rn]) (by simp [AV.belL, AV.bel]) (WK.now ?_)
          simp only [Cs, push_cast, simprocAttr, pods_length, nds_length, fP, pL]
          refine WK.now ?_
          simp only [push_cast, simprocAttr, pods_length, nds_length, fP, pL]
        | cons n l =>
          have hmem : n ∈ selN w.nodes (fitsB c1 qv (lvW { w with pods := w.pods ++ [qv] } qv)) := by rw [hs]; simp
          unfold selN at hmem
          obtain ⟨m, hm, hmn⟩ := List.mem_map.1 hmem
          obtain ⟨m1, m2⟩ := List.mem_filter.1 hm
          have hb := cbind_ok c1 536870912 n h1.ok
          rw [h1.bind_fits (id := 536870912) hfind hqp m1 hmn m2] at hb
          simp only [Cs, fstD, hqi, push_cast, simprocAttr, pods_length, nds_length, fP, pL]
          refine hb.at [1, 2, 3, 11, 5, 6, 7, 8] (by simp [idP, applyP, submitP, PV, Tb, Ps, Psn, Ns, Cs, Csn, fP, pL, fE, errD, errF, pgetD, nodeD, sl, pods_length, nds_length, plcs_length, sbl, ren_none, ren_var, ren_arr, ren_map, ren_mapb, ren_iter, ren_loop, ren_defr, bel_none, bel_var, bel_arr, bel_map, bel_mapb, bel_iter, bel_loop, bel_defr, AV.renL, AV.ren, AV.belL, AV.bel, rn]) (by simp) (by simp [idP, applyP, submitP, PV, Tb, Ps, Psn, Ns, Cs, Csn, fP, pL, fE, errD, errF, pgetD, nodeD, sl, pods_length, nds_length, plcs_length]) (by simp [idP, applyP, submitP, PV, Tb, Ps, Psn, Ns, Cs, Csn, fP, pL, fE, errD, errF, pgetD, nodeD, sl, pods_length, nds_length, plcs_length, AV.ren, AV.renL, rn]) (by simp [AV.belL, AV.bel]) (WK.now ?_)
          simp only [Cs, applyP, push_cast, simprocAttr, pods_length, nds_length, fP, pL]
          refine WK.now ?_
          simp only [push_cast, simprocAttr, pods_length, nds_length, fP, pL]
          simp
end Go.Proofs.YtcmhdpbmcgglmaaGreatDoor
end
