/-
  FilterParts, walked.
-/
import Derived.Test.YtcmhdpbmcgglmaaGreatDoorG1
import Derived.Test.YtcmhdpbmcgglmaaGreatDoorB3
section
set_option autoImplicit false
set_option linter.unusedVariables false
set_option linter.unusedSimpArgs false
namespace Go.Proofs.YtcmhdpbmcgglmaaGreatDoor
open Go.Abs
theorem prs_get {l : List (Int × Int)} {i : Nat} (h : i < l.length) : (prs l).getD i [] = [.int .i64 (l.getD i (0, 0)).1, .int .i64 (l.getD i (0, 0)).2] := by simp [prs, List.getD_eq_getElem?_getD, h]
theorem cel_prs0 {l : List (Int × Int)} {i : Nat} (h : i < l.length) : cel (prs l) i 0 = .int .i64 (l.getD i (0, 0)).1 := by unfold cel; rw [prs_get h]; rfl
theorem cel_prs1 {l : List (Int × Int)} {i : Nat} (h : i < l.length) : cel (prs l) i 1 = .int .i64 (l.getD i (0, 0)).2 := by unfold cel; rw [prs_get h]; rfl
def H17 (c : Cl) (w : Rc) (p : Pod) : List AObj := [PV p, .map (entE fP c.L), .var [.d (.int .i64 65536), .mapo 1], .var [.pvar 2 0, .sfull 4], .arr 3 1 (ints c.ids),
  .map (entE fE c.N), .var [.d (.int .i64 1024), .mapo 5], .var [.d (.int .i64 c.d), .pvar 6 0], .var [.pvar 3 0, .pvar 7 0],
  .var [.d (.int .i64 w.d), .d (.slice 2 (nds w.nodes)), .d (.slice 9 (pods w.pods))]]
set_option maxRecDepth 8000 in
set_option maxHeartbeats 1000000 in
theorem filterParts_ok (nodes : List (Int × List Int)) (ps : List Plc) (p : Pod) : PCall env 8 [.slice 2 (nds nodes), .slice 11 (plcs ps), fP p] (.bool true) := by
  refine acalls_of envOk Tryz.func8 rfl (by kernel_rfl) (m := 86) rfl ?_
  simp only [push_cast, simprocAttr, pods_length, nds_length, fP, pL]
  refine (build_ok nodes ps).atK [] (by simp [PV, Tb, Ps, Psn, Ns, Cs, Csn, fP, pL, fE, errD, errF, pgetD, nodeD, sl, pods_length, nds_length, plcs_length, sbl, ren_none, ren_var, ren_arr, ren_map, ren_mapb, ren_iter, ren_loop, ren_defr, bel_none, bel_var, bel_arr, bel_map, bel_mapb, bel_iter, bel_loop, bel_defr, AV.renL, AV.ren, AV.belL, AV.bel, rn]) (by simp) (by simp [PV, Tb, Ps, Psn, Ns, Cs, Csn, fP, pL, fE, errD, errF, pgetD, nodeD, sl, pods_length, nds_length, plcs_length]) (by simp [PV, Tb, Ps, Psn, Ns, Cs, Csn, fP, pL, fE, errD, errF, pgetD, nodeD, sl, pods_length, nds_length, plcs_length, AV.ren, AV.renL, rn]) (by simp [AV.belL, AV.bel]) ?_
  rintro r H' (⟨x, y, z, rfl, rfl⟩ | ⟨c, w, rfl, rfl, h, hnl, hpl⟩)
  · refine WK.now ?_
    simp only [push_cast, simprocAttr, pods_length, nds_length, fP, pL]
    refine awake17_ok.go ⟨⟩ (WK.now ?_)
    simp only [push_cast, simprocAttr, pods_length, nds_length, fP, pL]
    refine awake17_ok.go ⟨⟩ (WK.now ?_)
    simp only [push_cast, simprocAttr, pods_length, nds_length, fP, pL]
    refine WK.now ?_
    simp only [push_cast, simprocAttr, pods_length, nds_length, fP, pL]
  · refine WK.now ?_
    simp only [Cs, fRc, push_cast, simprocAttr, pods_length, nds_length, fP, pL]
    refine awake17_ok.go ⟨⟩ (WK.now ?_)
    simp only [one_pod, push_cast, simprocAttr, pods_length, nds_length, fP, pL]
    refine (few_ok [p] (by simp)).go (by first | exact ⟨.inl rfl, trivial⟩ | exact ⟨.inl rfl, .inl rfl, trivial⟩ | exact ⟨.inl rfl, .inl rfl, .inl rfl, trivial⟩ | simp [argsOk, argOk, sl, sll]) (WK.now ?_)
    cases hf : B (FewP [p]) with
    | false =>
      simp only [push_cast, simprocAttr, pods_length, nds_length, fP, pL]
      refine awake17_ok.go ⟨⟩ (WK.now ?_)
      simp only [push_cast, simprocAttr, pods_length, nds_length, fP, pL]
      refine WK.now ?_
      simp only [push_cast, simprocAttr, pods_length, nds_length, fP, pL]
    | true =>
      have hp := (fewP_one p).1 (B_iff.1 hf)
      simp only [push_cast, simprocAttr, pods_length, nds_length, fP, pL]
      refine (rwrong_ok p.2 2 (by have := hp.2.2; omega)).go (by first | exact ⟨.inl rfl, trivial⟩ | exact ⟨.inl rfl, .inl rfl, trivial⟩ | exact ⟨.inl rfl, .inl rfl, .inl rfl, trivial⟩ | simp [argsOk, argOk, sl, sll]) (WK.now ?_)
      simp only [push_cast, simprocAttr, pods_length, nds_length, fP, pL]
      refine Kbr.mk (fun b => ?_) (fun b => ?_)
      · simp only [push_cast, simprocAttr, pods_length, nds_length, fP, pL]
        refine awake17_ok.go ⟨⟩ (WK.now ?_)
        simp only [push_cast, simprocAttr, pods_length, nds_length, fP, pL]
        refine WK.now ?_
        simp only [push_cast, simprocAttr, pods_length, nds_length, fP, pL]
      · have hv := goodV_of (v := p.2) (by have := of_decide_eq_false b; omega)
        obtain ⟨fs, hfs⟩ : ∃ fs, fs = selN w.nodes (fitsB c p (lvW w p)) := ⟨_, rfl⟩
        obtain ⟨rs, hrs⟩ : ∃ rs, rs = rsL c p (lvW w p) w.nodes := ⟨_, rfl⟩
        have h1 := fnodes_ok (h.lds p hv.sz)
        have h2 := reasons_ok (h.rss p hv.sz)
        have h3 := cnodes_ok c h.ok.N h.nl
        have h4 := ever_ok (c := c) (p := p) h.ok h.nl hv.sz hv.inR (by
          rw [h.nds]
          intro j hj
          have hm : w.nodes.getD j nz ∈ w.nodes := by rw [List.getD_eq_getElem?_getD, List.getElem?_eq_getElem hj]; exact List.getElem_mem hj
          exact (h.gn _ hm).inR)
        have hpt := h.parts hv
        have hev := h.ever hv
        have hmem : ∀ i, i < rs.length → (rs.getD i (0, 0)).1 ∉ fs ∧ 0 ≤ (rs.getD i (0, 0)).2 ∧ (rs.getD i (0, 0)).2 ≤ 1 := fun i hi => by
          have hx : rs.getD i (0, 0) ∈ rs := by rw [List.getD_eq_getElem?_getD, List.getElem?_eq_getElem hi]; exact List.getElem_mem hi
          rw [hrs] at hx
          rw [hfs]
          exact h.rs_mem hv (hrs ▸ hx)
        rw [h.nds] at h1 h2 h3 h4
        rw [← hfs] at h1 hpt hev
        rw [← hrs] at h2 hpt
        have hl := h.nodes.len
        have hN := h.nl
        rw [List.length_map] at hl
        have hwr : IntKind.wrap .i64 ((fs.length : Int) + (rs.length : Int)) = (w.nodes.length : Int) := by rw [wrapi (by omega) (by omega)]; omega
        simp only [push_cast, simprocAttr, pods_length, nds_length, fP, pL]
        refine h1.at [1, 2, 3, 4, 5, 6, 7, 8] (by simp [PV, Tb, Ps, Psn, Ns, Cs, Csn, fP, pL, fE, errD, errF, pgetD, nodeD, sl, pods_length, nds_length, plcs_length, sbl, ren_none, ren_var, ren_arr, ren_map, ren_mapb, ren_iter, ren_loop, ren_defr, bel_none, bel_var, bel_arr, bel_map, bel_mapb, bel_iter, bel_loop, bel_defr, AV.renL, AV.ren, AV.belL, AV.bel, rn]) (by simp) (by simp [PV, Tb, Ps, Psn, Ns, Cs, Csn, fP, pL, fE, errD, errF, pgetD, nodeD, sl, pods_length, nds_length, plcs_length]) (by simp [PV, Tb, Ps, Psn, Ns, Cs, Csn, fP, pL, fE, errD, errF, pgetD, nodeD, sl, pods_length, nds_length, plcs_length, AV.ren, AV.renL, rn]) (by simp [AV.belL, AV.bel]) (WK.now ?_)
        simp only [Cs, push_cast, simprocAttr, pods_length, nds_length, fP, pL]
        refine h2.at [1, 2, 3, 4, 5, 6, 7, 8] (by simp [PV, Tb, Ps, Psn, Ns, Cs, Csn, fP, pL, fE, errD, errF, pgetD, nodeD, sl, pods_length, nds_length, plcs_length, sbl, ren_none, ren_var, ren_arr, ren_map, ren_mapb, ren_iter, ren_loop, ren_defr, bel_none, bel_var, bel_arr, bel_map, bel_mapb, bel_iter, bel_loop, bel_defr, AV.renL, AV.ren, AV.belL, AV.bel, rn]) (by simp) (by simp [PV, Tb, Ps, Psn, Ns, Cs, Csn, fP, pL, fE, errD, errF, pgetD, nodeD, sl, pods_length, nds_length, plcs_length]) (by simp [PV, Tb, Ps, Psn, Ns, Cs, Csn, fP, pL, fE, errD, errF, pgetD, nodeD, sl, pods_length, nds_length, plcs_length, AV.ren, AV.renL, rn]) (by simp [AV.belL, AV.bel]) (WK.now ?_)
        simp only [Cs, prs_length, hwr, push_cast, simprocAttr, pods_length, nds_length, fP, pL]
        refine h3.at [1, 2, 3, 4, 5, 6, 7, 8] (by simp [PV, Tb, Ps, Psn, Ns, Cs, Csn, fP, pL, fE, errD, errF, pgetD, nodeD, sl, pods_length, nds_length, plcs_length, sbl, ren_none, ren_var, ren_arr, ren_map, ren_mapb, ren_iter, ren_loop, ren_defr, bel_none, bel_var, bel_arr, bel_map, bel_mapb, bel_iter, bel_loop, bel_defr, AV.renL, AV.ren, AV.belL, AV.bel, rn]) (by simp) (by simp [PV, Tb, Ps, Psn, Ns, Cs, Csn, fP, pL, fE, errD, errF, pgetD, nodeD, sl, pods_length, nds_length, plcs_length]) (by simp [PV, Tb, Ps, Psn, Ns, Cs, Csn, fP, pL, fE, errD, errF, pgetD, nodeD, sl, pods_length, nds_length, plcs_length, AV.ren, AV.renL, rn]) (by simp [AV.belL, AV.bel]) (WK.now ?_)
        simp only [Cs, prs_length, hwr, push_cast, simprocAttr, pods_length, nds_length, fP, pL]
        refine ALoop.mk (fun k t H ds => ∃ i : Nat, k = rs.length - i ∧ i ≤ rs.length ∧ t = [.dead, .dead, .dead, .dead, .dead, .pvar 0 0, .dead, .pvar 8 0, .dead, .d (.slice 1 (ints fs)), .d (.slice 2 (prs rs)), .d (.int .i64 (i : Nat)), .dead, .dead, .dead, .dead, .dead, .dead, .dead, .dead, .dead, .dead, .dead, .dead, .dead, .dead, .dead, .dead, .dead, .dead, .dead, .dead, .dead, .dead, .dead, .dead, .dead, .dead, .dead, .dead, .dead, .dead, .dead, .dead, .dead, .dead, .dead, .dead, .dead, .dead, .dead, .dead, .dead, .dead, .dead, .dead, .dead, .dead, .dead, .dead, .dead, .dead, .dead, .dead, .dead, .dead, .dead, .dead, .dead, .dead, .dead, .dead, .dead, .dead, .dead, .dead, .dead, .dead, .dead, .dead, .dead, .dead, .dead, .dead, .dead, .dead, .dead, .dead, .dead] ∧ H = H17 c w p ∧ ds = []) rs.length
          (WK.fgt (t' := [.dead, .dead, .dead, .dead, .dead, .pvar 0 0, .dead, .pvar 8 0, .dead, .d (.slice 1 (ints fs)), .d (.slice 2 (prs rs)), .d (.int .i64 (0 : Nat)), .dead, .dead, .dead, .dead, .dead, .dead, .dead, .dead, .dead, .dead, .dead, .dead, .dead, .dead, .dead, .dead, .dead, .dead, .dead, .dead, .dead, .dead, .dead, .dead, .dead, .dead, .dead, .dead, .dead, .dead, .dead, .dead, .dead, .dead, .dead, .dead, .dead, .dead, .dead, .dead, .dead, .dead, .dead, .dead, .dead, .dead, .dead, .dead, .dead, .dead, .dead, .dead, .dead, .dead, .dead, .dead, .dead, .dead, .dead, .dead, .dead, .dead, .dead, .dead, .dead, .dead, .dead, .dead, .dead, .dead, .dead, .dead, .dead, .dead, .dead, .dead, .dead]) (by simp [fgt, ints_length, intss_length]) (WK.now ⟨0, by omega, by omega, rfl, rfl, rfl⟩)) ?_
        rintro k t H ds ⟨i, rfl, hi, rfl, rfl, rfl⟩
        simp only [H17, PV, prs_length, push_cast, simprocAttr, pods_length, nds_length, fP, pL]
        refine Kbr.mk (fun d => ?_) (fun d => ?_)
        · have c2 : i < rs.length := by simpa using d
          have si := succ64 c2 (show rs.length ≤ 4611686018427387904 by omega)
          obtain ⟨m1, m2, m3⟩ := hmem i c2
          have d1 : decide ((rs.getD i (0, 0)).2 < 0) = false := decide_eq_false (by omega)
          have d2 : decide ((rs.getD i (0, 0)).2 > 1) = false := decide_eq_false (by omega)
          simp only [c2, cel_prs0, cel_prs1, prs_length, push_cast, simprocAttr, pods_length, nds_length, fP, pL]
          refine (contains_ok' fs (rs.getD i (0, 0)).1 (by omega)).go (by first | exact ⟨.inl rfl, trivial⟩ | exact ⟨.inl rfl, .inl rfl, trivial⟩ | exact ⟨.inl rfl, .inl rfl, .inl rfl, trivial⟩ | simp [argsOk, argOk, sl, sll]) (WK.now ?_)
          simp only [decide_eq_false m1, c2, cel_prs1, prs_length, d1, d2, si, push_cast, simprocAttr, pods_length, nds_length, fP, pL]
          exact ⟨rs.length - (i + 1), by omega, WK.fgt (t' := [.dead, .dead, .dead, .dead, .dead, .pvar 0 0, .dead, .pvar 8 0, .dead, .d (.slice 1 (ints fs)), .d (.slice 2 (prs rs)), .d (.int .i64 (i + 1 : Nat)), .dead, .dead, .dead, .dead, .dead, .dead, .dead, .dead, .dead, .dead, .dead, .dead, .dead, .dead, .dead, .dead, .dead, .dead, .dead, .dead, .dead, .dead, .dead, .dead, .dead, .dead, .dead, .dead, .dead, .dead, .dead, .dead, .dead, .dead, .dead, .dead, .dead, .dead, .dead, .dead, .dead, .dead, .dead, .dead, .dead, .dead, .dead, .dead, .dead, .dead, .dead, .dead, .dead, .dead, .dead, .dead, .dead, .dead, .dead, .dead, .dead, .dead, .dead, .dead, .dead, .dead, .dead, .dead, .dead, .dead, .dead, .dead, .dead, .dead, .dead, .dead, .dead]) (by simp [fgt, ints_length, intss_length]) (WK.now ⟨i + 1, rfl, by omega, rfl, rfl, rfl⟩)⟩
        · have c2 : ¬ i < rs.length := by simpa using d
          simp only [push_cast, simprocAttr, pods_length, nds_length, fP, pL]
          refine h4.at [1, 2, 3, 4, 5, 6, 7, 8] (by simp [PV, Tb, Ps, Psn, Ns, Cs, Csn, fP, pL, fE, errD, errF, pgetD, nodeD, sl, pods_length, nds_length, plcs_length, sbl, ren_none, ren_var, ren_arr, ren_map, ren_mapb, ren_iter, ren_loop, ren_defr, bel_none, bel_var, bel_arr, bel_map, bel_mapb, bel_iter, bel_loop, bel_defr, AV.renL, AV.ren, AV.belL, AV.bel, rn]) (by simp) (by simp [PV, Tb, Ps, Psn, Ns, Cs, Csn, fP, pL, fE, errD, errF, pgetD, nodeD, sl, pods_length, nds_length, plcs_length]) (by simp [PV, Tb, Ps, Psn, Ns, Cs, Csn, fP, pL, fE, errD, errF, pgetD, nodeD, sl, pods_length, nds_length, plcs_length, AV.ren, AV.renL, rn]) (by simp [AV.belL, AV.bel]) (WK.now ?_)
          simp only [Cs, push_cast, simprocAttr, pods_length, nds_length, fP, pL]
          cases he : everB p w.nodes with
          | true =>
            simp only [push_cast, simprocAttr, pods_length, nds_length, fP, pL]
            refine WK.now ?_
            simp only [push_cast, simprocAttr, pods_length, nds_length, fP, pL]
          | false =>
            rcases hev with e | e
            · rw [e] at he; cases he
            · rw [e]
              simp only [push_cast, simprocAttr, pods_length, nds_length, fP, pL]
              refine WK.now ?_
              simp only [push_cast, simprocAttr, pods_length, nds_length, fP, pL]
end Go.Proofs.YtcmhdpbmcgglmaaGreatDoor
end
