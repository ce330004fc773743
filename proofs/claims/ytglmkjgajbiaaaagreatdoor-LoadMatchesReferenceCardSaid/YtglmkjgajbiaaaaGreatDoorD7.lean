/-
  LoadMatchesReference, walked.
-/
import Derived.Test.YtglmkjgajbiaaaaGreatDoorD1
import Derived.Test.YtglmkjgajbiaaaaGreatDoorL5
section
set_option autoImplicit false
set_option linter.unusedVariables false
set_option linter.unusedSimpArgs false
namespace Go.Proofs.YtglmkjgajbiaaaaGreatDoor
open Go.Abs
set_option maxRecDepth 8000 in
set_option maxHeartbeats 1000000 in
theorem loadMatches_ok (nodes : List (Int × List Int)) (ps : List Plc) (p : Pod) (n : Int) (wo : List Int) : PCall env 6 [.slice 2 (nds nodes), .slice 11 (plcs ps), fP p, .int .i64 n, .slice 1 (ints wo)] (.bool true) := by
  refine acalls_of envOk Tryz.func6 rfl (by kernel_rfl) (m := 56) rfl ?_
  simp only [push_cast, simprocAttr, pods_length, nds_length, fP, pL]
  refine (build_ok nodes ps).atK [] (by simp [PV, Tb, Ps, Psn, Ns, Cs, Csn, fP, pL, fE, errD, errF, pgetD, nodeD, sl, pods_length, nds_length, plcs_length, sbl, ren_none, ren_var, ren_arr, ren_map, ren_mapb, ren_iter, ren_loop, ren_defr, bel_none, bel_var, bel_arr, bel_map, bel_mapb, bel_iter, bel_loop, bel_defr, AV.renL, AV.ren, AV.belL, AV.bel, rn]) (by simp) (by simp [PV, Tb, Ps, Psn, Ns, Cs, Csn, fP, pL, fE, errD, errF, pgetD, nodeD, sl, pods_length, nds_length, plcs_length]) (by simp [PV, Tb, Ps, Psn, Ns, Cs, Csn, fP, pL, fE, errD, errF, pgetD, nodeD, sl, pods_length, nds_length, plcs_length, AV.ren, AV.renL, rn]) (by simp [AV.belL, AV.bel]) ?_
  rintro r H' (⟨x, y, z, rfl, rfl⟩ | ⟨c, w, rfl, rfl, h, hnl, hpl⟩)
  · refine WK.now ?_
    simp only [push_cast, simprocAttr, pods_length, nds_length, fP, pL]
    refine awake16_ok.go ⟨⟩ (WK.now ?_)
    simp only [push_cast, simprocAttr, pods_length, nds_length, fP, pL]
    refine awake16_ok.go ⟨⟩ (WK.now ?_)
    simp only [push_cast, simprocAttr, pods_length, nds_length, fP, pL]
    refine WK.now ?_
    simp only [push_cast, simprocAttr, pods_length, nds_length, fP, pL]
  · refine WK.now ?_
    simp only [Cs, fRc, push_cast, simprocAttr, pods_length, nds_length, fP, pL]
    refine awake16_ok.go ⟨⟩ (WK.now ?_)
    simp only [one_pod, push_cast, simprocAttr, pods_length, nds_length, fP, pL]
    refine (few_ok [p] (by simp)).go (by first | exact ⟨.inl rfl, trivial⟩ | exact ⟨.inl rfl, .inl rfl, trivial⟩ | exact ⟨.inl rfl, .inl rfl, .inl rfl, trivial⟩ | simp [argsOk, argOk, sl, sll]) (WK.now ?_)
    cases hf : B (FewP [p]) with
    | false =>
      simp only [push_cast, simprocAttr, pods_length, nds_length, fP, pL]
      refine awake16_ok.go ⟨⟩ (WK.now ?_)
      simp only [push_cast, simprocAttr, pods_length, nds_length, fP, pL]
      refine WK.now ?_
      simp only [push_cast, simprocAttr, pods_length, nds_length, fP, pL]
    | true =>
      have hp := (fewP_one p).1 (B_iff.1 hf)
      by_cases hw : (wo.length : Int) > 100
      · simp only [decide_eq_true hw, push_cast, simprocAttr, pods_length, nds_length, fP, pL]
        refine awake16_ok.go ⟨⟩ (WK.now ?_)
        simp only [push_cast, simprocAttr, pods_length, nds_length, fP, pL]
        refine WK.now ?_
        simp only [push_cast, simprocAttr, pods_length, nds_length, fP, pL]
      · have hsz : Sz p.2 := by have := hp.2.2; unfold Sz; omega
        have hld := h.ld p n wo (by omega)
        have hof := rof16_ok w p n wo h.okR (by omega) (by omega)
        have hfit := rfit16_ok w p n wo h.okR (by omega) (by omega) (by have := hp.2.2; omega) (load_bd h p n wo) (load_inR h p n wo)
        have hfc := fits_ok' hld hsz
        rw [h.tot] at hfc
        unfold fRc at hof hfit
        have hlen := load_len w p n wo
        simp only [decide_eq_false hw, push_cast, simprocAttr, pods_length, nds_length, fP, pL]
        refine DRegL.det [] [0, 1, 2, 3, 4, 5, 6, 7, 8, 9, 10, 11, 12, 13, 14, 15, 16, 17, 18, 19, 20, 21, 22, 23, 24] [] (by kernel_rfl) (by kernel_rfl) (by kernel_rfl) ?_
        simp only [push_cast, simprocAttr, pods_length, nds_length, fP, pL]
        refine (of_go hld).hushAt [1, 2, 3, 4, 5, 6, 7, 8] (by simp [PV, Tb, Ps, Psn, Ns, Cs, Csn, fP, pL, fE, errD, errF, pgetD, nodeD, sl, pods_length, nds_length, plcs_length, sbl, ren_none, ren_var, ren_arr, ren_map, ren_mapb, ren_iter, ren_loop, ren_defr, bel_none, bel_var, bel_arr, bel_map, bel_mapb, bel_iter, bel_loop, bel_defr, AV.renL, AV.ren, AV.belL, AV.bel, rn]) (by simp) (by simp [PV, Tb, Ps, Psn, Ns, Cs, Csn, fP, pL, fE, errD, errF, pgetD, nodeD, sl, pods_length, nds_length, plcs_length]) (by simp [PV, Tb, Ps, Psn, Ns, Cs, Csn, fP, pL, fE, errD, errF, pgetD, nodeD, sl, pods_length, nds_length, plcs_length, AV.ren, AV.renL, rn]) (by simp [AV.belL, AV.bel]) (by simp [lift, putAll, PV, Tb, Ps, Psn, Ns, Cs, Csn, fP, pL, fE, errD, errF, pgetD, nodeD, sl, pods_length, nds_length, plcs_length, sbl, ren_none, ren_var, ren_arr, ren_map, ren_mapb, ren_iter, ren_loop, ren_defr, AV.renL, AV.ren, rn]) ?_
        simp only [push_cast, simprocAttr, pods_length, nds_length, fP, pL]
        refine hof.quiet' ⟨.inl rfl, .inl rfl, .inl rfl, .inl rfl, trivial⟩ ?_
        simp only [push_cast, simprocAttr, pods_length, nds_length, fP, pL]
        refine (rsame_ok (loadV w p n wo) (loadV w p n wo) (by unfold Sz; omega) (by unfold Sz; omega)).quiet' (by first | exact ⟨.inl rfl, trivial⟩ | exact ⟨.inl rfl, .inl rfl, trivial⟩ | exact ⟨.inl rfl, .inl rfl, .inl rfl, trivial⟩ | simp [argsOk, argOk, sl, sll]) ?_
        simp only [B_true (show loadV w p n wo = loadV w p n wo from rfl), push_cast, simprocAttr, pods_length, nds_length, fP, pL]
        refine hfc.hushAt [1, 2, 3, 4, 5, 6, 7, 8] (by simp [PV, Tb, Ps, Psn, Ns, Cs, Csn, fP, pL, fE, errD, errF, pgetD, nodeD, sl, pods_length, nds_length, plcs_length, sbl, ren_none, ren_var, ren_arr, ren_map, ren_mapb, ren_iter, ren_loop, ren_defr, bel_none, bel_var, bel_arr, bel_map, bel_mapb, bel_iter, bel_loop, bel_defr, AV.renL, AV.ren, AV.belL, AV.bel, rn]) (by simp) (by simp [PV, Tb, Ps, Psn, Ns, Cs, Csn, fP, pL, fE, errD, errF, pgetD, nodeD, sl, pods_length, nds_length, plcs_length]) (by simp [PV, Tb, Ps, Psn, Ns, Cs, Csn, fP, pL, fE, errD, errF, pgetD, nodeD, sl, pods_length, nds_length, plcs_length, AV.ren, AV.renL, rn]) (by simp [AV.belL, AV.bel]) (by simp [lift, putAll, PV, Tb, Ps, Psn, Ns, Cs, Csn, fP, pL, fE, errD, errF, pgetD, nodeD, sl, pods_length, nds_length, plcs_length, sbl, ren_none, ren_var, ren_arr, ren_map, ren_mapb, ren_iter, ren_loop, ren_defr, AV.renL, AV.ren, rn]) ?_
        simp only [push_cast, simprocAttr, pods_length, nds_length, fP, pL]
        refine hfit.quiet' ⟨.inl rfl, .inl rfl, .inl rfl, .inl rfl, trivial⟩ ?_
        simp only [push_cast, simprocAttr, pods_length, nds_length, fP, pL]
        refine WK.now ?_
        simp only [push_cast, simprocAttr, pods_length, nds_length, fP, pL]
        all_goals exact congrArg (fun b => AV.d (D.bool b)) (beq_self_eq_true (fitB _))
end Go.Proofs.YtglmkjgajbiaaaaGreatDoor
end
