/-
  VictimsMatchesReference, walked.
-/
import Derived.Test.YtmeicgbddgeeoaaGreatDoorV3
section
set_option autoImplicit false
set_option linter.unusedVariables false
set_option linter.unusedSimpArgs false
namespace Go.Proofs.YtmeicgbddgeeoaaGreatDoor
open Go.Abs
set_option maxRecDepth 8000 in
set_option maxHeartbeats 1000000 in
theorem victimsMatches_ok (nodes : List (Int × List Int)) (ps : List Plc) (p : Pod) (n : Int) : PCall env 3 [.slice 2 (nds nodes), .slice 11 (plcs ps), fP p, .int .i64 n] (.bool true) := by
 refine acalls_of envOk Tryz.func3 rfl (by kernel_rfl) (m := 75) rfl ?_
 simp only [push_cast, simprocAttr, fP, pL]
 refine (build_okP nodes ps).atK [] (by simp [PV, Tb, Ps, Psn, Ns, Cs, Csn, fP, pL, fE, errD, errF, pgetD, nodeD, sl, pods_length, nds_length, plcs_length, sbl, ren_none, ren_var, ren_arr, ren_map, ren_mapb, ren_iter, ren_loop, ren_defr, bel_none, bel_var, bel_arr, bel_map, bel_mapb, bel_iter, bel_loop, bel_defr, AV.renL, AV.ren, AV.belL, AV.bel, rn]) (by simp) (by simp [PV, Tb, Ps, Psn, Ns, Cs, Csn, fP, pL, fE, errD, errF, pgetD, nodeD, sl, pods_length, nds_length, plcs_length]) (by simp [PV, Tb, Ps, Psn, Ns, Cs, Csn, fP, pL, fE, errD, errF, pgetD, nodeD, sl, pods_length, nds_length, plcs_length, AV.ren, AV.renL, rn]) (by simp [AV.belL, AV.bel]) ?_
 rintro r H' (⟨x, y, z, rfl, rfl⟩ | ⟨c, w, rfl, rfl, h, hnl, hpl, hpr⟩)
 ·refine WK.now ?_
  simp only [push_cast, simprocAttr, fP, pL]
  refine awake18_ok.go ⟨⟩ (WK.now ?_)
  simp only [push_cast, simprocAttr, fP, pL]
  refine awake18_ok.go ⟨⟩ (WK.now ?_)
  simp only [push_cast, simprocAttr, fP, pL]
  refine WK.now ?_
  simp only [push_cast, simprocAttr, fP, pL]
 ·refine WK.now ?_
  simp only [Cs, fRc, push_cast, simprocAttr, fP, pL]
  refine awake18_ok.go ⟨⟩ (WK.now ?_)
  simp only [one_pod, push_cast, simprocAttr, fP, pL]
  refine (few_ok [p] (by simp)).go (by first | exact ⟨.inl rfl, trivial⟩ | exact ⟨.inl rfl, .inl rfl, trivial⟩ | exact ⟨.inl rfl, .inl rfl, .inl rfl, trivial⟩ | simp [argsOk, argOk, sl, sll]) (WK.now ?_)
  cases hf : B (FewP [p]) with
  | false =>
   simp only [push_cast, simprocAttr, fP, pL]
   refine awake18_ok.go ⟨⟩ (WK.now ?_)
   simp only [push_cast, simprocAttr, fP, pL]
   refine WK.now ?_
   simp only [push_cast, simprocAttr, fP, pL]
  | true =>
   have hp := (fewP_one p).1 (B_iff.1 hf)
   have hv := h.vic hp n
   have hr := h.ref hpl hpr hp n
   have hof := vof_ok hv
   have hlow := vlow_ok hv
   have hpos := vposs_ok hv
   have rof := rof18_ok hr
   have rlow := rlow18_ok hr
   have rpos := rposs_ok hr
   unfold fRc at rof rlow rpos
   generalize hO : w.pods.filter (onP n) = O at *
   have hsz : ∀ q ∈ O, Sz q.2 := fun q hq => by
    rw [← hO] at hq
    have := (h.gp q (List.mem_filter.1 hq).1).1
    unfold Sz; omega
   have hol := hv.olen
   have sl := sames_self (lowV O p) (Nat.le_trans (lowV_len O p) (by omega)) (fun q hq => hsz q (lowV_mem.1 hq).1)
   have sv := sames_self (vicV (fitW w p n) O p) (Nat.le_trans (vicV_len _ O p) (by omega)) (fun q hq => hsz q (vicV_mem hq).1)
   simp only [push_cast, simprocAttr, fP, pL]
   refine hof.at [1, 2, 3, 4, 5, 6, 7, 8] (by simp [PV, Tb, Ps, Psn, Ns, Cs, Csn, fP, pL, fE, errD, errF, pgetD, nodeD, sl, pods_length, nds_length, plcs_length, sbl, ren_none, ren_var, ren_arr, ren_map, ren_mapb, ren_iter, ren_loop, ren_defr, bel_none, bel_var, bel_arr, bel_map, bel_mapb, bel_iter, bel_loop, bel_defr, AV.renL, AV.ren, AV.belL, AV.bel, rn]) (by simp) (by simp [PV, Tb, Ps, Psn, Ns, Cs, Csn, fP, pL, fE, errD, errF, pgetD, nodeD, sl, pods_length, nds_length, plcs_length]) (by simp [PV, Tb, Ps, Psn, Ns, Cs, Csn, fP, pL, fE, errD, errF, pgetD, nodeD, sl, pods_length, nds_length, plcs_length, AV.ren, AV.renL, rn]) (by simp [AV.belL, AV.bel]) (WK.now ?_)
   unfold vicD
   cases hF : fitW w p n (idl (lowV O p)) with
   | false =>
    rw [hF] at hpos rpos
    simp only [Cs, push_cast, simprocAttr, fP, pL]
    refine DRegL.det [] [0, 1, 2, 3, 4, 5, 6, 7, 8, 9, 10, 11, 12, 13, 14, 15, 16, 17, 18, 19, 20, 21, 22, 23, 24, 25, 26, 27, 28] [] (by kernel_rfl) (by kernel_rfl) (by kernel_rfl) ?_
    simp only [push_cast, simprocAttr, fP, pL]
    refine hlow.hushAt [1, 2, 3, 4, 5, 6, 7, 8] (by simp [PV, Tb, Ps, Psn, Ns, Cs, Csn, fP, pL, fE, errD, errF, pgetD, nodeD, sl, pods_length, nds_length, plcs_length, sbl, ren_none, ren_var, ren_arr, ren_map, ren_mapb, ren_iter, ren_loop, ren_defr, bel_none, bel_var, bel_arr, bel_map, bel_mapb, bel_iter, bel_loop, bel_defr, AV.renL, AV.ren, AV.belL, AV.bel, rn]) (by simp) (by simp [PV, Tb, Ps, Psn, Ns, Cs, Csn, fP, pL, fE, errD, errF, pgetD, nodeD, sl, pods_length, nds_length, plcs_length]) (by simp [PV, Tb, Ps, Psn, Ns, Cs, Csn, fP, pL, fE, errD, errF, pgetD, nodeD, sl, pods_length, nds_length, plcs_length, AV.ren, AV.renL, rn]) (by simp [AV.belL, AV.bel]) (by simp [lift, putAll, PV, Tb, Ps, Psn, Ns, Cs, Csn, fP, pL, fE, errD, errF, pgetD, nodeD, sl, pods_length, nds_length, plcs_length, sbl, ren_none, ren_var, ren_arr, ren_map, ren_mapb, ren_iter, ren_loop, ren_defr, AV.renL, AV.ren, rn]) ?_
    simp only [push_cast, simprocAttr, fP, pL]
    refine rlow.quiet' (by simp [argsOk, argOk, fP, pL]) ?_
    simp only [push_cast, simprocAttr, fP, pL]
    refine sl.quiet' (by simp [argsOk, argOk, fP, pL]) ?_
    simp only [push_cast, simprocAttr, fP, pL]
    refine hpos.hushAt [1, 2, 3, 4, 5, 6, 7, 8] (by simp [PV, Tb, Ps, Psn, Ns, Cs, Csn, fP, pL, fE, errD, errF, pgetD, nodeD, sl, pods_length, nds_length, plcs_length, sbl, ren_none, ren_var, ren_arr, ren_map, ren_mapb, ren_iter, ren_loop, ren_defr, bel_none, bel_var, bel_arr, bel_map, bel_mapb, bel_iter, bel_loop, bel_defr, AV.renL, AV.ren, AV.belL, AV.bel, rn]) (by simp) (by simp [PV, Tb, Ps, Psn, Ns, Cs, Csn, fP, pL, fE, errD, errF, pgetD, nodeD, sl, pods_length, nds_length, plcs_length]) (by simp [PV, Tb, Ps, Psn, Ns, Cs, Csn, fP, pL, fE, errD, errF, pgetD, nodeD, sl, pods_length, nds_length, plcs_length, AV.ren, AV.renL, rn]) (by simp [AV.belL, AV.bel]) (by simp [lift, putAll, PV, Tb, Ps, Psn, Ns, Cs, Csn, fP, pL, fE, errD, errF, pgetD, nodeD, sl, pods_length, nds_length, plcs_length, sbl, ren_none, ren_var, ren_arr, ren_map, ren_mapb, ren_iter, ren_loop, ren_defr, AV.renL, AV.ren, rn]) ?_
    simp only [push_cast, simprocAttr, fP, pL]
    refine rpos.quiet' (by simp [argsOk, argOk, fP, pL]) ?_
    simp only [push_cast, simprocAttr, fP, pL]
    refine rpos.quiet' (by simp [argsOk, argOk, fP, pL]) ?_
    simp only [push_cast, simprocAttr, fP, pL]
    refine WK.now ?_
    simp only [push_cast, simprocAttr, fP, pL]
   | true =>
    rw [hF] at hpos rpos
    simp only [Cs, push_cast, simprocAttr, fP, pL]
    refine DRegL.det [] [0, 1, 2, 3, 4, 5, 6, 7, 8, 9, 10, 11, 12, 13, 14, 15, 16, 17, 18, 19, 20, 21, 22, 23, 24, 25, 26, 27, 28] [] (by kernel_rfl) (by kernel_rfl) (by kernel_rfl) ?_
    simp only [push_cast, simprocAttr, fP, pL]
    refine hlow.hushAt [1, 2, 3, 4, 5, 6, 7, 8] (by simp [PV, Tb, Ps, Psn, Ns, Cs, Csn, fP, pL, fE, errD, errF, pgetD, nodeD, sl, pods_length, nds_length, plcs_length, sbl, ren_none, ren_var, ren_arr, ren_map, ren_mapb, ren_iter, ren_loop, ren_defr, bel_none, bel_var, bel_arr, bel_map, bel_mapb, bel_iter, bel_loop, bel_defr, AV.renL, AV.ren, AV.belL, AV.bel, rn]) (by simp) (by simp [PV, Tb, Ps, Psn, Ns, Cs, Csn, fP, pL, fE, errD, errF, pgetD, nodeD, sl, pods_length, nds_length, plcs_length]) (by simp [PV, Tb, Ps, Psn, Ns, Cs, Csn, fP, pL, fE, errD, errF, pgetD, nodeD, sl, pods_length, nds_length, plcs_length, AV.ren, AV.renL, rn]) (by simp [AV.belL, AV.bel]) (by simp [lift, putAll, PV, Tb, Ps, Psn, Ns, Cs, Csn, fP, pL, fE, errD, errF, pgetD, nodeD, sl, pods_length, nds_length, plcs_length, sbl, ren_none, ren_var, ren_arr, ren_map, ren_mapb, ren_iter, ren_loop, ren_defr, AV.renL, AV.ren, rn]) ?_
    simp only [push_cast, simprocAttr, fP, pL]
    refine rlow.quiet' (by simp [argsOk, argOk, fP, pL]) ?_
    simp only [push_cast, simprocAttr, fP, pL]
    refine sl.quiet' (by simp [argsOk, argOk, fP, pL]) ?_
    simp only [push_cast, simprocAttr, fP, pL]
    refine hpos.hushAt [1, 2, 3, 4, 5, 6, 7, 8] (by simp [PV, Tb, Ps, Psn, Ns, Cs, Csn, fP, pL, fE, errD, errF, pgetD, nodeD, sl, pods_length, nds_length, plcs_length, sbl, ren_none, ren_var, ren_arr, ren_map, ren_mapb, ren_iter, ren_loop, ren_defr, bel_none, bel_var, bel_arr, bel_map, bel_mapb, bel_iter, bel_loop, bel_defr, AV.renL, AV.ren, AV.belL, AV.bel, rn]) (by simp) (by simp [PV, Tb, Ps, Psn, Ns, Cs, Csn, fP, pL, fE, errD, errF, pgetD, nodeD, sl, pods_length, nds_length, plcs_length]) (by simp [PV, Tb, Ps, Psn, Ns, Cs, Csn, fP, pL, fE, errD, errF, pgetD, nodeD, sl, pods_length, nds_length, plcs_length, AV.ren, AV.renL, rn]) (by simp [AV.belL, AV.bel]) (by simp [lift, putAll, PV, Tb, Ps, Psn, Ns, Cs, Csn, fP, pL, fE, errD, errF, pgetD, nodeD, sl, pods_length, nds_length, plcs_length, sbl, ren_none, ren_var, ren_arr, ren_map, ren_mapb, ren_iter, ren_loop, ren_defr, AV.renL, AV.ren, rn]) ?_
    simp only [push_cast, simprocAttr, fP, pL]
    refine rpos.quiet' (by simp [argsOk, argOk, fP, pL]) ?_
    simp only [push_cast, simprocAttr, fP, pL]
    refine rpos.quiet' (by simp [argsOk, argOk, fP, pL]) ?_
    simp only [push_cast, simprocAttr, fP, pL]
    refine rof.go (by simp [argsOk, argOk, fP, pL]) (WK.now ?_)
    simp only [push_cast, simprocAttr, fP, pL]
    refine sv.go (by simp [argsOk, argOk, fP, pL]) (WK.now ?_)
    simp only [push_cast, simprocAttr, fP, pL]
    refine WK.now ?_
    simp only [push_cast, simprocAttr, fP, pL]
end Go.Proofs.YtmeicgbddgeeoaaGreatDoor
end
