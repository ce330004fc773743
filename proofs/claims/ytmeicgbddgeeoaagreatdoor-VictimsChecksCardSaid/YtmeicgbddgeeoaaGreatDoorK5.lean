/-
  VictimsChecks, walked.
-/
import Derived.Test.YtmeicgbddgeeoaaGreatDoorV3
section
set_option autoImplicit false
set_option linter.unusedVariables false
set_option linter.unusedSimpArgs false
namespace Go.Proofs.YtmeicgbddgeeoaaGreatDoor
open Go.Abs
set_option maxRecDepth 8000 in
set_option maxHeartbeats 1000000 in
theorem victimsChecks_ok (nodes : List (Int × List Int)) (ps : List Plc) (p : Pod) (n : Int) (l : List Pod) : PCall env 5 [.slice 2 (nds nodes), .slice 11 (plcs ps), fP p, .int .i64 n, .slice 9 (pods l)] (.bool true) := by
 refine acalls_of envOk Tryz.func5 rfl (by kernel_rfl) (m := 51) rfl ?_
 simp only [push_cast, simprocAttr, fP, pL]
 refine (build_okP nodes ps).atK [] (by simp [PV, Tb, Ps, Psn, Ns, Cs, Csn, fP, pL, fE, errD, errF, pgetD, nodeD, sl, pods_length, nds_length, plcs_length, sbl, ren_none, ren_var, ren_arr, ren_map, ren_mapb, ren_iter, ren_loop, ren_defr, bel_none, bel_var, bel_arr, bel_map, bel_mapb, bel_iter, bel_loop, bel_defr, AV.renL, AV.ren, AV.belL, AV.bel, rn]) (by simp) (by simp [PV, Tb, Ps, Psn, Ns, Cs, Csn, fP, pL, fE, errD, errF, pgetD, nodeD, sl, pods_length, nds_length, plcs_length]) (by simp [PV, Tb, Ps, Psn, Ns, Cs, Csn, fP, pL, fE, errD, errF, pgetD, nodeD, sl, pods_length, nds_length, plcs_length, AV.ren, AV.renL, rn]) (by simp [AV.belL, AV.bel]) ?_
 rintro r H' (⟨x, y, z, rfl, rfl⟩ | ⟨c, w, rfl, rfl, h, hnl, hpl, hpr⟩)
 ·refine WK.now ?_
  simp only [push_cast, simprocAttr, fP, pL]
  refine awake18_ok.go ⟨⟩ (WK.now ?_)
  simp only [push_cast, simprocAttr, fP, pL]
  refine awake18_ok.go ⟨⟩ (WK.now ?_)
  simp only [push_cast, simprocAttr, fP, pL]
  refine WK.now ?_
  simp only [push_cast, simprocAttr, fP, pL]
 ·refine WK.now ?_
  simp only [Cs, fRc, push_cast, simprocAttr, fP, pL]
  refine awake18_ok.go ⟨⟩ (WK.now ?_)
  simp only [one_pod, push_cast, simprocAttr, fP, pL]
  refine (few_ok [p] (by simp)).go (by first | exact ⟨.inl rfl, trivial⟩ | exact ⟨.inl rfl, .inl rfl, trivial⟩ | exact ⟨.inl rfl, .inl rfl, .inl rfl, trivial⟩ | simp [argsOk, argOk, sl, sll]) (WK.now ?_)
  cases hf : B (FewP [p]) with
  | false =>
   simp only [push_cast, simprocAttr, fP, pL]
   refine awake18_ok.go ⟨⟩ (WK.now ?_)
   simp only [push_cast, simprocAttr, fP, pL]
   refine WK.now ?_
   simp only [push_cast, simprocAttr, fP, pL]
  | true =>
   by_cases hw : (l.length : Int) > 20
   ·simp only [decide_eq_true hw, push_cast, simprocAttr, pods_length, nds_length, fP, pL]
    refine awake18_ok.go ⟨⟩ (WK.now ?_)
    simp only [push_cast, simprocAttr, fP, pL]
    refine WK.now ?_
    simp only [push_cast, simprocAttr, fP, pL]
   have hp := (fewP_one p).1 (B_iff.1 hf)
   have hv := h.vic hp n
   have hr := h.ref hpl hpr hp n
   have hil := idl_length l
   have hvm := vmin_ok hv l (by omega)
   have hrm := rmin_ok hr (idl l) (by omega)
   have hri := rids_ok l (by omega)
   have hvi := vids_ok l (by omega)
   have heq := eqi_ok (idl l) (idl l) (by omega) (by omega)
   rw [decide_eq_true rfl] at heq
   unfold fRc at hrm
   simp only [decide_eq_false hw, push_cast, simprocAttr, pods_length, nds_length, fP, pL]
   refine DRegL.det [] [0, 1, 2, 3, 4, 5, 6, 7, 8, 9, 10, 11, 12, 13, 14, 15, 16, 17, 18, 19] [] (by kernel_rfl) (by kernel_rfl) (by kernel_rfl) ?_
   simp only [push_cast, simprocAttr, fP, pL]
   refine hvm.hushAt [1, 2, 3, 4, 5, 6, 7, 8] (by simp [PV, Tb, Ps, Psn, Ns, Cs, Csn, fP, pL, fE, errD, errF, pgetD, nodeD, sl, pods_length, nds_length, plcs_length, sbl, ren_none, ren_var, ren_arr, ren_map, ren_mapb, ren_iter, ren_loop, ren_defr, bel_none, bel_var, bel_arr, bel_map, bel_mapb, bel_iter, bel_loop, bel_defr, AV.renL, AV.ren, AV.belL, AV.bel, rn]) (by simp) (by simp [PV, Tb, Ps, Psn, Ns, Cs, Csn, fP, pL, fE, errD, errF, pgetD, nodeD, sl, pods_length, nds_length, plcs_length]) (by simp [PV, Tb, Ps, Psn, Ns, Cs, Csn, fP, pL, fE, errD, errF, pgetD, nodeD, sl, pods_length, nds_length, plcs_length, AV.ren, AV.renL, rn]) (by simp [AV.belL, AV.bel]) (by simp [lift, putAll, PV, Tb, Ps, Psn, Ns, Cs, Csn, fP, pL, fE, errD, errF, pgetD, nodeD, sl, pods_length, nds_length, plcs_length, sbl, ren_none, ren_var, ren_arr, ren_map, ren_mapb, ren_iter, ren_loop, ren_defr, AV.renL, AV.ren, rn]) ?_
   simp only [push_cast, simprocAttr, fP, pL]
   refine hri.quiet' (by first | exact ⟨.inl rfl, trivial⟩ | exact ⟨.inl rfl, .inl rfl, trivial⟩ | exact ⟨.inl rfl, .inl rfl, .inl rfl, trivial⟩ | simp [argsOk, argOk, sl, sll]) ?_
   simp only [push_cast, simprocAttr, fP, pL]
   refine hrm.quiet' (by simp [argsOk, argOk, fP, pL]) ?_
   have hb : (minB (fitW w p n) (idl l) == minB (fitW w p n) (idl l)) = true := beq_self_eq_true _
   simp only [hb, push_cast, simprocAttr, fP, pL]
   refine hvi.quiet' (by first | exact ⟨.inl rfl, trivial⟩ | exact ⟨.inl rfl, .inl rfl, trivial⟩ | exact ⟨.inl rfl, .inl rfl, .inl rfl, trivial⟩ | simp [argsOk, argOk, sl, sll]) ?_
   simp only [push_cast, simprocAttr, fP, pL]
   refine hri.quiet' (by first | exact ⟨.inl rfl, trivial⟩ | exact ⟨.inl rfl, .inl rfl, trivial⟩ | exact ⟨.inl rfl, .inl rfl, .inl rfl, trivial⟩ | simp [argsOk, argOk, sl, sll]) ?_
   simp only [push_cast, simprocAttr, fP, pL]
   refine heq.quiet' (by first | exact ⟨.inl rfl, trivial⟩ | exact ⟨.inl rfl, .inl rfl, trivial⟩ | exact ⟨.inl rfl, .inl rfl, .inl rfl, trivial⟩ | simp [argsOk, argOk, sl, sll]) ?_
   simp only [push_cast, simprocAttr, fP, pL]
   refine WK.now ?_
   simp only [push_cast, simprocAttr, fP, pL]
end Go.Proofs.YtmeicgbddgeeoaaGreatDoor
end
