/-
  VictimsMinimal, walked.
-/
import Derived.Test.YtmeicgbddgeeoaaGreatDoorV3
section
set_option autoImplicit false
set_option linter.unusedVariables false
set_option linter.unusedSimpArgs false
namespace Go.Proofs.YtmeicgbddgeeoaaGreatDoor
open Go.Abs
def Hv (c : Cl) (w : Rc) (p : Pod) : List AObj := [PV p, .map (entE fP c.L), .var [.d (.int .i64 65536), .mapo 1], .var [.pvar 2 0, .sfull 4], .arr 3 1 (ints c.ids),
 .map (entE fE c.N), .var [.d (.int .i64 1024), .mapo 5], .var [.d (.int .i64 c.d), .pvar 6 0], .var [.pvar 3 0, .pvar 7 0], .var [.d (.int .i64 w.d), .d (.slice 2 (nds w.nodes)), .d (.slice 9 (pods w.pods))]]
set_option maxRecDepth 8000 in
set_option maxHeartbeats 1000000 in
theorem victimsMinimal_ok (nodes : List (Int × List Int)) (ps : List Plc) (p : Pod) (n : Int) : PCall env 4 [.slice 2 (nds nodes), .slice 11 (plcs ps), fP p, .int .i64 n] (.bool true) := by
 refine acalls_of envOk Tryz.func4 rfl (by kernel_rfl) (m := 97) rfl ?_
 simp only [push_cast, simprocAttr, fP, pL]
 refine (build_okP nodes ps).atK [] (by simp [PV, Tb, Ps, Psn, Ns, Cs, Csn, fP, pL, fE, errD, errF, pgetD, nodeD, sl, pods_length, nds_length, plcs_length, sbl, ren_none, ren_var, ren_arr, ren_map, ren_mapb, ren_iter, ren_loop, ren_defr, bel_none, bel_var, bel_arr, bel_map, bel_mapb, bel_iter, bel_loop, bel_defr, AV.renL, AV.ren, AV.belL, AV.bel, rn]) (by simp) (by simp [PV, Tb, Ps, Psn, Ns, Cs, Csn, fP, pL, fE, errD, errF, pgetD, nodeD, sl, pods_length, nds_length, plcs_length]) (by simp [PV, Tb, Ps, Psn, Ns, Cs, Csn, fP, pL, fE, errD, errF, pgetD, nodeD, sl, pods_length, nds_length, plcs_length, AV.ren, AV.renL, rn]) (by simp [AV.belL, AV.bel]) ?_
 rintro r H' (⟨x, y, z, rfl, rfl⟩ | ⟨c, w, rfl, rfl, h, hnl, hpl, hpr⟩)
 ·refine WK.now ?_
  simp only [push_cast, simprocAttr, fP, pL]
  refine awake18_ok.go ⟨⟩ (WK.now ?_)
  simp only [push_cast, simprocAttr, fP, pL]
  refine awake18_ok.go ⟨⟩ (WK.now ?_)
  simp only [push_cast, simprocAttr, fP, pL]
  refine WK.now ?_
  simp only [push_cast, simprocAttr, fP, pL]
 ·refine WK.now ?_
  simp only [Cs, fRc, push_cast, simprocAttr, fP, pL]
  refine awake18_ok.go ⟨⟩ (WK.now ?_)
  simp only [one_pod, push_cast, simprocAttr, fP, pL]
  refine (few_ok [p] (by simp)).go (by first | exact ⟨.inl rfl, trivial⟩ | exact ⟨.inl rfl, .inl rfl, trivial⟩ | exact ⟨.inl rfl, .inl rfl, .inl rfl, trivial⟩ | simp [argsOk, argOk, sl, sll]) (WK.now ?_)
  cases hf : B (FewP [p]) with
  | false =>
   simp only [push_cast, simprocAttr, fP, pL]
   refine awake18_ok.go ⟨⟩ (WK.now ?_)
   simp only [push_cast, simprocAttr, fP, pL]
   refine WK.now ?_
   simp only [push_cast, simprocAttr, fP, pL]
  | true =>
   have hp := (fewP_one p).1 (B_iff.1 hf)
   have hv := h.vic hp n
   have hr := h.ref hpl hpr hp n
   have hof := vof_ok hv
   have hol := hv.olen
   have hmono := h.monoL p n
   have hvl := vicV_len (fitW w p n) (w.pods.filter (onP n)) p
   unfold vicD at hof
   simp only [push_cast, simprocAttr, fP, pL]
   cases hF : fitW w p n (idl (lowV (w.pods.filter (onP n)) p)) with
   | false =>
    rw [hF] at hof
    refine hof.at [1, 2, 3, 4, 5, 6, 7, 8] (by simp [PV, Tb, Ps, Psn, Ns, Cs, Csn, fP, pL, fE, errD, errF, pgetD, nodeD, sl, pods_length, nds_length, plcs_length, sbl, ren_none, ren_var, ren_arr, ren_map, ren_mapb, ren_iter, ren_loop, ren_defr, bel_none, bel_var, bel_arr, bel_map, bel_mapb, bel_iter, bel_loop, bel_defr, AV.renL, AV.ren, AV.belL, AV.bel, rn]) (by simp) (by simp [PV, Tb, Ps, Psn, Ns, Cs, Csn, fP, pL, fE, errD, errF, pgetD, nodeD, sl, pods_length, nds_length, plcs_length]) (by simp [PV, Tb, Ps, Psn, Ns, Cs, Csn, fP, pL, fE, errD, errF, pgetD, nodeD, sl, pods_length, nds_length, plcs_length, AV.ren, AV.renL, rn]) (by simp [AV.belL, AV.bel]) (WK.now ?_)
    simp only [Cs, push_cast, simprocAttr, fP, pL]
    refine WK.now ?_
    simp only [push_cast, simprocAttr, fP, pL]
   | true =>
    rw [hF, if_pos rfl] at hof
    have hmin := vicV_minB hmono hF
    have hnone := vicV_none hmono hF
    have hmem : ∀ q ∈ vicV (fitW w p n) (w.pods.filter (onP n)) p, q.1.pr < p.1.pr ∧ q.1.ph = 3 ∧ q.1.nd = n := fun q hq => by
     have := vicV_mem hq
     exact ⟨this.2.2, this.2.1, (onP_iff.1 (List.mem_filter.1 this.1).2).1⟩
    refine hof.at [1, 2, 3, 4, 5, 6, 7, 8] (by simp [PV, Tb, Ps, Psn, Ns, Cs, Csn, fP, pL, fE, errD, errF, pgetD, nodeD, sl, pods_length, nds_length, plcs_length, sbl, ren_none, ren_var, ren_arr, ren_map, ren_mapb, ren_iter, ren_loop, ren_defr, bel_none, bel_var, bel_arr, bel_map, bel_mapb, bel_iter, bel_loop, bel_defr, AV.renL, AV.ren, AV.belL, AV.bel, rn]) (by simp) (by simp [PV, Tb, Ps, Psn, Ns, Cs, Csn, fP, pL, fE, errD, errF, pgetD, nodeD, sl, pods_length, nds_length, plcs_length]) (by simp [PV, Tb, Ps, Psn, Ns, Cs, Csn, fP, pL, fE, errD, errF, pgetD, nodeD, sl, pods_length, nds_length, plcs_length, AV.ren, AV.renL, rn]) (by simp [AV.belL, AV.bel]) (WK.now ?_)
    generalize vicV (fitW w p n) (w.pods.filter (onP n)) p = V at *
    have hil := idl_length V
    have hids := rids_ok V (by omega)
    have hvm := vmin_ok hv V (by omega)
    have hrm := rmin_ok hr (idl V) (by omega)
    have hfn := hr.fit [] (by simp)
    rw [hmin] at hvm hrm
    unfold fRc at hrm hfn
    simp only [Cs, push_cast, simprocAttr, fP, pL]
    refine hids.go (by first | exact ⟨.inl rfl, trivial⟩ | exact ⟨.inl rfl, .inl rfl, trivial⟩ | exact ⟨.inl rfl, .inl rfl, .inl rfl, trivial⟩ | simp [argsOk, argOk, sl, sll]) (WK.now ?_)
    simp only [push_cast, simprocAttr, fP, pL]
    refine ALoop.mk (fun k t H ds => ∃ i : Nat, k = V.length - i ∧ i ≤ V.length ∧ t = (.x :: .x :: .x :: .d (.int .i64 n) :: .x :: .x :: .pvar 0 0 :: .x :: .d (.bool false) :: .pvar 8 0 :: .pvar 9 0 :: .d (.slice 9 (pods V)) :: .x :: .d (.slice 1 (ints (idl V))) :: .d (.int .i64 (i : Nat)) :: xs86) ∧ H = Hv c w p ∧ ds = []) V.length
     (WK.fgt (t' := (.x :: .x :: .x :: .d (.int .i64 n) :: .x :: .x :: .pvar 0 0 :: .x :: .d (.bool false) :: .pvar 8 0 :: .pvar 9 0 :: .d (.slice 9 (pods V)) :: .x :: .d (.slice 1 (ints (idl V))) :: .d (.int .i64 (0 : Nat)) :: xs86)) (by simp [fgt]) (WK.now ⟨0, by omega, by omega, rfl, by simp [Hv, PV, pL], rfl⟩)) ?_
    rintro k t H ds ⟨i, rfl, hi, rfl, rfl, rfl⟩
    simp only [Hv, PV, push_cast, simprocAttr, fP, pL]
    refine Kbr.mk (fun cc => ?_) (fun cc => ?_)
    ·have c2 : i < V.length := by simpa using cc
     have si := succ64 c2 (show V.length ≤ 4611686018427387904 by omega)
     obtain ⟨m1, m2, m3⟩ := hmem (V.getD i pz) (getD_mem c2)
     have b1 : decide ((V.getD i pz).1.pr ≥ p.1.pr) = false := decide_eq_false (by omega)
     have b2 : ((V.getD i pz).1.ph != 3) = false := by rw [m2]; rfl
     have b3 : ((V.getD i pz).1.nd != n) = false := by rw [m3]; exact bne_self_eq_false _
     simp only [push_cast, simprocAttr, fP, pL]
     refine DRegL.det [] [0, 1, 2, 3, 4, 5, 6, 7, 8, 9, 10, 11, 12, 13, 14, 15, 16, 17, 18, 19, 20, 21, 22, 23, 24] [] (by kernel_rfl) (by kernel_rfl) (by kernel_rfl) ?_
     simp only [c2, cel_pr, cel_ph, cel_nd, b1, b2, b3, si, push_cast, simprocAttr, fP, pL]
     exact ⟨V.length - (i + 1), by omega, WK.fgt (t' := (.x :: .x :: .x :: .d (.int .i64 n) :: .x :: .x :: .pvar 0 0 :: .x :: .d (.bool false) :: .pvar 8 0 :: .pvar 9 0 :: .d (.slice 9 (pods V)) :: .x :: .d (.slice 1 (ints (idl V))) :: .d (.int .i64 (i + 1 : Nat)) :: xs86)) (by simp [fgt]) (WK.now ⟨i + 1, rfl, by omega, rfl, rfl, rfl⟩)⟩
    ·have hb : (V.length == 0) = fitW w p n [] := by rw [← hnone]; cases V.length <;> rfl
     have e0 : ((V.length : Int) == 0) = (V.length == 0) := by cases V.length <;> rfl
     simp only [push_cast, simprocAttr, fP, pL]
     refine hrm.go (by simp [argsOk, argOk, fP, pL]) (WK.now ?_)
     simp only [push_cast, simprocAttr, fP, pL]
     refine hvm.at [1, 2, 3, 4, 5, 6, 7, 8] (by simp [PV, Tb, Ps, Psn, Ns, Cs, Csn, fP, pL, fE, errD, errF, pgetD, nodeD, sl, pods_length, nds_length, plcs_length, sbl, ren_none, ren_var, ren_arr, ren_map, ren_mapb, ren_iter, ren_loop, ren_defr, bel_none, bel_var, bel_arr, bel_map, bel_mapb, bel_iter, bel_loop, bel_defr, AV.renL, AV.ren, AV.belL, AV.bel, rn]) (by simp) (by simp [PV, Tb, Ps, Psn, Ns, Cs, Csn, fP, pL, fE, errD, errF, pgetD, nodeD, sl, pods_length, nds_length, plcs_length]) (by simp [PV, Tb, Ps, Psn, Ns, Cs, Csn, fP, pL, fE, errD, errF, pgetD, nodeD, sl, pods_length, nds_length, plcs_length, AV.ren, AV.renL, rn]) (by simp [AV.belL, AV.bel]) (WK.now ?_)
     simp only [Cs, push_cast, simprocAttr, fP, pL]
     refine hfn.go (by simp [argsOk, argOk, fP, pL, ints]) (WK.now ?_)
     simp only [push_cast, simprocAttr, fP, pL]
     refine WK.now ?_
     simp only [e0, hb, push_cast, simprocAttr, fP, pL]
     all_goals exact congrArg (fun b => AV.d (D.bool b)) (beq_self_eq_true _)
end Go.Proofs.YtmeicgbddgeeoaaGreatDoor
end
