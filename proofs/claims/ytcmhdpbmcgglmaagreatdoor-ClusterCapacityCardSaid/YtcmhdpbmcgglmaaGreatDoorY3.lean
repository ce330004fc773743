/-
  ClusterCapacity, walked.
-/
import Derived.Test.YtcmhdpbmcgglmaaGreatDoorC2
section
set_option autoImplicit false
set_option linter.unusedVariables false
set_option linter.unusedSimpArgs false
namespace Go.Proofs.YtcmhdpbmcgglmaaGreatDoor
open Go.Abs
def wV (w : Rc) : AObj := .var [.d (.int .i64 w.d), .d (.slice 2 (nds w.nodes)), .d (.slice 9 (pods w.pods))]
theorem RC.fitsU {c : Cl} {w : Rc} (h : RC c w) {m : Int × List Int} (hm : m ∈ w.nodes) : FitsP (useOf w.pods m.1) m.2 := by
  have hg := h.gn m hm
  refine ⟨by rw [hg.1]; rfl, fun k hk => ?_⟩
  have hk2 : k = 0 ∨ k = 1 := by have : k < 2 := hk; omega
  rcases hk2 with rfl | rfl
  · exact h.fit m hm 0 (by omega)
  · exact h.fit m hm 1 (by omega)
set_option maxRecDepth 8000 in
set_option maxHeartbeats 1000000 in
theorem clusterCapacity_ok (l : List Opn) (hl : l.length ≤ 9223372036854775807) : PCall env 3 [.slice 13 (opns l)] (.bool true) := by
  refine acalls_of envOk Tryz.func3 rfl (by kernel_rfl) (m := 69) rfl ?_
  simp only [push_cast, simprocAttr, pods_length, nds_length, fP, pL]
  refine (cnew_ok 2).at [] (by simp [oF, oL, PV, Tb, Ps, Psn, Ns, Cs, Csn, fRc, fP, pL, fE, errD, errF, pgetD, nodeD, sl, pods_length, nds_length, sbl, ren_none, ren_var, ren_arr, ren_map, ren_mapb, ren_iter, ren_loop, ren_defr, bel_none, bel_var, bel_arr, bel_map, bel_mapb, bel_iter, bel_loop, bel_defr, AV.renL, AV.ren, AV.belL, AV.bel, rn]) (by simp) (by simp [oF, oL, PV, Tb, Ps, Psn, Ns, Cs, Csn, fRc, fP, pL, fE, errD, errF, pgetD, nodeD, sl, pods_length, nds_length]) (by simp [oF, oL, PV, Tb, Ps, Psn, Ns, Cs, Csn, fRc, fP, pL, fE, errD, errF, pgetD, nodeD, sl, pods_length, nds_length, AV.ren, AV.renL, rn]) (by simp [AV.belL, AV.bel]) (WK.now ?_)
  simp only [Cs, push_cast, simprocAttr, pods_length, nds_length, fP, pL]
  refine awake14_ok.go ⟨⟩ (WK.now ?_)
  simp only [push_cast, simprocAttr, pods_length, nds_length, fP, pL]
  refine (few14_ok l hl).go (by first | exact ⟨.inl rfl, trivial⟩ | exact ⟨.inl rfl, .inl rfl, trivial⟩ | exact ⟨.inl rfl, .inl rfl, .inl rfl, trivial⟩ | simp [argsOk, argOk, sl, sll]) (WK.now ?_)
  cases hf : B (FewO l) with
  | false =>
    simp only [push_cast, simprocAttr, pods_length, nds_length, fP, pL]
    refine awake14_ok.go ⟨⟩ (WK.now ?_)
    simp only [push_cast, simprocAttr, pods_length, nds_length, fP, pL]
    refine WK.now ?_
    simp only [push_cast, simprocAttr, pods_length, nds_length, fP, pL]
  | true =>
    have hfew := B_iff.1 hf
    simp only [opns_length, push_cast, simprocAttr, pods_length, nds_length, fP, pL]
    refine ALoop.mk (fun k t H ds => ∃ (i : Nat) (c : Cl) (w : Rc), k = l.length - i ∧ i ≤ l.length ∧ RC c w ∧ w.pods.length ≤ i ∧ t = [.d (.slice 13 (opns l)), .dead, .dead, .pvar 7 0, .pvar 8 0, .d (.int .i64 (i : Nat)), .dead, .dead, .dead, .dead, .dead, .dead, .dead, .dead, .dead, .dead, .dead, .dead, .dead, .dead, .dead, .dead, .dead, .dead, .dead, .dead, .dead, .dead, .dead, .dead, .dead, .dead, .dead, .dead, .dead, .dead, .dead, .dead, .dead, .dead, .dead, .dead, .dead, .dead, .dead, .dead, .dead, .dead, .dead, .dead, .dead, .dead, .dead, .dead, .dead, .dead, .dead, .dead, .dead, .dead, .dead, .dead, .dead, .dead, .dead, .dead, .dead, .dead, .dead, .dead] ∧ H = Cs c ++ [wV w] ∧ ds = []) l.length
      (WK.fgt (t' := [.d (.slice 13 (opns l)), .dead, .dead, .pvar 7 0, .pvar 8 0, .d (.int .i64 (0 : Nat)), .dead, .dead, .dead, .dead, .dead, .dead, .dead, .dead, .dead, .dead, .dead, .dead, .dead, .dead, .dead, .dead, .dead, .dead, .dead, .dead, .dead, .dead, .dead, .dead, .dead, .dead, .dead, .dead, .dead, .dead, .dead, .dead, .dead, .dead, .dead, .dead, .dead, .dead, .dead, .dead, .dead, .dead, .dead, .dead, .dead, .dead, .dead, .dead, .dead, .dead, .dead, .dead, .dead, .dead, .dead, .dead, .dead, .dead, .dead, .dead, .dead, .dead, .dead, .dead]) (by simp [fgt]) (WK.nildat 8 1 2 rfl rfl (WK.nildat 8 2 9 rfl rfl (WK.now ⟨0, _, _, by omega, by omega, RC.init, by simp, rfl, rfl, rfl⟩)))) ?_
    rintro k t H ds ⟨i, c, w, rfl, hi, h, hwp, rfl, rfl, rfl⟩
    simp only [Cs, wV, opns_length, push_cast, simprocAttr, pods_length, nds_length, fP, pL]
    refine Kbr.mk (fun b => ?_) (fun b => ?_)
    · have c2 : i < l.length := by simpa using b
      have si := succ64 c2 (show l.length ≤ 4611686018427387904 by have := hfew.2; omega)
      obtain ⟨o, ho⟩ : ∃ o, o = l.getD i oz := ⟨_, rfl⟩
      have hfo := hfew.1 i c2
      rw [← ho] at hfo
      have hok := (fewP_one o.2.1).1 hfo.1
      simp only [push_cast, simprocAttr, pods_length, nds_length, fP, pL]
      refine DRegL.det [6, 10] [0, 1, 2, 3, 4, 5] [(6, [], [7, 8, 9]), (10, [9], [])] (by kernel_rfl) (by kernel_rfl) (by kernel_rfl) ?_
      simp only [c2, seg_opns, ← ho, opns_length, push_cast, simprocAttr, pods_length, nds_length, fP, pL]
      have hpl := play_ok h o (by have := hok.2.2; unfold Sz; omega) (by have := hfo.2; omega)
      refine hpl.atK [0, 1, 2, 3, 4, 5, 6, 7] (by simp [oF, oL, PV, Tb, Ps, Psn, Ns, Cs, Csn, fRc, fP, pL, fE, errD, errF, pgetD, nodeD, sl, pods_length, nds_length, sbl, ren_none, ren_var, ren_arr, ren_map, ren_mapb, ren_iter, ren_loop, ren_defr, bel_none, bel_var, bel_arr, bel_map, bel_mapb, bel_iter, bel_loop, bel_defr, AV.renL, AV.ren, AV.belL, AV.bel, rn]) (by simp) (by simp [oF, oL, PV, Tb, Ps, Psn, Ns, Cs, Csn, fRc, fP, pL, fE, errD, errF, pgetD, nodeD, sl, pods_length, nds_length]) (by simp [oF, oL, PV, Tb, Ps, Psn, Ns, Cs, Csn, fRc, fP, pL, fE, errD, errF, pgetD, nodeD, sl, pods_length, nds_length, AV.ren, AV.renL, rn]) (by simp [AV.belL, AV.bel]) ?_
      rintro r H' ⟨c', w', rb, h', hln, rfl, rfl | rfl⟩
      · simp only [Cs, fRc, push_cast, simprocAttr, pods_length, nds_length, fP, pL]
        have hcn := cnodes_ok c' h'.ok.N h'.nl
        rw [h'.nds] at hcn
        have hps := cpods_ok c' ⟨h'.ok.L, h'.ok.i, h'.ok.hin⟩
        rw [h'.listed, List.filter_eq_self.2 (fun _ _ => rfl)] at hps
        have hNl := h'.nl
        have hNe := h'.nodes.len
        rw [List.length_map] at hNe
        refine hcn.at [0, 1, 2, 3, 4, 5, 6, 7] (by simp [oF, oL, PV, Tb, Ps, Psn, Ns, Cs, Csn, fRc, fP, pL, fE, errD, errF, pgetD, nodeD, sl, pods_length, nds_length, sbl, ren_none, ren_var, ren_arr, ren_map, ren_mapb, ren_iter, ren_loop, ren_defr, bel_none, bel_var, bel_arr, bel_map, bel_mapb, bel_iter, bel_loop, bel_defr, AV.renL, AV.ren, AV.belL, AV.bel, rn]) (by simp) (by simp [oF, oL, PV, Tb, Ps, Psn, Ns, Cs, Csn, fRc, fP, pL, fE, errD, errF, pgetD, nodeD, sl, pods_length, nds_length]) (by simp [oF, oL, PV, Tb, Ps, Psn, Ns, Cs, Csn, fRc, fP, pL, fE, errD, errF, pgetD, nodeD, sl, pods_length, nds_length, AV.ren, AV.renL, rn]) (by simp [AV.belL, AV.bel]) (WK.now ?_)
        simp only [Cs, push_cast, simprocAttr, pods_length, nds_length, fP, pL]
        refine hps.at [0, 1, 2, 3, 4, 5, 6, 7] (by simp [oF, oL, PV, Tb, Ps, Psn, Ns, Cs, Csn, fRc, fP, pL, fE, errD, errF, pgetD, nodeD, sl, pods_length, nds_length, sbl, ren_none, ren_var, ren_arr, ren_map, ren_mapb, ren_iter, ren_loop, ren_defr, bel_none, bel_var, bel_arr, bel_map, bel_mapb, bel_iter, bel_loop, bel_defr, AV.renL, AV.ren, AV.belL, AV.bel, rn]) (by simp) (by simp [oF, oL, PV, Tb, Ps, Psn, Ns, Cs, Csn, fRc, fP, pL, fE, errD, errF, pgetD, nodeD, sl, pods_length, nds_length]) (by simp [oF, oL, PV, Tb, Ps, Psn, Ns, Cs, Csn, fRc, fP, pL, fE, errD, errF, pgetD, nodeD, sl, pods_length, nds_length, AV.ren, AV.renL, rn]) (by simp [AV.belL, AV.bel]) (WK.frz 9 rfl (WK.now ?_))
        simp only [Cs, push_cast, simprocAttr, pods_length, nds_length, fP, pL]
        refine ALoop.mk (fun k t H ds => ∃ j : Nat, k = w'.nodes.length - j ∧ j ≤ w'.nodes.length ∧ t = [.d (.slice 13 (opns l)), .dead, .dead, .pvar 7 0, .pvar 8 0, .d (.int .i64 (i : Nat)), .pvar 9 0, .d (.int .i64 (j : Nat)), .dead, .dead, .dead, .dead, .dead, .dead, .dead, .dead, .dead, .dead, .dead, .dead, .dead, .dead, .dead, .dead, .dead, .dead, .dead, .dead, .dead, .dead, .dead, .dead, .dead, .dead, .dead, .dead, .dead, .dead, .dead, .dead, .dead, .dead, .dead, .dead, .dead, .dead, .dead, .dead, .dead, .dead, .dead, .dead, .dead, .dead, .dead, .dead, .dead, .dead, .dead, .dead, .dead, .dead, .dead, .dead, .dead, .dead, .dead, .dead, .dead, .dead] ∧ H = Cs c' ++ [wV w', .var [.d (.int .i64 2), .d (.slice 2 (nds w'.nodes)), .d (.slice 9 (pods w'.pods))]] ∧ ds = []) w'.nodes.length
          (WK.fgt (t' := [.d (.slice 13 (opns l)), .dead, .dead, .pvar 7 0, .pvar 8 0, .d (.int .i64 (i : Nat)), .pvar 11 0, .d (.int .i64 (0 : Nat)), .dead, .dead, .dead, .dead, .dead, .dead, .dead, .dead, .dead, .dead, .dead, .dead, .dead, .dead, .dead, .dead, .dead, .dead, .dead, .dead, .dead, .dead, .dead, .dead, .dead, .dead, .dead, .dead, .dead, .dead, .dead, .dead, .dead, .dead, .dead, .dead, .dead, .dead, .dead, .dead, .dead, .dead, .dead, .dead, .dead, .dead, .dead, .dead, .dead, .dead, .dead, .dead, .dead, .dead, .dead, .dead, .dead, .dead, .dead, .dead, .dead, .dead]) (by simp [fgt]) (WK.pick [0, 1, 2, 3, 4, 5, 6, 7, 8, 11] (t' := [.d (.slice 13 (opns l)), .dead, .dead, .pvar 7 0, .pvar 8 0, .d (.int .i64 (i : Nat)), .pvar 9 0, .d (.int .i64 (0 : Nat)), .dead, .dead, .dead, .dead, .dead, .dead, .dead, .dead, .dead, .dead, .dead, .dead, .dead, .dead, .dead, .dead, .dead, .dead, .dead, .dead, .dead, .dead, .dead, .dead, .dead, .dead, .dead, .dead, .dead, .dead, .dead, .dead, .dead, .dead, .dead, .dead, .dead, .dead, .dead, .dead, .dead, .dead, .dead, .dead, .dead, .dead, .dead, .dead, .dead, .dead, .dead, .dead, .dead, .dead, .dead, .dead, .dead, .dead, .dead, .dead, .dead, .dead]) (H' := Cs c' ++ [wV w', .var [.d (.int .i64 2), .d (.slice 2 (nds w'.nodes)), .d (.slice 9 (pods w'.pods))]])
            (by simp [Cs, wV, sbl, ren_none, ren_var, ren_arr, ren_map, bel_none, bel_var, bel_arr, bel_map, AV.renL, AV.ren, AV.belL, AV.bel, rn]) (by simp) (by simp) (by simp [tellL, AV.ren, AV.renL, AV.bel, AV.belL, rn]) (by decide) (WK.now ⟨0, by omega, by omega, rfl, rfl, rfl⟩))) ?_
        rintro k t H ds ⟨j, rfl, hj, rfl, rfl, rfl⟩
        simp only [Cs, wV, nds_length, push_cast, simprocAttr, pods_length, nds_length, fP, pL]
        refine Kbr.mk (fun b2 => ?_) (fun b2 => ?_)
        · have c3 : j < w'.nodes.length := by simpa using b2
          have sj := succ64 c3 (show w'.nodes.length ≤ 4611686018427387904 by omega)
          have hmm : w'.nodes.getD j nz ∈ w'.nodes := by rw [List.getD_eq_getElem?_getD, List.getElem?_eq_getElem c3]; exact List.getElem_mem c3
          have hu := used14_ok w' (w'.nodes.getD j nz).1 h'.d2 h'.okR.np h'.gp
          unfold fRc at hu
          rw [h'.d2] at hu
          have hft := rfits_ok (useOf w'.pods (w'.nodes.getD j nz).1) (w'.nodes.getD j nz).2 (by unfold Sz useOf; simp)
          rw [B_true (h'.fitsU hmm)] at hft
          simp only [push_cast, simprocAttr, pods_length, nds_length, fP, pL]
          refine DRegL.det [] [0, 1, 2, 3, 4, 5, 6, 7, 8, 9, 10, 11, 12, 13, 14, 15] [] (by kernel_rfl) (by kernel_rfl) (by kernel_rfl) ?_
          simp only [c3, cel_nds0, cel_nds1, nds_length, push_cast, simprocAttr, pods_length, nds_length, fP, pL]
          refine hu.quiet' (by first | exact ⟨.inl rfl, trivial⟩ | exact ⟨.inl rfl, .inl rfl, trivial⟩ | exact ⟨.inl rfl, .inl rfl, .inl rfl, trivial⟩ | simp [argsOk, argOk, sl, sll]) ?_
          simp only [c3, cel_nds0, cel_nds1, nds_length, push_cast, simprocAttr, pods_length, nds_length, fP, pL]
          refine hft.quiet' (by first | exact ⟨.inl rfl, trivial⟩ | exact ⟨.inl rfl, .inl rfl, trivial⟩ | exact ⟨.inl rfl, .inl rfl, .inl rfl, trivial⟩ | simp [argsOk, argOk, sl, sll]) ?_
          simp only [sj, push_cast, simprocAttr, pods_length, nds_length, fP, pL]
          exact ⟨w'.nodes.length - (j + 1), by omega, WK.fgt (t' := [.d (.slice 13 (opns l)), .dead, .dead, .pvar 7 0, .pvar 8 0, .d (.int .i64 (i : Nat)), .pvar 9 0, .d (.int .i64 (j + 1 : Nat)), .dead, .dead, .dead, .dead, .dead, .dead, .dead, .dead, .dead, .dead, .dead, .dead, .dead, .dead, .dead, .dead, .dead, .dead, .dead, .dead, .dead, .dead, .dead, .dead, .dead, .dead, .dead, .dead, .dead, .dead, .dead, .dead, .dead, .dead, .dead, .dead, .dead, .dead, .dead, .dead, .dead, .dead, .dead, .dead, .dead, .dead, .dead, .dead, .dead, .dead, .dead, .dead, .dead, .dead, .dead, .dead, .dead, .dead, .dead, .dead, .dead, .dead]) (by simp [fgt]) (WK.now ⟨j + 1, rfl, by omega, rfl, rfl, rfl⟩)⟩
        · simp only [si, push_cast, simprocAttr, pods_length, nds_length, fP, pL]
          exact ⟨l.length - (i + 1), by omega, WK.fgt (t' := [.d (.slice 13 (opns l)), .dead, .dead, .pvar 7 0, .pvar 8 0, .d (.int .i64 (i + 1 : Nat)), .dead, .dead, .dead, .dead, .dead, .dead, .dead, .dead, .dead, .dead, .dead, .dead, .dead, .dead, .dead, .dead, .dead, .dead, .dead, .dead, .dead, .dead, .dead, .dead, .dead, .dead, .dead, .dead, .dead, .dead, .dead, .dead, .dead, .dead, .dead, .dead, .dead, .dead, .dead, .dead, .dead, .dead, .dead, .dead, .dead, .dead, .dead, .dead, .dead, .dead, .dead, .dead, .dead, .dead, .dead, .dead, .dead, .dead, .dead, .dead, .dead, .dead, .dead, .dead]) (by simp [fgt]) (WK.pick [0, 1, 2, 3, 4, 5, 6, 7, 8] (t' := [.d (.slice 13 (opns l)), .dead, .dead, .pvar 7 0, .pvar 8 0, .d (.int .i64 (i + 1 : Nat)), .dead, .dead, .dead, .dead, .dead, .dead, .dead, .dead, .dead, .dead, .dead, .dead, .dead, .dead, .dead, .dead, .dead, .dead, .dead, .dead, .dead, .dead, .dead, .dead, .dead, .dead, .dead, .dead, .dead, .dead, .dead, .dead, .dead, .dead, .dead, .dead, .dead, .dead, .dead, .dead, .dead, .dead, .dead, .dead, .dead, .dead, .dead, .dead, .dead, .dead, .dead, .dead, .dead, .dead, .dead, .dead, .dead, .dead, .dead, .dead, .dead, .dead, .dead, .dead]) (H' := Cs c' ++ [wV w'])
            (by simp [Cs, wV, sbl, ren_none, ren_var, ren_arr, ren_map, bel_none, bel_var, bel_arr, bel_map, AV.renL, AV.ren, AV.belL, AV.bel, rn]) (by simp) (by simp) (by simp [tellL, AV.ren, AV.renL, AV.bel, AV.belL, rn]) (by decide) (WK.now ⟨i + 1, c', w', rfl, by omega, h', by omega, rfl, rfl, rfl⟩))⟩
      · simp only [Csn, fRc, push_cast, simprocAttr, pods_length, nds_length, fP, pL]
        have hcn := cnodes_ok c' h'.ok.N h'.nl
        rw [h'.nds] at hcn
        have hps := cpods_ok c' ⟨h'.ok.L, h'.ok.i, h'.ok.hin⟩
        rw [h'.listed, List.filter_eq_self.2 (fun _ _ => rfl)] at hps
        have hNl := h'.nl
        have hNe := h'.nodes.len
        rw [List.length_map] at hNe
        refine hcn.at [0, 1, 2, 9, 4, 5, 6, 7] (by simp [oF, oL, PV, Tb, Ps, Psn, Ns, Cs, Csn, fRc, fP, pL, fE, errD, errF, pgetD, nodeD, sl, pods_length, nds_length, sbl, ren_none, ren_var, ren_arr, ren_map, ren_mapb, ren_iter, ren_loop, ren_defr, bel_none, bel_var, bel_arr, bel_map, bel_mapb, bel_iter, bel_loop, bel_defr, AV.renL, AV.ren, AV.belL, AV.bel, rn]) (by simp) (by simp [oF, oL, PV, Tb, Ps, Psn, Ns, Cs, Csn, fRc, fP, pL, fE, errD, errF, pgetD, nodeD, sl, pods_length, nds_length]) (by simp [oF, oL, PV, Tb, Ps, Psn, Ns, Cs, Csn, fRc, fP, pL, fE, errD, errF, pgetD, nodeD, sl, pods_length, nds_length, AV.ren, AV.renL, rn]) (by simp [AV.belL, AV.bel]) (WK.now ?_)
        simp only [Cs, push_cast, simprocAttr, pods_length, nds_length, fP, pL]
        refine hps.at [0, 1, 2, 9, 4, 5, 6, 7] (by simp [oF, oL, PV, Tb, Ps, Psn, Ns, Cs, Csn, fRc, fP, pL, fE, errD, errF, pgetD, nodeD, sl, pods_length, nds_length, sbl, ren_none, ren_var, ren_arr, ren_map, ren_mapb, ren_iter, ren_loop, ren_defr, bel_none, bel_var, bel_arr, bel_map, bel_mapb, bel_iter, bel_loop, bel_defr, AV.renL, AV.ren, AV.belL, AV.bel, rn]) (by simp) (by simp [oF, oL, PV, Tb, Ps, Psn, Ns, Cs, Csn, fRc, fP, pL, fE, errD, errF, pgetD, nodeD, sl, pods_length, nds_length]) (by simp [oF, oL, PV, Tb, Ps, Psn, Ns, Cs, Csn, fRc, fP, pL, fE, errD, errF, pgetD, nodeD, sl, pods_length, nds_length, AV.ren, AV.renL, rn]) (by simp [AV.belL, AV.bel]) (WK.frz 10 rfl (WK.now ?_))
        simp only [Cs, push_cast, simprocAttr, pods_length, nds_length, fP, pL]
        refine ALoop.mk (fun k t H ds => ∃ j : Nat, k = w'.nodes.length - j ∧ j ≤ w'.nodes.length ∧ t = [.d (.slice 13 (opns l)), .dead, .dead, .pvar 7 0, .pvar 8 0, .d (.int .i64 (i : Nat)), .pvar 9 0, .d (.int .i64 (j : Nat)), .dead, .dead, .dead, .dead, .dead, .dead, .dead, .dead, .dead, .dead, .dead, .dead, .dead, .dead, .dead, .dead, .dead, .dead, .dead, .dead, .dead, .dead, .dead, .dead, .dead, .dead, .dead, .dead, .dead, .dead, .dead, .dead, .dead, .dead, .dead, .dead, .dead, .dead, .dead, .dead, .dead, .dead, .dead, .dead, .dead, .dead, .dead, .dead, .dead, .dead, .dead, .dead, .dead, .dead, .dead, .dead, .dead, .dead, .dead, .dead, .dead, .dead] ∧ H = Cs c' ++ [wV w', .var [.d (.int .i64 2), .d (.slice 2 (nds w'.nodes)), .d (.slice 9 (pods w'.pods))]] ∧ ds = []) w'.nodes.length
          (WK.fgt (t' := [.d (.slice 13 (opns l)), .dead, .dead, .pvar 7 0, .pvar 8 0, .d (.int .i64 (i : Nat)), .pvar 12 0, .d (.int .i64 (0 : Nat)), .dead, .dead, .dead, .dead, .dead, .dead, .dead, .dead, .dead, .dead, .dead, .dead, .dead, .dead, .dead, .dead, .dead, .dead, .dead, .dead, .dead, .dead, .dead, .dead, .dead, .dead, .dead, .dead, .dead, .dead, .dead, .dead, .dead, .dead, .dead, .dead, .dead, .dead, .dead, .dead, .dead, .dead, .dead, .dead, .dead, .dead, .dead, .dead, .dead, .dead, .dead, .dead, .dead, .dead, .dead, .dead, .dead, .dead, .dead, .dead, .dead, .dead]) (by simp [fgt]) (WK.pick [0, 1, 2, 9, 4, 5, 6, 7, 8, 12] (t' := [.d (.slice 13 (opns l)), .dead, .dead, .pvar 7 0, .pvar 8 0, .d (.int .i64 (i : Nat)), .pvar 9 0, .d (.int .i64 (0 : Nat)), .dead, .dead, .dead, .dead, .dead, .dead, .dead, .dead, .dead, .dead, .dead, .dead, .dead, .dead, .dead, .dead, .dead, .dead, .dead, .dead, .dead, .dead, .dead, .dead, .dead, .dead, .dead, .dead, .dead, .dead, .dead, .dead, .dead, .dead, .dead, .dead, .dead, .dead, .dead, .dead, .dead, .dead, .dead, .dead, .dead, .dead, .dead, .dead, .dead, .dead, .dead, .dead, .dead, .dead, .dead, .dead, .dead, .dead, .dead, .dead, .dead, .dead]) (H' := Cs c' ++ [wV w', .var [.d (.int .i64 2), .d (.slice 2 (nds w'.nodes)), .d (.slice 9 (pods w'.pods))]])
            (by simp [Cs, wV, sbl, ren_none, ren_var, ren_arr, ren_map, bel_none, bel_var, bel_arr, bel_map, AV.renL, AV.ren, AV.belL, AV.bel, rn]) (by simp) (by simp) (by simp [tellL, AV.ren, AV.renL, AV.bel, AV.belL, rn]) (by decide) (WK.now ⟨0, by omega, by omega, rfl, rfl, rfl⟩))) ?_
        rintro k t H ds ⟨j, rfl, hj, rfl, rfl, rfl⟩
        simp only [Cs, wV, nds_length, push_cast, simprocAttr, pods_length, nds_length, fP, pL]
        refine Kbr.mk (fun b2 => ?_) (fun b2 => ?_)
        · have c3 : j < w'.nodes.length := by simpa using b2
          have sj := succ64 c3 (show w'.nodes.length ≤ 4611686018427387904 by omega)
          have hmm : w'.nodes.getD j nz ∈ w'.nodes := by rw [List.getD_eq_getElem?_getD, List.getElem?_eq_getElem c3]; exact List.getElem_mem c3
          have hu := used14_ok w' (w'.nodes.getD j nz).1 h'.d2 h'.okR.np h'.gp
          unfold fRc at hu
          rw [h'.d2] at hu
          have hft := rfits_ok (useOf w'.pods (w'.nodes.getD j nz).1) (w'.nodes.getD j nz).2 (by unfold Sz useOf; simp)
          rw [B_true (h'.fitsU hmm)] at hft
          simp only [push_cast, simprocAttr, pods_length, nds_length, fP, pL]
          refine DRegL.det [] [0, 1, 2, 3, 4, 5, 6, 7, 8, 9, 10, 11, 12, 13, 14, 15] [] (by kernel_rfl) (by kernel_rfl) (by kernel_rfl) ?_
          simp only [c3, cel_nds0, cel_nds1, nds_length, push_cast, simprocAttr, pods_length, nds_length, fP, pL]
          refine hu.quiet' (by first | exact ⟨.inl rfl, trivial⟩ | exact ⟨.inl rfl, .inl rfl, trivial⟩ | exact ⟨.inl rfl, .inl rfl, .inl rfl, trivial⟩ | simp [argsOk, argOk, sl, sll]) ?_
          simp only [c3, cel_nds0, cel_nds1, nds_length, push_cast, simprocAttr, pods_length, nds_length, fP, pL]
          refine hft.quiet' (by first | exact ⟨.inl rfl, trivial⟩ | exact ⟨.inl rfl, .inl rfl, trivial⟩ | exact ⟨.inl rfl, .inl rfl, .inl rfl, trivial⟩ | simp [argsOk, argOk, sl, sll]) ?_
          simp only [sj, push_cast, simprocAttr, pods_length, nds_length, fP, pL]
          exact ⟨w'.nodes.length - (j + 1), by omega, WK.fgt (t' := [.d (.slice 13 (opns l)), .dead, .dead, .pvar 7 0, .pvar 8 0, .d (.int .i64 (i : Nat)), .pvar 9 0, .d (.int .i64 (j + 1 : Nat)), .dead, .dead, .dead, .dead, .dead, .dead, .dead, .dead, .dead, .dead, .dead, .dead, .dead, .dead, .dead, .dead, .dead, .dead, .dead, .dead, .dead, .dead, .dead, .dead, .dead, .dead, .dead, .dead, .dead, .dead, .dead, .dead, .dead, .dead, .dead, .dead, .dead, .dead, .dead, .dead, .dead, .dead, .dead, .dead, .dead, .dead, .dead, .dead, .dead, .dead, .dead, .dead, .dead, .dead, .dead, .dead, .dead, .dead, .dead, .dead, .dead, .dead]) (by simp [fgt]) (WK.now ⟨j + 1, rfl, by omega, rfl, rfl, rfl⟩)⟩
        · simp only [si, push_cast, simprocAttr, pods_length, nds_length, fP, pL]
          exact ⟨l.length - (i + 1), by omega, WK.fgt (t' := [.d (.slice 13 (opns l)), .dead, .dead, .pvar 7 0, .pvar 8 0, .d (.int .i64 (i + 1 : Nat)), .dead, .dead, .dead, .dead, .dead, .dead, .dead, .dead, .dead, .dead, .dead, .dead, .dead, .dead, .dead, .dead, .dead, .dead, .dead, .dead, .dead, .dead, .dead, .dead, .dead, .dead, .dead, .dead, .dead, .dead, .dead, .dead, .dead, .dead, .dead, .dead, .dead, .dead, .dead, .dead, .dead, .dead, .dead, .dead, .dead, .dead, .dead, .dead, .dead, .dead, .dead, .dead, .dead, .dead, .dead, .dead, .dead, .dead, .dead, .dead, .dead, .dead, .dead, .dead]) (by simp [fgt]) (WK.pick [0, 1, 2, 3, 4, 5, 6, 7, 8] (t' := [.d (.slice 13 (opns l)), .dead, .dead, .pvar 7 0, .pvar 8 0, .d (.int .i64 (i + 1 : Nat)), .dead, .dead, .dead, .dead, .dead, .dead, .dead, .dead, .dead, .dead, .dead, .dead, .dead, .dead, .dead, .dead, .dead, .dead, .dead, .dead, .dead, .dead, .dead, .dead, .dead, .dead, .dead, .dead, .dead, .dead, .dead, .dead, .dead, .dead, .dead, .dead, .dead, .dead, .dead, .dead, .dead, .dead, .dead, .dead, .dead, .dead, .dead, .dead, .dead, .dead, .dead, .dead, .dead, .dead, .dead, .dead, .dead, .dead, .dead, .dead, .dead, .dead, .dead, .dead]) (H' := Cs c' ++ [wV w'])
            (by simp [Cs, wV, sbl, ren_none, ren_var, ren_arr, ren_map, bel_none, bel_var, bel_arr, bel_map, AV.renL, AV.ren, AV.belL, AV.bel, rn]) (by simp) (by simp) (by simp [tellL, AV.ren, AV.renL, AV.bel, AV.belL, rn]) (by decide) (WK.now ⟨i + 1, c', w', rfl, by omega, h', by omega, rfl, rfl, rfl⟩))⟩
    · simp only [push_cast, simprocAttr, pods_length, nds_length, fP, pL]
      refine WK.now ?_
      simp only [push_cast, simprocAttr, pods_length, nds_length, fP, pL]
end Go.Proofs.YtcmhdpbmcgglmaaGreatDoor
end
