/-
  ClusterFrees, walked.
-/
import Derived.Test.YtcmhdpbmcgglmaaGreatDoorY4
section
set_option autoImplicit false
set_option linter.unusedVariables false
set_option linter.unusedSimpArgs false
namespace Go.Proofs.YtcmhdpbmcgglmaaGreatDoor
open Go.Abs
set_option maxRecDepth 8000 in
set_option maxHeartbeats 1000000 in
theorem clusterFrees_ok (l : List Opn) (id n : Int) (ev : Bool) (hl : l.length ≤ 9223372036854775807) : PCall env 4 [.slice 13 (opns l), .int .i64 id, .int .i64 n, .bool ev] (.bool true) := by
  refine acalls_of envOk Tryz.func4 rfl (by kernel_rfl) (m := 107) rfl ?_
  simp only [push_cast, simprocAttr, pods_length, nds_length, fP, pL]
  refine (cnew_ok 2).at [] (by simp [oF, oL, applyP, PV, Tb, Ps, Psn, Ns, Cs, Csn, fRc, fP, pL, fE, errD, errF, pgetD, nodeD, sl, pods_length, nds_length, sbl, ren_none, ren_var, ren_arr, ren_map, ren_mapb, ren_iter, ren_loop, ren_defr, bel_none, bel_var, bel_arr, bel_map, bel_mapb, bel_iter, bel_loop, bel_defr, AV.renL, AV.ren, AV.belL, AV.bel, rn]) (by simp) (by simp [oF, oL, applyP, PV, Tb, Ps, Psn, Ns, Cs, Csn, fRc, fP, pL, fE, errD, errF, pgetD, nodeD, sl, pods_length, nds_length]) (by simp [oF, oL, applyP, PV, Tb, Ps, Psn, Ns, Cs, Csn, fRc, fP, pL, fE, errD, errF, pgetD, nodeD, sl, pods_length, nds_length, AV.ren, AV.renL, rn]) (by simp [AV.belL, AV.bel]) (WK.now ?_)
  simp only [Cs, push_cast, simprocAttr, pods_length, nds_length, fP, pL]
  refine awake14_ok.go ⟨⟩ (WK.now ?_)
  simp only [push_cast, simprocAttr, pods_length, nds_length, fP, pL]
  refine (few14_ok l hl).go (by first | exact ⟨.inl rfl, trivial⟩ | exact ⟨.inl rfl, .inl rfl, trivial⟩ | exact ⟨.inl rfl, .inl rfl, .inl rfl, trivial⟩ | simp [argsOk, argOk, sl, sll]) (WK.now ?_)
  cases hf : B (FewO l) with
  | false =>
    simp only [push_cast, simprocAttr, pods_length, nds_length, fP, pL]
    refine awake14_ok.go ⟨⟩ (WK.now ?_)
    simp only [push_cast, simprocAttr, pods_length, nds_length, fP, pL]
    refine WK.now ?_
    simp only [push_cast, simprocAttr, pods_length, nds_length, fP, pL]
  | true =>
    have hfew := B_iff.1 hf
    simp only [opns_length, push_cast, simprocAttr, pods_length, nds_length, fP, pL]
    refine ALoop.mk (fun k t H ds => ∃ (i : Nat) (c : Cl) (w : Rc), k = l.length - i ∧ i ≤ l.length ∧ RC c w ∧ w.pods.length ≤ i ∧ t = [.d (.slice 13 (opns l)), .d (.int .i64 id), .d (.int .i64 n), .d (.bool ev), .dead, .dead, .dead, .dead, .dead, .pvar 7 0, .pvar 8 0, .d (.int .i64 (i : Nat)), .dead, .dead, .dead, .dead, .dead, .dead, .dead, .dead, .dead, .dead, .dead, .dead, .dead, .dead, .dead, .dead, .dead, .dead, .dead, .dead, .dead, .dead, .dead, .dead, .dead, .dead, .dead, .dead, .dead, .dead, .dead, .dead, .dead, .dead, .dead, .dead, .dead, .dead, .dead, .dead, .dead, .dead, .dead, .dead, .dead, .dead, .dead, .dead, .dead, .dead, .dead, .dead, .dead, .dead, .dead, .dead, .dead, .dead, .dead, .dead, .dead, .dead, .dead, .dead, .dead, .dead, .dead, .dead, .dead, .dead, .dead, .dead, .dead, .dead, .dead, .dead, .dead, .dead, .dead, .dead, .dead, .dead, .dead, .dead, .dead, .dead, .dead, .dead, .dead, .dead, .dead, .dead, .dead, .dead, .dead, .dead, .dead, .dead, .dead] ∧ H = Cs c ++ [wV w] ∧ ds = []) l.length
      (WK.fgt (t' := [.d (.slice 13 (opns l)), .d (.int .i64 id), .d (.int .i64 n), .d (.bool ev), .dead, .dead, .dead, .dead, .dead, .pvar 7 0, .pvar 8 0, .d (.int .i64 (0 : Nat)), .dead, .dead, .dead, .dead, .dead, .dead, .dead, .dead, .dead, .dead, .dead, .dead, .dead, .dead, .dead, .dead, .dead, .dead, .dead, .dead, .dead, .dead, .dead, .dead, .dead, .dead, .dead, .dead, .dead, .dead, .dead, .dead, .dead, .dead, .dead, .dead, .dead, .dead, .dead, .dead, .dead, .dead, .dead, .dead, .dead, .dead, .dead, .dead, .dead, .dead, .dead, .dead, .dead, .dead, .dead, .dead, .dead, .dead, .dead, .dead, .dead, .dead, .dead, .dead, .dead, .dead, .dead, .dead, .dead, .dead, .dead, .dead, .dead, .dead, .dead, .dead, .dead, .dead, .dead, .dead, .dead, .dead, .dead, .dead, .dead, .dead, .dead, .dead, .dead, .dead, .dead, .dead, .dead, .dead, .dead, .dead, .dead, .dead, .dead]) (by simp [fgt]) (WK.nildat 8 1 2 rfl rfl (WK.nildat 8 2 9 rfl rfl (WK.now ⟨0, _, _, by omega, by omega, RC.init, by simp, rfl, rfl, rfl⟩)))) ?_
    rintro k t H ds ⟨i, c, w, rfl, hi, h, hwp, rfl, rfl, rfl⟩
    simp only [Cs, wV, opns_length, push_cast, simprocAttr, pods_length, nds_length, fP, pL]
    refine Kbr.mk (fun b => ?_) (fun b => ?_)
    · have c2 : i < l.length := by simpa using b
      have si := succ64 c2 (show l.length ≤ 4611686018427387904 by have := hfew.2; omega)
      obtain ⟨o, ho⟩ : ∃ o, o = l.getD i oz := ⟨_, rfl⟩
      have hfo := hfew.1 i c2
      rw [← ho] at hfo
      have hok := (fewP_one o.2.1).1 hfo.1
      simp only [push_cast, simprocAttr, pods_length, nds_length, fP, pL]
      refine DRegL.det [6, 10] [0, 1, 2, 3, 4, 5] [(6, [], [7, 8, 9]), (10, [9], [])] (by kernel_rfl) (by kernel_rfl) (by kernel_rfl) ?_
      simp only [c2, seg_opns, ← ho, opns_length, push_cast, simprocAttr, pods_length, nds_length, fP, pL]
      have hpl := play_ok h o (by have := hok.2.2; unfold Sz; omega) (by have := hfo.2; omega)
      refine hpl.atK [0, 1, 2, 3, 4, 5, 6, 7] (by simp [oF, oL, applyP, PV, Tb, Ps, Psn, Ns, Cs, Csn, fRc, fP, pL, fE, errD, errF, pgetD, nodeD, sl, pods_length, nds_length, sbl, ren_none, ren_var, ren_arr, ren_map, ren_mapb, ren_iter, ren_loop, ren_defr, bel_none, bel_var, bel_arr, bel_map, bel_mapb, bel_iter, bel_loop, bel_defr, AV.renL, AV.ren, AV.belL, AV.bel, rn]) (by simp) (by simp [oF, oL, applyP, PV, Tb, Ps, Psn, Ns, Cs, Csn, fRc, fP, pL, fE, errD, errF, pgetD, nodeD, sl, pods_length, nds_length]) (by simp [oF, oL, applyP, PV, Tb, Ps, Psn, Ns, Cs, Csn, fRc, fP, pL, fE, errD, errF, pgetD, nodeD, sl, pods_length, nds_length, AV.ren, AV.renL, rn]) (by simp [AV.belL, AV.bel]) ?_
      rintro r H' ⟨c', w', rb, h', hln, rfl, rfl | rfl⟩
      · simp only [Cs, fRc, si, push_cast, simprocAttr, pods_length, nds_length, fP, pL]
        exact ⟨l.length - (i + 1), by omega, WK.fgt (t' := [.d (.slice 13 (opns l)), .d (.int .i64 id), .d (.int .i64 n), .d (.bool ev), .dead, .dead, .dead, .dead, .dead, .pvar 7 0, .pvar 8 0, .d (.int .i64 (i + 1 : Nat)), .dead, .dead, .dead, .dead, .dead, .dead, .dead, .dead, .dead, .dead, .dead, .dead, .dead, .dead, .dead, .dead, .dead, .dead, .dead, .dead, .dead, .dead, .dead, .dead, .dead, .dead, .dead, .dead, .dead, .dead, .dead, .dead, .dead, .dead, .dead, .dead, .dead, .dead, .dead, .dead, .dead, .dead, .dead, .dead, .dead, .dead, .dead, .dead, .dead, .dead, .dead, .dead, .dead, .dead, .dead, .dead, .dead, .dead, .dead, .dead, .dead, .dead, .dead, .dead, .dead, .dead, .dead, .dead, .dead, .dead, .dead, .dead, .dead, .dead, .dead, .dead, .dead, .dead, .dead, .dead, .dead, .dead, .dead, .dead, .dead, .dead, .dead, .dead, .dead, .dead, .dead, .dead, .dead, .dead, .dead, .dead, .dead, .dead, .dead]) (by simp [fgt]) (WK.now ⟨i + 1, c', w', rfl, by omega, h', by omega, rfl, rfl, rfl⟩)⟩
      · simp only [Csn, fRc, si, push_cast, simprocAttr, pods_length, nds_length, fP, pL]
        exact ⟨l.length - (i + 1), by omega, WK.fgt (t' := [.d (.slice 13 (opns l)), .d (.int .i64 id), .d (.int .i64 n), .d (.bool ev), .dead, .dead, .dead, .dead, .dead, .pvar 7 0, .pvar 8 0, .d (.int .i64 (i + 1 : Nat)), .dead, .dead, .dead, .dead, .dead, .dead, .dead, .dead, .dead, .dead, .dead, .dead, .dead, .dead, .dead, .dead, .dead, .dead, .dead, .dead, .dead, .dead, .dead, .dead, .dead, .dead, .dead, .dead, .dead, .dead, .dead, .dead, .dead, .dead, .dead, .dead, .dead, .dead, .dead, .dead, .dead, .dead, .dead, .dead, .dead, .dead, .dead, .dead, .dead, .dead, .dead, .dead, .dead, .dead, .dead, .dead, .dead, .dead, .dead, .dead, .dead, .dead, .dead, .dead, .dead, .dead, .dead, .dead, .dead, .dead, .dead, .dead, .dead, .dead, .dead, .dead, .dead, .dead, .dead, .dead, .dead, .dead, .dead, .dead, .dead, .dead, .dead, .dead, .dead, .dead, .dead, .dead, .dead, .dead, .dead, .dead, .dead, .dead, .dead]) (by simp [fgt]) (WK.pick [0, 1, 2, 9, 4, 5, 6, 7, 8] (t' := [.d (.slice 13 (opns l)), .d (.int .i64 id), .d (.int .i64 n), .d (.bool ev), .dead, .dead, .dead, .dead, .dead, .pvar 7 0, .pvar 8 0, .d (.int .i64 (i + 1 : Nat)), .dead, .dead, .dead, .dead, .dead, .dead, .dead, .dead, .dead, .dead, .dead, .dead, .dead, .dead, .dead, .dead, .dead, .dead, .dead, .dead, .dead, .dead, .dead, .dead, .dead, .dead, .dead, .dead, .dead, .dead, .dead, .dead, .dead, .dead, .dead, .dead, .dead, .dead, .dead, .dead, .dead, .dead, .dead, .dead, .dead, .dead, .dead, .dead, .dead, .dead, .dead, .dead, .dead, .dead, .dead, .dead, .dead, .dead, .dead, .dead, .dead, .dead, .dead, .dead, .dead, .dead, .dead, .dead, .dead, .dead, .dead, .dead, .dead, .dead, .dead, .dead, .dead, .dead, .dead, .dead, .dead, .dead, .dead, .dead, .dead, .dead, .dead, .dead, .dead, .dead, .dead, .dead, .dead, .dead, .dead, .dead, .dead, .dead, .dead]) (H' := Cs c' ++ [wV w'])
          (by simp [Cs, wV, sbl, ren_none, ren_var, ren_arr, ren_map, bel_none, bel_var, bel_arr, bel_map, AV.renL, AV.ren, AV.belL, AV.bel, rn]) (by simp) (by simp) (by simp [tellL, AV.ren, AV.renL, AV.bel, AV.belL, rn]) (by decide) (WK.now ⟨i + 1, c', w', rfl, by omega, h', by omega, rfl, rfl, rfl⟩))⟩
    · have hsz := fvW_sz h n
      have hsm := rsame_ok (fvW w n) (fvW w n) hsz hsz
      rw [B_true (show fvW w n = fvW w n from rfl)] at hsm
      have hfr := cfree_ok c n h.ok.N
      rw [h.freeW n] at hfr
      have hcb := cbind_ok c id n h.ok
      have hb := h.bind id n
      simp only [push_cast, simprocAttr, pods_length, nds_length, fP, pL]
      refine hfr.at [0, 1, 2, 3, 4, 5, 6, 7] (by simp [oF, oL, applyP, PV, Tb, Ps, Psn, Ns, Cs, Csn, fRc, fP, pL, fE, errD, errF, pgetD, nodeD, sl, pods_length, nds_length, sbl, ren_none, ren_var, ren_arr, ren_map, ren_mapb, ren_iter, ren_loop, ren_defr, bel_none, bel_var, bel_arr, bel_map, bel_mapb, bel_iter, bel_loop, bel_defr, AV.renL, AV.ren, AV.belL, AV.bel, rn]) (by simp) (by simp [oF, oL, applyP, PV, Tb, Ps, Psn, Ns, Cs, Csn, fRc, fP, pL, fE, errD, errF, pgetD, nodeD, sl, pods_length, nds_length]) (by simp [oF, oL, applyP, PV, Tb, Ps, Psn, Ns, Cs, Csn, fRc, fP, pL, fE, errD, errF, pgetD, nodeD, sl, pods_length, nds_length, AV.ren, AV.renL, rn]) (by simp [AV.belL, AV.bel]) (WK.now ?_)
      simp only [Cs, rowD, push_cast, simprocAttr, pods_length, nds_length, fP, pL]
      rcases bind_cases h id n with ⟨⟨x, y, hpd⟩, hcl⟩ | ⟨q, hq, hph, hnode, hpd, hrc⟩
      · rw [hpd, hcl] at hcb
        refine hcb.at [0, 1, 2, 3, 4, 5, 6, 7] (by simp [oF, oL, applyP, PV, Tb, Ps, Psn, Ns, Cs, Csn, fRc, fP, pL, fE, errD, errF, pgetD, nodeD, sl, pods_length, nds_length, sbl, ren_none, ren_var, ren_arr, ren_map, ren_mapb, ren_iter, ren_loop, ren_defr, bel_none, bel_var, bel_arr, bel_map, bel_mapb, bel_iter, bel_loop, bel_defr, AV.renL, AV.ren, AV.belL, AV.bel, rn]) (by simp) (by simp [oF, oL, applyP, PV, Tb, Ps, Psn, Ns, Cs, Csn, fRc, fP, pL, fE, errD, errF, pgetD, nodeD, sl, pods_length, nds_length]) (by simp [oF, oL, applyP, PV, Tb, Ps, Psn, Ns, Cs, Csn, fRc, fP, pL, fE, errD, errF, pgetD, nodeD, sl, pods_length, nds_length, AV.ren, AV.renL, rn]) (by simp [AV.belL, AV.bel]) (WK.now ?_)
        simp only [Cs, pL', errF, push_cast, simprocAttr, pods_length, nds_length, fP, pL]
        refine hfr.at [0, 1, 2, 3, 4, 5, 6, 7] (by simp [oF, oL, applyP, PV, Tb, Ps, Psn, Ns, Cs, Csn, fRc, fP, pL, fE, errD, errF, pgetD, nodeD, sl, pods_length, nds_length, sbl, ren_none, ren_var, ren_arr, ren_map, ren_mapb, ren_iter, ren_loop, ren_defr, bel_none, bel_var, bel_arr, bel_map, bel_mapb, bel_iter, bel_loop, bel_defr, AV.renL, AV.ren, AV.belL, AV.bel, rn]) (by simp) (by simp [oF, oL, applyP, PV, Tb, Ps, Psn, Ns, Cs, Csn, fRc, fP, pL, fE, errD, errF, pgetD, nodeD, sl, pods_length, nds_length]) (by simp [oF, oL, applyP, PV, Tb, Ps, Psn, Ns, Cs, Csn, fRc, fP, pL, fE, errD, errF, pgetD, nodeD, sl, pods_length, nds_length, AV.ren, AV.renL, rn]) (by simp [AV.belL, AV.bel]) (WK.now ?_)
        simp only [Cs, rowD, push_cast, simprocAttr, pods_length, nds_length, fP, pL]
        refine hsm.go (by first | exact ⟨.inl rfl, trivial⟩ | exact ⟨.inl rfl, .inl rfl, trivial⟩ | exact ⟨.inl rfl, .inl rfl, .inl rfl, trivial⟩ | simp [argsOk, argOk, sl, sll]) (WK.now ?_)
        simp only [push_cast, simprocAttr, pods_length, nds_length, fP, pL]
        refine WK.now ?_
        simp only [push_cast, simprocAttr, pods_length, nds_length, fP, pL]
      · obtain ⟨hqm, hqi⟩ := findP_some hq
        obtain ⟨c1, hc1⟩ : ∃ c1, c1 = (clPlace c id n 1).1 := ⟨_, rfl⟩
        obtain ⟨p1, hp1⟩ : ∃ p1, p1 = applyP q 1 3 n (-1) := ⟨_, rfl⟩
        have hid1 : p1.1.id = id := by rw [hp1]; exact hqi
        rw [hrc, ← hc1, ← hp1] at hb
        rw [hpd, ← hc1, ← hp1] at hcb
        have hf1 : findP (updP w.pods p1) id = some p1 := by rw [← hid1]; exact findP_self (p := q) (by rw [hid1]; exact hq)
        refine hcb.at [0, 1, 2, 3, 4, 5, 6, 7] (by simp [oF, oL, applyP, PV, Tb, Ps, Psn, Ns, Cs, Csn, fRc, fP, pL, fE, errD, errF, pgetD, nodeD, sl, pods_length, nds_length, sbl, ren_none, ren_var, ren_arr, ren_map, ren_mapb, ren_iter, ren_loop, ren_defr, bel_none, bel_var, bel_arr, bel_map, bel_mapb, bel_iter, bel_loop, bel_defr, AV.renL, AV.ren, AV.belL, AV.bel, rn]) (by simp) (by simp [oF, oL, applyP, PV, Tb, Ps, Psn, Ns, Cs, Csn, fRc, fP, pL, fE, errD, errF, pgetD, nodeD, sl, pods_length, nds_length]) (by simp [oF, oL, applyP, PV, Tb, Ps, Psn, Ns, Cs, Csn, fRc, fP, pL, fE, errD, errF, pgetD, nodeD, sl, pods_length, nds_length, AV.ren, AV.renL, rn]) (by simp [AV.belL, AV.bel]) (WK.now ?_)
        cases ev with
        | false =>
          obtain ⟨s1, s2⟩ := hb.free_step hf1 (by rw [hp1]; exact .inl rfl)
          have h3 := hb.change id 5 0
          rw [s2] at h3
          obtain ⟨c3, hc3⟩ : ∃ c3, c3 = (clChange c1 id 5 0).1 := ⟨_, rfl⟩
          obtain ⟨g, hg⟩ : ∃ g, g = applyP p1 5 5 (-1) 0 := ⟨_, rfl⟩
          have hgi : g.1.id = id := by rw [hg]; exact hid1
          rw [← hc3, ← hg] at h3
          have hf3 : findP (updP (updP w.pods p1) g) id = some g := by rw [← hgi]; exact findP_self (p := p1) (by rw [hgi]; exact hf1)
          obtain ⟨a1, a2⟩ := h3.again hf3 (by rw [hg]; rfl)
          have k1 := cchange_ok c1 id 5 0 hb.ok
          rw [s1, ← hc3, ← hg] at k1
          have k2 := cchange_ok c3 id 5 0 h3.ok
          rw [a1, a2] at k2
          have k3 := cfree_ok c3 n h3.ok.N
          have ht := told_ok (some (8, 0)) 8 0
          rw [show toldB (some (8, 0)) 8 0 = true from rfl] at ht
          have hfv : fvW ({ w with pods := updP (updP w.pods p1) g } : Rc) n = fvW w n := by
            rw [updP_twice (by rw [hid1, hgi])]
            exact fvW_upd h.ndp hqm (by rw [hgi, hqi]) hph (by rw [hg]; show ¬ holdsP 5; unfold holdsP; omega) n
          rw [h3.freeW n, hfv] at k3
          simp only [Cs, push_cast, simprocAttr, pods_length, nds_length, fP, pL]
          refine k1.at [0, 1, 2, 3, 4, 5, 6, 7] (by simp [oF, oL, applyP, PV, Tb, Ps, Psn, Ns, Cs, Csn, fRc, fP, pL, fE, errD, errF, pgetD, nodeD, sl, pods_length, nds_length, sbl, ren_none, ren_var, ren_arr, ren_map, ren_mapb, ren_iter, ren_loop, ren_defr, bel_none, bel_var, bel_arr, bel_map, bel_mapb, bel_iter, bel_loop, bel_defr, AV.renL, AV.ren, AV.belL, AV.bel, rn]) (by simp) (by simp [oF, oL, applyP, PV, Tb, Ps, Psn, Ns, Cs, Csn, fRc, fP, pL, fE, errD, errF, pgetD, nodeD, sl, pods_length, nds_length]) (by simp [oF, oL, applyP, PV, Tb, Ps, Psn, Ns, Cs, Csn, fRc, fP, pL, fE, errD, errF, pgetD, nodeD, sl, pods_length, nds_length, AV.ren, AV.renL, rn]) (by simp [AV.belL, AV.bel]) (WK.now ?_)
          simp only [Cs, push_cast, simprocAttr, pods_length, nds_length, fP, pL]
          refine k2.at [0, 1, 2, 3, 4, 5, 6, 7] (by simp [oF, oL, applyP, PV, Tb, Ps, Psn, Ns, Cs, Csn, fRc, fP, pL, fE, errD, errF, pgetD, nodeD, sl, pods_length, nds_length, sbl, ren_none, ren_var, ren_arr, ren_map, ren_mapb, ren_iter, ren_loop, ren_defr, bel_none, bel_var, bel_arr, bel_map, bel_mapb, bel_iter, bel_loop, bel_defr, AV.renL, AV.ren, AV.belL, AV.bel, rn]) (by simp) (by simp [oF, oL, applyP, PV, Tb, Ps, Psn, Ns, Cs, Csn, fRc, fP, pL, fE, errD, errF, pgetD, nodeD, sl, pods_length, nds_length]) (by simp [oF, oL, applyP, PV, Tb, Ps, Psn, Ns, Cs, Csn, fRc, fP, pL, fE, errD, errF, pgetD, nodeD, sl, pods_length, nds_length, AV.ren, AV.renL, rn]) (by simp [AV.belL, AV.bel]) (WK.now ?_)
          simp only [Cs, zP, errF, push_cast, simprocAttr, pods_length, nds_length, fP, pL]
          refine ht.go (by first | exact ⟨.inl rfl, trivial⟩ | exact ⟨.inl rfl, .inl rfl, trivial⟩ | exact ⟨.inl rfl, .inl rfl, .inl rfl, trivial⟩ | simp [argsOk, argOk, sl, sll]) (WK.now ?_)
          simp only [push_cast, simprocAttr, pods_length, nds_length, fP, pL]
          refine k3.at [0, 1, 2, 3, 4, 5, 6, 7] (by simp [oF, oL, applyP, PV, Tb, Ps, Psn, Ns, Cs, Csn, fRc, fP, pL, fE, errD, errF, pgetD, nodeD, sl, pods_length, nds_length, sbl, ren_none, ren_var, ren_arr, ren_map, ren_mapb, ren_iter, ren_loop, ren_defr, bel_none, bel_var, bel_arr, bel_map, bel_mapb, bel_iter, bel_loop, bel_defr, AV.renL, AV.ren, AV.belL, AV.bel, rn]) (by simp) (by simp [oF, oL, applyP, PV, Tb, Ps, Psn, Ns, Cs, Csn, fRc, fP, pL, fE, errD, errF, pgetD, nodeD, sl, pods_length, nds_length]) (by simp [oF, oL, applyP, PV, Tb, Ps, Psn, Ns, Cs, Csn, fRc, fP, pL, fE, errD, errF, pgetD, nodeD, sl, pods_length, nds_length, AV.ren, AV.renL, rn]) (by simp [AV.belL, AV.bel]) (WK.now ?_)
          simp only [Cs, rowD, push_cast, simprocAttr, pods_length, nds_length, fP, pL]
          refine hsm.go (by first | exact ⟨.inl rfl, trivial⟩ | exact ⟨.inl rfl, .inl rfl, trivial⟩ | exact ⟨.inl rfl, .inl rfl, .inl rfl, trivial⟩ | simp [argsOk, argOk, sl, sll]) (WK.now ?_)
          simp only [push_cast, simprocAttr, pods_length, nds_length, fP, pL]
          refine WK.now ?_
          simp only [push_cast, simprocAttr, pods_length, nds_length, fP, pL]
        | true =>
          obtain ⟨v1, v2⟩ := hb.evict_step hf1 (by rw [hp1]; rfl)
          have h2 := hb.change id 4 5
          rw [v2] at h2
          obtain ⟨c2, hc2⟩ : ∃ c2, c2 = (clChange c1 id 4 5).1 := ⟨_, rfl⟩
          obtain ⟨p2, hp2⟩ : ∃ p2, p2 = applyP p1 4 4 (-1) 5 := ⟨_, rfl⟩
          have hid2 : p2.1.id = id := by rw [hp2]; exact hid1
          have hdl : (p2.1.dl != 5) = false := by rw [hp2]; rfl
          rw [← hc2, ← hp2] at h2
          have hf2 : findP (updP (updP w.pods p1) p2) id = some p2 := by rw [← hid2]; exact findP_self (p := p1) (by rw [hid2]; exact hf1)
          have k0 := cchange_ok c1 id 4 5 hb.ok
          rw [v1, ← hc2, ← hp2] at k0
          obtain ⟨s1, s2⟩ := h2.free_step hf2 (by rw [hp2]; exact .inr rfl)
          have h3 := h2.change id 5 0
          rw [s2] at h3
          obtain ⟨c3, hc3⟩ : ∃ c3, c3 = (clChange c2 id 5 0).1 := ⟨_, rfl⟩
          obtain ⟨g, hg⟩ : ∃ g, g = applyP p2 5 5 (-1) 0 := ⟨_, rfl⟩
          have hgi : g.1.id = id := by rw [hg]; exact hid2
          rw [← hc3, ← hg] at h3
          have hf3 : findP (updP (updP (updP w.pods p1) p2) g) id = some g := by rw [← hgi]; exact findP_self (p := p2) (by rw [hgi]; exact hf2)
          obtain ⟨a1, a2⟩ := h3.again hf3 (by rw [hg]; rfl)
          have k1 := cchange_ok c2 id 5 0 h2.ok
          rw [s1, ← hc3, ← hg] at k1
          have k2 := cchange_ok c3 id 5 0 h3.ok
          rw [a1, a2] at k2
          have k3 := cfree_ok c3 n h3.ok.N
          have ht := told_ok (some (8, 0)) 8 0
          rw [show toldB (some (8, 0)) 8 0 = true from rfl] at ht
          have hfv : fvW ({ w with pods := updP (updP (updP w.pods p1) p2) g } : Rc) n = fvW w n := by
            rw [updP_twice (by rw [hid2, hgi]), updP_twice (by rw [hid1, hgi])]
            exact fvW_upd h.ndp hqm (by rw [hgi, hqi]) hph (by rw [hg]; show ¬ holdsP 5; unfold holdsP; omega) n
          rw [h3.freeW n, hfv] at k3
          simp only [Cs, push_cast, simprocAttr, pods_length, nds_length, fP, pL]
          refine k0.at [0, 1, 2, 3, 4, 5, 6, 7] (by simp [oF, oL, applyP, PV, Tb, Ps, Psn, Ns, Cs, Csn, fRc, fP, pL, fE, errD, errF, pgetD, nodeD, sl, pods_length, nds_length, sbl, ren_none, ren_var, ren_arr, ren_map, ren_mapb, ren_iter, ren_loop, ren_defr, bel_none, bel_var, bel_arr, bel_map, bel_mapb, bel_iter, bel_loop, bel_defr, AV.renL, AV.ren, AV.belL, AV.bel, rn]) (by simp) (by simp [oF, oL, applyP, PV, Tb, Ps, Psn, Ns, Cs, Csn, fRc, fP, pL, fE, errD, errF, pgetD, nodeD, sl, pods_length, nds_length]) (by simp [oF, oL, applyP, PV, Tb, Ps, Psn, Ns, Cs, Csn, fRc, fP, pL, fE, errD, errF, pgetD, nodeD, sl, pods_length, nds_length, AV.ren, AV.renL, rn]) (by simp [AV.belL, AV.bel]) (WK.now ?_)
          simp only [Cs, hdl, push_cast, simprocAttr, pods_length, nds_length, fP, pL]
          refine k1.at [0, 1, 2, 3, 4, 5, 6, 7] (by simp [oF, oL, applyP, PV, Tb, Ps, Psn, Ns, Cs, Csn, fRc, fP, pL, fE, errD, errF, pgetD, nodeD, sl, pods_length, nds_length, sbl, ren_none, ren_var, ren_arr, ren_map, ren_mapb, ren_iter, ren_loop, ren_defr, bel_none, bel_var, bel_arr, bel_map, bel_mapb, bel_iter, bel_loop, bel_defr, AV.renL, AV.ren, AV.belL, AV.bel, rn]) (by simp) (by simp [oF, oL, applyP, PV, Tb, Ps, Psn, Ns, Cs, Csn, fRc, fP, pL, fE, errD, errF, pgetD, nodeD, sl, pods_length, nds_length]) (by simp [oF, oL, applyP, PV, Tb, Ps, Psn, Ns, Cs, Csn, fRc, fP, pL, fE, errD, errF, pgetD, nodeD, sl, pods_length, nds_length, AV.ren, AV.renL, rn]) (by simp [AV.belL, AV.bel]) (WK.now ?_)
          simp only [Cs, push_cast, simprocAttr, pods_length, nds_length, fP, pL]
          refine k2.at [0, 1, 2, 3, 4, 5, 6, 7] (by simp [oF, oL, applyP, PV, Tb, Ps, Psn, Ns, Cs, Csn, fRc, fP, pL, fE, errD, errF, pgetD, nodeD, sl, pods_length, nds_length, sbl, ren_none, ren_var, ren_arr, ren_map, ren_mapb, ren_iter, ren_loop, ren_defr, bel_none, bel_var, bel_arr, bel_map, bel_mapb, bel_iter, bel_loop, bel_defr, AV.renL, AV.ren, AV.belL, AV.bel, rn]) (by simp) (by simp [oF, oL, applyP, PV, Tb, Ps, Psn, Ns, Cs, Csn, fRc, fP, pL, fE, errD, errF, pgetD, nodeD, sl, pods_length, nds_length]) (by simp [oF, oL, applyP, PV, Tb, Ps, Psn, Ns, Cs, Csn, fRc, fP, pL, fE, errD, errF, pgetD, nodeD, sl, pods_length, nds_length, AV.ren, AV.renL, rn]) (by simp [AV.belL, AV.bel]) (WK.now ?_)
          simp only [Cs, zP, errF, push_cast, simprocAttr, pods_length, nds_length, fP, pL]
          refine ht.go (by first | exact ⟨.inl rfl, trivial⟩ | exact ⟨.inl rfl, .inl rfl, trivial⟩ | exact ⟨.inl rfl, .inl rfl, .inl rfl, trivial⟩ | simp [argsOk, argOk, sl, sll]) (WK.now ?_)
          simp only [push_cast, simprocAttr, pods_length, nds_length, fP, pL]
          refine k3.at [0, 1, 2, 3, 4, 5, 6, 7] (by simp [oF, oL, applyP, PV, Tb, Ps, Psn, Ns, Cs, Csn, fRc, fP, pL, fE, errD, errF, pgetD, nodeD, sl, pods_length, nds_length, sbl, ren_none, ren_var, ren_arr, ren_map, ren_mapb, ren_iter, ren_loop, ren_defr, bel_none, bel_var, bel_arr, bel_map, bel_mapb, bel_iter, bel_loop, bel_defr, AV.renL, AV.ren, AV.belL, AV.bel, rn]) (by simp) (by simp [oF, oL, applyP, PV, Tb, Ps, Psn, Ns, Cs, Csn, fRc, fP, pL, fE, errD, errF, pgetD, nodeD, sl, pods_length, nds_length]) (by simp [oF, oL, applyP, PV, Tb, Ps, Psn, Ns, Cs, Csn, fRc, fP, pL, fE, errD, errF, pgetD, nodeD, sl, pods_length, nds_length, AV.ren, AV.renL, rn]) (by simp [AV.belL, AV.bel]) (WK.now ?_)
          simp only [Cs, rowD, push_cast, simprocAttr, pods_length, nds_length, fP, pL]
          refine hsm.go (by first | exact ⟨.inl rfl, trivial⟩ | exact ⟨.inl rfl, .inl rfl, trivial⟩ | exact ⟨.inl rfl, .inl rfl, .inl rfl, trivial⟩ | simp [argsOk, argOk, sl, sll]) (WK.now ?_)
          simp only [push_cast, simprocAttr, pods_length, nds_length, fP, pL]
          refine WK.now ?_
          simp only [push_cast, simprocAttr, pods_length, nds_length, fP, pL]
end Go.Proofs.YtcmhdpbmcgglmaaGreatDoor
end
