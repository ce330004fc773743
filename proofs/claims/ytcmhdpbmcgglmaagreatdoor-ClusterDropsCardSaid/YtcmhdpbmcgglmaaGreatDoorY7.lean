/-
  ClusterDrops, walked.
-/
import Derived.Test.YtcmhdpbmcgglmaaGreatDoorY3
import Derived.Test.YtcmhdpbmcgglmaaGreatDoorH3
section
set_option autoImplicit false
set_option linter.unusedVariables false
set_option linter.unusedSimpArgs false
namespace Go.Proofs.YtcmhdpbmcgglmaaGreatDoor
open Go.Abs
theorem drop_none (w : Rc) (n : Int) : findN (rcDrop w n).nodes n = none := by
  unfold findN rcDrop
  rw [List.find?_eq_none]
  intro x hx
  have := of_decide_eq_true (List.mem_filter.1 hx).2
  simpa using this
section
variable {c : Cl} {w : Rc}
theorem RC.drop_pods (h : RC c w) (n : Int) : ∀ p ∈ (rcDrop w n).pods, onP n p = false := fun p hp => by
  have hmem : ∀ p ∈ w.pods.filter (onP n), findP w.pods p.1.id = some p := fun p hp => h.find (List.mem_filter.1 hp).1
  have hnd : ((w.pods.filter (onP n)).map pid).Nodup := by
    have := h.ndp
    unfold NoDup kv at this
    rw [List.map_map] at this
    exact List.Nodup.sublist (List.filter_sublist.map _) this
  cases ho : onP n p with
  | false => rfl
  | true =>
    rcases dropL_map hmem hnd p hp with ⟨h1, h2⟩ | ⟨q, _, rfl⟩
    · exact absurd (List.mem_map.2 ⟨p, List.mem_filter.2 ⟨h1, ho⟩, rfl⟩) h2
    · have h3 := (onP_iff.1 ho).2
      have h4 := dropP_ph q
      unfold holdsP at h4
      omega
theorem RC.drop_on (h : RC c w) (n : Int) : (rcDrop w n).pods.filter (onP n) = [] := by
  rw [List.filter_eq_nil_iff]
  intro p hp
  rw [h.drop_pods n p hp]
  decide
theorem RC.drop_use (h : RC c w) (n : Int) (k : Nat) : useAt k (rcDrop w n).pods n = 0 := useAt_zero k fun p hp hh e => by
  have := h.drop_pods n p hp
  rw [onP_iff.2 ⟨e, by unfold holdsP at hh; omega⟩] at this
  cases this
theorem RC.drop_add (h : RC c w) {c' : Cl} {n : Int} {m : Int × List Int} (h' : RC c' (rcDrop w n)) (hm : findN w.nodes n = some m) : naddE c'.d 1024 c'.N m.1 m.2 = none := by
  obtain ⟨m1, m2⟩ := findN_some hm
  have hg := h.gn m m1
  have hN := h'.getN n
  rw [drop_none] at hN
  have hle : (rcDrop w n).nodes.length < w.nodes.length := by
    show (w.nodes.filter fun x => decide (x.1 ≠ n)).length < _
    refine List.length_filter_lt_length_iff_exists.2 ⟨m, m1, by simp [m2]⟩
  have h1 := h.lenN
  have h2 := h'.lenN
  unfold naddE
  rw [h'.d1, if_neg hg.ok]
  unfold addF addE
  rw [m2, hN, if_neg (by simp), if_neg (by omega)]
  rfl
theorem RC.drop_free (h : RC c w) {c' : Cl} {n : Int} {m : Int × List Int} (h' : RC c' (rcDrop w n)) (hm : findN w.nodes n = some m) : freeD (lget (clAdd c' m.1 m.2).N n) = some m.2 := by
  obtain ⟨m1, m2⟩ := findN_some hm
  have hg := h.gn m m1
  obtain ⟨A, B, e1, e2, e3, e4⟩ := h'.adds (h.drop_add h' hm)
  have h2 := h'.add m.1 m.2
  have hf : findN (rcAdd (rcDrop w n) m.1 m.2).nodes n = some (m.1, m.2) := by
    have := h2.findN_mem (m := (m.1, m.2)) (by rw [e2]; simp)
    rw [show ((m.1, m.2) : Int × List Int).1 = m.1 from rfl] at this
    rw [m2] at this ⊢
    exact this
  rw [h2.getN, hf, e3]
  show subS m.2 (useOf (rcDrop w n).pods m.1) = some m.2
  have u0 := h.drop_use n 0
  have u1 := h.drop_use n 1
  rw [m2]
  unfold useOf
  rw [u0, u1]
  have c0 := hg.at 0
  have c1 := hg.at 1
  rw [subS_yes (by rw [hg.1]; rfl) fun k hk => by
    have hk2 : k = 0 ∨ k = 1 := by have := hg.1; omega
    rcases hk2 with rfl | rfl
    · simp only [List.getD_cons_zero]; omega
    · simp only [List.getD_cons_succ, List.getD_cons_zero]; omega]
  congr 1
  conv => lhs; rw [hg.two]
  conv => rhs; rw [hg.two]
  simp
end
set_option maxRecDepth 8000 in
set_option maxHeartbeats 1000000 in
theorem clusterDrops_ok (l : List Opn) (n : Int) (hl : l.length ≤ 9223372036854775807) : PCall env 7 [.slice 13 (opns l), .int .i64 n] (.bool true) := by
  refine acalls_of envOk Tryz.func7 rfl (by kernel_rfl) (m := 101) rfl ?_
  simp only [push_cast, simprocAttr, pods_length, nds_length, fP, pL]
  refine (cnew_ok 2).at [] (by simp [oF, oL, PV, Tb, Ps, Psn, Ns, Cs, Csn, fRc, fP, pL, fE, errD, errF, pgetD, nodeD, sl, pods_length, nds_length, sbl, ren_none, ren_var, ren_arr, ren_map, ren_mapb, ren_iter, ren_loop, ren_defr, bel_none, bel_var, bel_arr, bel_map, bel_mapb, bel_iter, bel_loop, bel_defr, AV.renL, AV.ren, AV.belL, AV.bel, rn]) (by simp) (by simp [oF, oL, PV, Tb, Ps, Psn, Ns, Cs, Csn, fRc, fP, pL, fE, errD, errF, pgetD, nodeD, sl, pods_length, nds_length]) (by simp [oF, oL, PV, Tb, Ps, Psn, Ns, Cs, Csn, fRc, fP, pL, fE, errD, errF, pgetD, nodeD, sl, pods_length, nds_length, AV.ren, AV.renL, rn]) (by simp [AV.belL, AV.bel]) (WK.now ?_)
  simp only [Cs, push_cast, simprocAttr, pods_length, nds_length, fP, pL]
  refine awake14_ok.go ⟨⟩ (WK.now ?_)
  simp only [push_cast, simprocAttr, pods_length, nds_length, fP, pL]
  refine (few14_ok l hl).go (by first | exact ⟨.inl rfl, trivial⟩ | exact ⟨.inl rfl, .inl rfl, trivial⟩ | exact ⟨.inl rfl, .inl rfl, .inl rfl, trivial⟩ | simp [argsOk, argOk, sl, sll]) (WK.now ?_)
  cases hf : B (FewO l) with
  | false =>
    simp only [push_cast, simprocAttr, pods_length, nds_length, fP, pL]
    refine awake14_ok.go ⟨⟩ (WK.now ?_)
    simp only [push_cast, simprocAttr, pods_length, nds_length, fP, pL]
    refine WK.now ?_
    simp only [push_cast, simprocAttr, pods_length, nds_length, fP, pL]
  | true =>
    have hfew := B_iff.1 hf
    simp only [opns_length, push_cast, simprocAttr, pods_length, nds_length, fP, pL]
    refine ALoop.mk (fun k t H ds => ∃ (i : Nat) (c : Cl) (w : Rc), k = l.length - i ∧ i ≤ l.length ∧ RC c w ∧ w.pods.length ≤ i ∧ t = [.d (.slice 13 (opns l)), .d (.int .i64 n), .dead, .dead, .dead, .pvar 7 0, .pvar 8 0, .d (.int .i64 (i : Nat)), .dead, .dead, .dead, .dead, .dead, .dead, .dead, .dead, .dead, .dead, .dead, .dead, .dead, .dead, .dead, .dead, .dead, .dead, .dead, .dead, .dead, .dead, .dead, .dead, .dead, .dead, .dead, .dead, .dead, .dead, .dead, .dead, .dead, .dead, .dead, .dead, .dead, .dead, .dead, .dead, .dead, .dead, .dead, .dead, .dead, .dead, .dead, .dead, .dead, .dead, .dead, .dead, .dead, .dead, .dead, .dead, .dead, .dead, .dead, .dead, .dead, .dead, .dead, .dead, .dead, .dead, .dead, .dead, .dead, .dead, .dead, .dead, .dead, .dead, .dead, .dead, .dead, .dead, .dead, .dead, .dead, .dead, .dead, .dead, .dead, .dead, .dead, .dead, .dead, .dead, .dead, .dead, .dead, .dead, .dead] ∧ H = Cs c ++ [wV w] ∧ ds = []) l.length
      (WK.fgt (t' := [.d (.slice 13 (opns l)), .d (.int .i64 n), .dead, .dead, .dead, .pvar 7 0, .pvar 8 0, .d (.int .i64 (0 : Nat)), .dead, .dead, .dead, .dead, .dead, .dead, .dead, .dead, .dead, .dead, .dead, .dead, .dead, .dead, .dead, .dead, .dead, .dead, .dead, .dead, .dead, .dead, .dead, .dead, .dead, .dead, .dead, .dead, .dead, .dead, .dead, .dead, .dead, .dead, .dead, .dead, .dead, .dead, .dead, .dead, .dead, .dead, .dead, .dead, .dead, .dead, .dead, .dead, .dead, .dead, .dead, .dead, .dead, .dead, .dead, .dead, .dead, .dead, .dead, .dead, .dead, .dead, .dead, .dead, .dead, .dead, .dead, .dead, .dead, .dead, .dead, .dead, .dead, .dead, .dead, .dead, .dead, .dead, .dead, .dead, .dead, .dead, .dead, .dead, .dead, .dead, .dead, .dead, .dead, .dead, .dead, .dead, .dead, .dead, .dead]) (by simp [fgt]) (WK.nildat 8 1 2 rfl rfl (WK.nildat 8 2 9 rfl rfl (WK.now ⟨0, _, _, by omega, by omega, RC.init, by simp, rfl, rfl, rfl⟩)))) ?_
    rintro k t H ds ⟨i, c, w, rfl, hi, h, hwp, rfl, rfl, rfl⟩
    simp only [Cs, wV, opns_length, push_cast, simprocAttr, pods_length, nds_length, fP, pL]
    refine Kbr.mk (fun b => ?_) (fun b => ?_)
    · have c2 : i < l.length := by simpa using b
      have si := succ64 c2 (show l.length ≤ 4611686018427387904 by have := hfew.2; omega)
      obtain ⟨o, ho⟩ : ∃ o, o = l.getD i oz := ⟨_, rfl⟩
      have hfo := hfew.1 i c2
      rw [← ho] at hfo
      have hok := (fewP_one o.2.1).1 hfo.1
      simp only [push_cast, simprocAttr, pods_length, nds_length, fP, pL]
      refine DRegL.det [6, 10] [0, 1, 2, 3, 4, 5] [(6, [], [7, 8, 9]), (10, [9], [])] (by kernel_rfl) (by kernel_rfl) (by kernel_rfl) ?_
      simp only [c2, seg_opns, ← ho, opns_length, push_cast, simprocAttr, pods_length, nds_length, fP, pL]
      have hpl := play_ok h o (by have := hok.2.2; unfold Sz; omega) (by have := hfo.2; omega)
      refine hpl.atK [0, 1, 2, 3, 4, 5, 6, 7] (by simp [oF, oL, PV, Tb, Ps, Psn, Ns, Cs, Csn, fRc, fP, pL, fE, errD, errF, pgetD, nodeD, sl, pods_length, nds_length, sbl, ren_none, ren_var, ren_arr, ren_map, ren_mapb, ren_iter, ren_loop, ren_defr, bel_none, bel_var, bel_arr, bel_map, bel_mapb, bel_iter, bel_loop, bel_defr, AV.renL, AV.ren, AV.belL, AV.bel, rn]) (by simp) (by simp [oF, oL, PV, Tb, Ps, Psn, Ns, Cs, Csn, fRc, fP, pL, fE, errD, errF, pgetD, nodeD, sl, pods_length, nds_length]) (by simp [oF, oL, PV, Tb, Ps, Psn, Ns, Cs, Csn, fRc, fP, pL, fE, errD, errF, pgetD, nodeD, sl, pods_length, nds_length, AV.ren, AV.renL, rn]) (by simp [AV.belL, AV.bel]) ?_
      rintro r H' ⟨c', w', rb, h', hln, rfl, rfl | rfl⟩
      · simp only [Cs, fRc, si, push_cast, simprocAttr, pods_length, nds_length, fP, pL]
        exact ⟨l.length - (i + 1), by omega, WK.fgt (t' := [.d (.slice 13 (opns l)), .d (.int .i64 n), .dead, .dead, .dead, .pvar 7 0, .pvar 8 0, .d (.int .i64 (i + 1 : Nat)), .dead, .dead, .dead, .dead, .dead, .dead, .dead, .dead, .dead, .dead, .dead, .dead, .dead, .dead, .dead, .dead, .dead, .dead, .dead, .dead, .dead, .dead, .dead, .dead, .dead, .dead, .dead, .dead, .dead, .dead, .dead, .dead, .dead, .dead, .dead, .dead, .dead, .dead, .dead, .dead, .dead, .dead, .dead, .dead, .dead, .dead, .dead, .dead, .dead, .dead, .dead, .dead, .dead, .dead, .dead, .dead, .dead, .dead, .dead, .dead, .dead, .dead, .dead, .dead, .dead, .dead, .dead, .dead, .dead, .dead, .dead, .dead, .dead, .dead, .dead, .dead, .dead, .dead, .dead, .dead, .dead, .dead, .dead, .dead, .dead, .dead, .dead, .dead, .dead, .dead, .dead, .dead, .dead, .dead, .dead]) (by simp [fgt]) (WK.now ⟨i + 1, c', w', rfl, by omega, h', by omega, rfl, rfl, rfl⟩)⟩
      · simp only [Csn, fRc, si, push_cast, simprocAttr, pods_length, nds_length, fP, pL]
        exact ⟨l.length - (i + 1), by omega, WK.fgt (t' := [.d (.slice 13 (opns l)), .d (.int .i64 n), .dead, .dead, .dead, .pvar 7 0, .pvar 8 0, .d (.int .i64 (i + 1 : Nat)), .dead, .dead, .dead, .dead, .dead, .dead, .dead, .dead, .dead, .dead, .dead, .dead, .dead, .dead, .dead, .dead, .dead, .dead, .dead, .dead, .dead, .dead, .dead, .dead, .dead, .dead, .dead, .dead, .dead, .dead, .dead, .dead, .dead, .dead, .dead, .dead, .dead, .dead, .dead, .dead, .dead, .dead, .dead, .dead, .dead, .dead, .dead, .dead, .dead, .dead, .dead, .dead, .dead, .dead, .dead, .dead, .dead, .dead, .dead, .dead, .dead, .dead, .dead, .dead, .dead, .dead, .dead, .dead, .dead, .dead, .dead, .dead, .dead, .dead, .dead, .dead, .dead, .dead, .dead, .dead, .dead, .dead, .dead, .dead, .dead, .dead, .dead, .dead, .dead, .dead, .dead, .dead, .dead, .dead, .dead]) (by simp [fgt]) (WK.pick [0, 1, 2, 9, 4, 5, 6, 7, 8] (t' := [.d (.slice 13 (opns l)), .d (.int .i64 n), .dead, .dead, .dead, .pvar 7 0, .pvar 8 0, .d (.int .i64 (i + 1 : Nat)), .dead, .dead, .dead, .dead, .dead, .dead, .dead, .dead, .dead, .dead, .dead, .dead, .dead, .dead, .dead, .dead, .dead, .dead, .dead, .dead, .dead, .dead, .dead, .dead, .dead, .dead, .dead, .dead, .dead, .dead, .dead, .dead, .dead, .dead, .dead, .dead, .dead, .dead, .dead, .dead, .dead, .dead, .dead, .dead, .dead, .dead, .dead, .dead, .dead, .dead, .dead, .dead, .dead, .dead, .dead, .dead, .dead, .dead, .dead, .dead, .dead, .dead, .dead, .dead, .dead, .dead, .dead, .dead, .dead, .dead, .dead, .dead, .dead, .dead, .dead, .dead, .dead, .dead, .dead, .dead, .dead, .dead, .dead, .dead, .dead, .dead, .dead, .dead, .dead, .dead, .dead, .dead, .dead, .dead, .dead]) (H' := Cs c' ++ [wV w'])
          (by simp [Cs, wV, sbl, ren_none, ren_var, ren_arr, ren_map, bel_none, bel_var, bel_arr, bel_map, AV.renL, AV.ren, AV.belL, AV.bel, rn]) (by simp) (by simp) (by simp [tellL, AV.ren, AV.renL, AV.bel, AV.belL, rn]) (by decide) (WK.now ⟨i + 1, c', w', rfl, by omega, h', by omega, rfl, rfl, rfl⟩))⟩
    · have hN := h.getN n
      simp only [push_cast, simprocAttr, pods_length, nds_length, fP, pL]
      refine (cnode_ok c n h.ok.N).at [0, 1, 2, 3, 4, 5, 6, 7] (by simp [oF, oL, PV, Tb, Ps, Psn, Ns, Cs, Csn, fRc, fP, pL, fE, errD, errF, pgetD, nodeD, sl, pods_length, nds_length, sbl, ren_none, ren_var, ren_arr, ren_map, ren_mapb, ren_iter, ren_loop, ren_defr, bel_none, bel_var, bel_arr, bel_map, bel_mapb, bel_iter, bel_loop, bel_defr, AV.renL, AV.ren, AV.belL, AV.bel, rn]) (by simp) (by simp [oF, oL, PV, Tb, Ps, Psn, Ns, Cs, Csn, fRc, fP, pL, fE, errD, errF, pgetD, nodeD, sl, pods_length, nds_length]) (by simp [oF, oL, PV, Tb, Ps, Psn, Ns, Cs, Csn, fRc, fP, pL, fE, errD, errF, pgetD, nodeD, sl, pods_length, nds_length, AV.ren, AV.renL, rn]) (by simp [AV.belL, AV.bel]) (WK.now ?_)
      cases hm : findN w.nodes n with
      | none =>
        rw [hm] at hN
        simp only [Cs, hN, Option.map_none, nodeD, push_cast, simprocAttr, pods_length, nds_length, fP, pL]
        refine (cdrop_no h n hm).at [0, 1, 2, 3, 4, 5, 6, 7] (by simp [oF, oL, PV, Tb, Ps, Psn, Ns, Cs, Csn, fRc, fP, pL, fE, errD, errF, pgetD, nodeD, sl, pods_length, nds_length, sbl, ren_none, ren_var, ren_arr, ren_map, ren_mapb, ren_iter, ren_loop, ren_defr, bel_none, bel_var, bel_arr, bel_map, bel_mapb, bel_iter, bel_loop, bel_defr, AV.renL, AV.ren, AV.belL, AV.bel, rn]) (by simp) (by simp [oF, oL, PV, Tb, Ps, Psn, Ns, Cs, Csn, fRc, fP, pL, fE, errD, errF, pgetD, nodeD, sl, pods_length, nds_length]) (by simp [oF, oL, PV, Tb, Ps, Psn, Ns, Cs, Csn, fRc, fP, pL, fE, errD, errF, pgetD, nodeD, sl, pods_length, nds_length, AV.ren, AV.renL, rn]) (by simp [AV.belL, AV.bel]) (WK.now ?_)
        have ht := told_ok (some (5, 0)) 5 0
        rw [show toldB (some (5, 0)) 5 0 = true from rfl] at ht
        simp only [Cs, errF, push_cast, simprocAttr, pods_length, nds_length, fP, pL]
        refine ht.go (by first | exact ⟨.inl rfl, trivial⟩ | exact ⟨.inl rfl, .inl rfl, trivial⟩ | exact ⟨.inl rfl, .inl rfl, .inl rfl, trivial⟩ | simp [argsOk, argOk, sl, sll]) (WK.now ?_)
        simp only [push_cast, simprocAttr, pods_length, nds_length, fP, pL]
        refine WK.now ?_
        simp only [push_cast, simprocAttr, pods_length, nds_length, fP, pL]
      | some m =>
        rw [hm] at hN
        simp only [Cs, hN, Option.map_some, nodeD, push_cast, simprocAttr, pods_length, nds_length, fP, pL]
        refine (cdrop_ok h n hm).atK [0, 1, 2, 3, 4, 5, 6, 7] (by simp [oF, oL, PV, Tb, Ps, Psn, Ns, Cs, Csn, fRc, fP, pL, fE, errD, errF, pgetD, nodeD, sl, pods_length, nds_length, sbl, ren_none, ren_var, ren_arr, ren_map, ren_mapb, ren_iter, ren_loop, ren_defr, bel_none, bel_var, bel_arr, bel_map, bel_mapb, bel_iter, bel_loop, bel_defr, AV.renL, AV.ren, AV.belL, AV.bel, rn]) (by simp) (by simp [oF, oL, PV, Tb, Ps, Psn, Ns, Cs, Csn, fRc, fP, pL, fE, errD, errF, pgetD, nodeD, sl, pods_length, nds_length]) (by simp [oF, oL, PV, Tb, Ps, Psn, Ns, Cs, Csn, fRc, fP, pL, fE, errD, errF, pgetD, nodeD, sl, pods_length, nds_length, AV.ren, AV.renL, rn]) (by simp [AV.belL, AV.bel]) ?_
        rintro r H' ⟨c', h', rfl, rfl⟩
        refine WK.now ?_
        simp only [Cs, push_cast, simprocAttr, pods_length, nds_length, fP, pL]
        have hN' := h'.getN n
        rw [drop_none, Option.map_none] at hN'
        have hon := con_ok c' n ⟨h'.ok.L, h'.ok.i, h'.ok.hin⟩
        rw [h'.listed, h.drop_on n] at hon
        have had := cadd_ok c' m.1 m.2 h'.ok.d h'.ok.nl (by have := (h.gn m (findN_some hm).1).1; omega)
        rw [h.drop_add h' hm] at had
        have h2 := h'.add m.1 m.2
        have hfr := cfree_ok (clAdd c' m.1 m.2) n h2.ok.N
        rw [h.drop_free h' hm] at hfr
        have hsz := (h.gn m (findN_some hm).1).sz
        have hsm := rsame_ok m.2 m.2 hsz hsz
        rw [B_true (show m.2 = m.2 from rfl)] at hsm
        refine (cnode_ok c' n h'.ok.N).at [0, 1, 2, 3, 4, 5, 6, 7] (by simp [oF, oL, PV, Tb, Ps, Psn, Ns, Cs, Csn, fRc, fP, pL, fE, errD, errF, pgetD, nodeD, sl, pods_length, nds_length, sbl, ren_none, ren_var, ren_arr, ren_map, ren_mapb, ren_iter, ren_loop, ren_defr, bel_none, bel_var, bel_arr, bel_map, bel_mapb, bel_iter, bel_loop, bel_defr, AV.renL, AV.ren, AV.belL, AV.bel, rn]) (by simp) (by simp [oF, oL, PV, Tb, Ps, Psn, Ns, Cs, Csn, fRc, fP, pL, fE, errD, errF, pgetD, nodeD, sl, pods_length, nds_length]) (by simp [oF, oL, PV, Tb, Ps, Psn, Ns, Cs, Csn, fRc, fP, pL, fE, errD, errF, pgetD, nodeD, sl, pods_length, nds_length, AV.ren, AV.renL, rn]) (by simp [AV.belL, AV.bel]) (WK.now ?_)
        simp only [Cs, hN', nodeD, push_cast, simprocAttr, pods_length, nds_length, fP, pL]
        refine DRegL.det [5, 12] [0, 1, 2, 3, 4] [(5, [], [6, 7, 8, 9, 10, 11]), (12, [], [13, 14, 15, 16, 17, 18, 19, 20, 21, 22, 23])] (by kernel_rfl) (by kernel_rfl) (by kernel_rfl) ?_
        simp only [push_cast, simprocAttr, pods_length, nds_length, fP, pL]
        refine hon.at [0, 1, 2, 3, 4, 5, 6, 7] (by simp [oF, oL, PV, Tb, Ps, Psn, Ns, Cs, Csn, fRc, fP, pL, fE, errD, errF, pgetD, nodeD, sl, pods_length, nds_length, sbl, ren_none, ren_var, ren_arr, ren_map, ren_mapb, ren_iter, ren_loop, ren_defr, bel_none, bel_var, bel_arr, bel_map, bel_mapb, bel_iter, bel_loop, bel_defr, AV.renL, AV.ren, AV.belL, AV.bel, rn]) (by simp) (by simp [oF, oL, PV, Tb, Ps, Psn, Ns, Cs, Csn, fRc, fP, pL, fE, errD, errF, pgetD, nodeD, sl, pods_length, nds_length]) (by simp [oF, oL, PV, Tb, Ps, Psn, Ns, Cs, Csn, fRc, fP, pL, fE, errD, errF, pgetD, nodeD, sl, pods_length, nds_length, AV.ren, AV.renL, rn]) (by simp [AV.belL, AV.bel]) ?_
        simp only [Cs, pods, push_cast, simprocAttr, pods_length, nds_length, fP, pL]
        refine had.at [0, 1, 2, 3, 4, 5, 6, 7] (by simp [oF, oL, PV, Tb, Ps, Psn, Ns, Cs, Csn, fRc, fP, pL, fE, errD, errF, pgetD, nodeD, sl, pods_length, nds_length, sbl, ren_none, ren_var, ren_arr, ren_map, ren_mapb, ren_iter, ren_loop, ren_defr, bel_none, bel_var, bel_arr, bel_map, bel_mapb, bel_iter, bel_loop, bel_defr, AV.renL, AV.ren, AV.belL, AV.bel, rn]) (by simp) (by simp [oF, oL, PV, Tb, Ps, Psn, Ns, Cs, Csn, fRc, fP, pL, fE, errD, errF, pgetD, nodeD, sl, pods_length, nds_length]) (by simp [oF, oL, PV, Tb, Ps, Psn, Ns, Cs, Csn, fRc, fP, pL, fE, errD, errF, pgetD, nodeD, sl, pods_length, nds_length, AV.ren, AV.renL, rn]) (by simp [AV.belL, AV.bel]) ?_
        simp only [Cs, errF, push_cast, simprocAttr, pods_length, nds_length, fP, pL]
        refine hfr.hushAt [0, 1, 2, 3, 4, 5, 6, 7] (by simp [oF, oL, PV, Tb, Ps, Psn, Ns, Cs, Csn, fRc, fP, pL, fE, errD, errF, pgetD, nodeD, sl, pods_length, nds_length, sbl, ren_none, ren_var, ren_arr, ren_map, ren_mapb, ren_iter, ren_loop, ren_defr, bel_none, bel_var, bel_arr, bel_map, bel_mapb, bel_iter, bel_loop, bel_defr, AV.renL, AV.ren, AV.belL, AV.bel, rn]) (by simp) (by simp [oF, oL, PV, Tb, Ps, Psn, Ns, Cs, Csn, fRc, fP, pL, fE, errD, errF, pgetD, nodeD, sl, pods_length, nds_length]) (by simp [oF, oL, PV, Tb, Ps, Psn, Ns, Cs, Csn, fRc, fP, pL, fE, errD, errF, pgetD, nodeD, sl, pods_length, nds_length, AV.ren, AV.renL, rn]) (by simp [AV.belL, AV.bel]) (by simp [lift, putAll, oF, oL, PV, Tb, Ps, Psn, Ns, Cs, Csn, fRc, fP, pL, fE, errD, errF, pgetD, nodeD, sl, pods_length, nds_length, sbl, ren_none, ren_var, ren_arr, ren_map, ren_mapb, ren_iter, ren_loop, ren_defr, AV.renL, AV.ren, rn]) ?_
        simp only [rowD, push_cast, simprocAttr, pods_length, nds_length, fP, pL]
        refine hsm.quiet' (by first | exact ⟨.inl rfl, trivial⟩ | exact ⟨.inl rfl, .inl rfl, trivial⟩ | exact ⟨.inl rfl, .inl rfl, .inl rfl, trivial⟩ | simp [argsOk, argOk, sl, sll]) ?_
        simp only [push_cast, simprocAttr, pods_length, nds_length, fP, pL]
        refine WK.now ?_
        simp only [push_cast, simprocAttr, pods_length, nds_length, fP, pL]
end Go.Proofs.YtcmhdpbmcgglmaaGreatDoor
end
