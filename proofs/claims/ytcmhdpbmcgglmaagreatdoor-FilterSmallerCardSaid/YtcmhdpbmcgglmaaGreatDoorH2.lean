/-
  FilterSmaller, walked.
-/
import Derived.Test.YtcmhdpbmcgglmaaGreatDoorH1
import Derived.Test.YtcmhdpbmcgglmaaGreatDoorD1
section
set_option autoImplicit false
set_option linter.unusedVariables false
set_option linter.unusedSimpArgs false
namespace Go.Proofs.YtcmhdpbmcgglmaaGreatDoor
open Go.Abs
def hv2 (x : Int) : Int := IntKind.wrap .i64 (x.tdiv 2)
def hvl (v : List Int) : Nat → List Int
  | 0 => v
  | m + 1 => (hvl v m).set m (hv2 ((hvl v m).getD m 0))
theorem hvl_len (v : List Int) : ∀ m, (hvl v m).length = v.length
  | 0 => rfl
  | m + 1 => by rw [hvl, List.length_set, hvl_len v m]
theorem hvl_two {v : List Int} (h : GoodV v) : hvl v v.length = hfv v 2 := by
  have l0 := h.at 0
  have l1 := h.at 1
  rw [h.1]
  have e0 : hv2 (v.getD 0 0) = v.getD 0 0 / 2 := half_wrap l0.1 l0.2
  have e1 : hv2 (v.getD 1 0) = v.getD 1 0 / 2 := half_wrap l1.1 l1.2
  have ht := h.two
  obtain ⟨a, ha⟩ : ∃ a, a = v.getD 0 0 := ⟨_, rfl⟩
  obtain ⟨b, hb⟩ : ∃ b, b = v.getD 1 0 := ⟨_, rfl⟩
  rw [← ha] at e0
  rw [← hb] at e1
  rw [← ha, ← hb] at ht
  rw [ht]
  show [hv2 a, hv2 b] = _
  rw [e0, e1]
  rfl
def hvP (p : Pod) (m : Nat) : Pod := (p.1, hvl p.2 m)
theorem RC.smaller {c : Cl} {w : Rc} (h : RC c w) (p : Pod) {x : Int} (hx : x ∈ selN w.nodes (fitsB c p (lvW w p))) : x ∈ selN w.nodes (fitsB c (hvP p p.2.length) (lvW w (hvP p p.2.length))) := by
  unfold selN at hx ⊢
  obtain ⟨m, hm, rfl⟩ := List.mem_map.1 hx
  obtain ⟨q1, q2⟩ := List.mem_filter.1 hm
  refine List.mem_map.2 ⟨m, List.mem_filter.2 ⟨q1, ?_⟩, rfl⟩
  refine fit_mono h (p := p) (q := hvP p p.2.length) (load_mono (p := p) (q := hvP p p.2.length) (n := m.1) (wo := []) (wo' := []) h.gp (fun _ h => h) (fun id h => h)) (fun hg => ?_) q2
  show GoodV (hvl p.2 p.2.length) ∧ _
  unfold hvP
  rw [hvl_two hg]
  exact hfv_good hg 2
def Hs (c : Cl) (w : Rc) (p : Pod) (m : Nat) : List AObj := H17 c w p ++ [
  .var [.d (.int .i64 p.1.id), .d (.int .i64 p.1.pr), .d (.bool p.1.pre), .d (.int .i64 p.1.gr), .sfull 11, .d (.int .i64 p.1.ar), .d (.int .i64 p.1.ph), .d (.int .i64 p.1.nd), .d (.int .i64 p.1.dl)],
  .arr 2 1 (ints (hvl p.2 m))]
set_option maxRecDepth 8000 in
set_option maxHeartbeats 1000000 in
theorem filterSmaller_ok (nodes : List (Int × List Int)) (ps : List Plc) (p : Pod) : PCall env 9 [.slice 2 (nds nodes), .slice 11 (plcs ps), fP p] (.bool true) := by
  refine acalls_of envOk Tryz.func9 rfl (by kernel_rfl) (m := 72) rfl ?_
  simp only [push_cast, simprocAttr, pods_length, nds_length, fP, pL]
  refine (build_ok nodes ps).atK [] (by simp [hvP, PV, Tb, Ps, Psn, Ns, Cs, Csn, fP, pL, fE, errD, errF, pgetD, nodeD, sl, pods_length, nds_length, plcs_length, sbl, ren_none, ren_var, ren_arr, ren_map, ren_mapb, ren_iter, ren_loop, ren_defr, bel_none, bel_var, bel_arr, bel_map, bel_mapb, bel_iter, bel_loop, bel_defr, AV.renL, AV.ren, AV.belL, AV.bel, rn]) (by simp) (by simp [hvP, PV, Tb, Ps, Psn, Ns, Cs, Csn, fP, pL, fE, errD, errF, pgetD, nodeD, sl, pods_length, nds_length, plcs_length]) (by simp [hvP, PV, Tb, Ps, Psn, Ns, Cs, Csn, fP, pL, fE, errD, errF, pgetD, nodeD, sl, pods_length, nds_length, plcs_length, AV.ren, AV.renL, rn]) (by simp [AV.belL, AV.bel]) ?_
  rintro r H' (⟨x, y, z, rfl, rfl⟩ | ⟨c, w, rfl, rfl, h, hnl, hpl⟩)
  · refine WK.now ?_
    simp only [push_cast, simprocAttr, pods_length, nds_length, fP, pL]
    refine awake17_ok.go ⟨⟩ (WK.now ?_)
    simp only [push_cast, simprocAttr, pods_length, nds_length, fP, pL]
    refine awake17_ok.go ⟨⟩ (WK.now ?_)
    simp only [push_cast, simprocAttr, pods_length, nds_length, fP, pL]
    refine WK.now ?_
    simp only [push_cast, simprocAttr, pods_length, nds_length, fP, pL]
  · refine WK.now ?_
    simp only [Cs, fRc, push_cast, simprocAttr, pods_length, nds_length, fP, pL]
    refine awake17_ok.go ⟨⟩ (WK.now ?_)
    simp only [one_pod, push_cast, simprocAttr, pods_length, nds_length, fP, pL]
    refine (few_ok [p] (by simp)).go (by first | exact ⟨.inl rfl, trivial⟩ | exact ⟨.inl rfl, .inl rfl, trivial⟩ | exact ⟨.inl rfl, .inl rfl, .inl rfl, trivial⟩ | simp [argsOk, argOk, sl, sll]) (WK.now ?_)
    cases hf : B (FewP [p]) with
    | false =>
      simp only [push_cast, simprocAttr, pods_length, nds_length, fP, pL]
      refine awake17_ok.go ⟨⟩ (WK.now ?_)
      simp only [push_cast, simprocAttr, pods_length, nds_length, fP, pL]
      refine WK.now ?_
      simp only [push_cast, simprocAttr, pods_length, nds_length, fP, pL]
    | true =>
      have hp := (fewP_one p).1 (B_iff.1 hf)
      have hsz : Sz p.2 := by have := hp.2.2; unfold Sz; omega
      obtain ⟨fs, hfs⟩ : ∃ fs, fs = selN w.nodes (fitsB c p (lvW w p)) := ⟨_, rfl⟩
      obtain ⟨gs, hgs⟩ : ∃ gs, gs = selN w.nodes (fitsB c (hvP p p.2.length) (lvW w (hvP p p.2.length))) := ⟨_, rfl⟩
      have h1 := fnodes_ok (h.lds p hsz)
      have h2 := fnodes_ok (h.lds (hvP p p.2.length) (by unfold Sz hvP at *; rw [hvl_len]; exact hsz))
      rw [h.nds] at h1 h2
      rw [← hfs] at h1
      rw [← hgs] at h2
      have hN := h.nl
      have hl := h.nodes.len
      rw [List.length_map] at hl
      have hfl : fs.length ≤ 1000000 := by
        rw [hfs]; unfold selN; rw [List.length_map]
        have := List.length_filter_le (fitsB c p (lvW w p)) w.nodes
        omega
      have hgl : gs.length ≤ 1000000 := by
        rw [hgs]; unfold selN; rw [List.length_map]
        have := List.length_filter_le (fitsB c (hvP p p.2.length) (lvW w (hvP p p.2.length))) w.nodes
        omega
      have hsub : ∀ i, i < fs.length → fs.getD i 0 ∈ gs := fun i hi => by
        rw [hgs]
        refine h.smaller p ?_
        rw [← hfs, List.getD_eq_getElem?_getD, List.getElem?_eq_getElem hi]
        exact List.getElem_mem hi
      simp only [push_cast, simprocAttr, pods_length, nds_length, fP, pL]
      refine h1.at [1, 2, 3, 4, 5, 6, 7, 8] (by simp [hvP, PV, Tb, Ps, Psn, Ns, Cs, Csn, fP, pL, fE, errD, errF, pgetD, nodeD, sl, pods_length, nds_length, plcs_length, sbl, ren_none, ren_var, ren_arr, ren_map, ren_mapb, ren_iter, ren_loop, ren_defr, bel_none, bel_var, bel_arr, bel_map, bel_mapb, bel_iter, bel_loop, bel_defr, AV.renL, AV.ren, AV.belL, AV.bel, rn]) (by simp) (by simp [hvP, PV, Tb, Ps, Psn, Ns, Cs, Csn, fP, pL, fE, errD, errF, pgetD, nodeD, sl, pods_length, nds_length, plcs_length]) (by simp [hvP, PV, Tb, Ps, Psn, Ns, Cs, Csn, fP, pL, fE, errD, errF, pgetD, nodeD, sl, pods_length, nds_length, plcs_length, AV.ren, AV.renL, rn]) (by simp [AV.belL, AV.bel]) (WK.now ?_)
      simp only [Cs, push_cast, simprocAttr, pods_length, nds_length, fP, pL]
      refine ⟨.inr trivial, room_of (by unfold Sz at hsz; omega) (by omega), ?_⟩
      refine ALoop.mk (fun k t H ds => ∃ m : Nat, k = p.2.length - m ∧ m ≤ p.2.length ∧ t = [.dead, .dead, .dead, .dead, .dead, .pvar 0 0, .dead, .pvar 8 0, .dead, .d (.slice 1 (ints fs)), .pvar 10 0, .d (.int .i64 (m : Nat)), .dead, .dead, .dead, .dead, .dead, .dead, .dead, .dead, .dead, .dead, .dead, .dead, .dead, .dead, .dead, .dead, .dead, .dead, .dead, .dead, .dead, .dead, .dead, .dead, .dead, .dead, .dead, .dead, .dead, .dead, .dead, .dead, .dead, .dead, .dead, .dead, .dead, .dead, .dead, .dead, .dead, .dead, .dead, .dead, .dead, .dead, .dead, .dead, .dead, .dead, .dead, .dead, .dead, .dead, .dead, .dead, .dead, .dead, .dead, .dead, .dead, .dead, .dead] ∧ H = Hs c w p m ∧ ds = []) p.2.length
        (WK.fgt (t' := [.dead, .dead, .dead, .dead, .dead, .pvar 0 0, .dead, .pvar 8 0, .dead, .d (.slice 1 (ints fs)), .pvar 10 0, .d (.int .i64 (0 : Nat)), .dead, .dead, .dead, .dead, .dead, .dead, .dead, .dead, .dead, .dead, .dead, .dead, .dead, .dead, .dead, .dead, .dead, .dead, .dead, .dead, .dead, .dead, .dead, .dead, .dead, .dead, .dead, .dead, .dead, .dead, .dead, .dead, .dead, .dead, .dead, .dead, .dead, .dead, .dead, .dead, .dead, .dead, .dead, .dead, .dead, .dead, .dead, .dead, .dead, .dead, .dead, .dead, .dead, .dead, .dead, .dead, .dead, .dead, .dead, .dead, .dead, .dead, .dead]) (by simp [fgt]) (WK.now ⟨0, by omega, by omega, rfl, rfl, rfl⟩)) ?_
      rintro k t H ds ⟨m, rfl, hm, rfl, rfl, rfl⟩
      simp only [Hs, H17, PV, hvl_len, push_cast, simprocAttr, pods_length, nds_length, fP, pL]
      refine Kbr.mk (fun d => ?_) (fun d => ?_)
      · have c2 : m < p.2.length := by simpa using d
        have c3 : m < (hvl p.2 m).length := by rw [hvl_len]; exact c2
        have si := succ64 c2 (show p.2.length ≤ 4611686018427387904 by unfold Sz at hsz; omega)
        have hq : IntKind.wrap .i64 (((hvl p.2 m).getD m 0).tdiv 2) = hv2 ((hvl p.2 m).getD m 0) := rfl
        have hu : updN (ints (hvl p.2 m)) m 0 [.int .i64 (hv2 ((hvl p.2 m).getD m 0))] = ints (hvl p.2 (m + 1)) := upd_ints c3
        simp only [push_cast, simprocAttr, pods_length, nds_length, fP, pL]
        refine DRegL.det [10] [0, 1, 2, 3, 4, 5, 6, 7, 8, 9] [(10, [], [])] (by kernel_rfl) (by kernel_rfl) (by kernel_rfl) ?_
        simp only [hvl_len, c2, c3, cel_ints, hq, hu, si, push_cast, simprocAttr, pods_length, nds_length, fP, pL]
        exact ⟨p.2.length - (m + 1), by omega, WK.fgt (t' := [.dead, .dead, .dead, .dead, .dead, .pvar 0 0, .dead, .pvar 8 0, .dead, .d (.slice 1 (ints fs)), .pvar 10 0, .d (.int .i64 (m + 1 : Nat)), .dead, .dead, .dead, .dead, .dead, .dead, .dead, .dead, .dead, .dead, .dead, .dead, .dead, .dead, .dead, .dead, .dead, .dead, .dead, .dead, .dead, .dead, .dead, .dead, .dead, .dead, .dead, .dead, .dead, .dead, .dead, .dead, .dead, .dead, .dead, .dead, .dead, .dead, .dead, .dead, .dead, .dead, .dead, .dead, .dead, .dead, .dead, .dead, .dead, .dead, .dead, .dead, .dead, .dead, .dead, .dead, .dead, .dead, .dead, .dead, .dead, .dead, .dead]) (by simp [fgt]) (WK.now ⟨m + 1, rfl, by omega, rfl, rfl, rfl⟩)⟩
      · have c2 : m = p.2.length := by have : ¬ m < p.2.length := by simpa using d
                                       omega
        subst c2
        simp only [push_cast, simprocAttr, pods_length, nds_length, fP, pL]
        refine ACalls.told (Wk.freeze 11 rfl) (by simp) ?_
        simp only [push_cast, simprocAttr, pods_length, nds_length, fP, pL]
        refine ACalls.lowA ?_
        simp only [AV.lowA, push_cast, simprocAttr, pods_length, nds_length, fP, pL]
        refine h2.at [1, 2, 3, 4, 5, 6, 7, 8] (by simp [hvP, PV, Tb, Ps, Psn, Ns, Cs, Csn, fP, pL, fE, errD, errF, pgetD, nodeD, sl, pods_length, nds_length, plcs_length, sbl, ren_none, ren_var, ren_arr, ren_map, ren_mapb, ren_iter, ren_loop, ren_defr, bel_none, bel_var, bel_arr, bel_map, bel_mapb, bel_iter, bel_loop, bel_defr, AV.renL, AV.ren, AV.belL, AV.bel, rn]) (by simp) (by simp [hvP, PV, Tb, Ps, Psn, Ns, Cs, Csn, fP, pL, fE, errD, errF, pgetD, nodeD, sl, pods_length, nds_length, plcs_length]) (by simp [hvP, PV, Tb, Ps, Psn, Ns, Cs, Csn, fP, pL, fE, errD, errF, pgetD, nodeD, sl, pods_length, nds_length, plcs_length, AV.ren, AV.renL, rn]) (by simp [AV.belL, AV.bel]) (WK.now ?_)
        simp only [Cs, push_cast, simprocAttr, pods_length, nds_length, fP, pL]
        refine ALoop.mk (fun k t H ds => ∃ i : Nat, k = fs.length - i ∧ i ≤ fs.length ∧ t = [.dead, .dead, .dead, .dead, .dead, .dead, .dead, .dead, .dead, .d (.slice 1 (ints fs)), .dead, .dead, .d (.slice 1 (ints gs)), .d (.int .i64 (i : Nat)), .dead, .dead, .dead, .dead, .dead, .dead, .dead, .dead, .dead, .dead, .dead, .dead, .dead, .dead, .dead, .dead, .dead, .dead, .dead, .dead, .dead, .dead, .dead, .dead, .dead, .dead, .dead, .dead, .dead, .dead, .dead, .dead, .dead, .dead, .dead, .dead, .dead, .dead, .dead, .dead, .dead, .dead, .dead, .dead, .dead, .dead, .dead, .dead, .dead, .dead, .dead, .dead, .dead, .dead, .dead, .dead, .dead, .dead, .dead, .dead, .dead] ∧ H = [] ∧ ds = []) fs.length
          (WK.pick [] (t' := [.dead, .dead, .dead, .dead, .dead, .dead, .dead, .dead, .dead, .d (.slice 1 (ints fs)), .dead, .dead, .d (.slice 1 (ints gs)), .d (.int .i64 (0 : Nat)), .dead, .dead, .dead, .dead, .dead, .dead, .dead, .dead, .dead, .dead, .dead, .dead, .dead, .dead, .dead, .dead, .dead, .dead, .dead, .dead, .dead, .dead, .dead, .dead, .dead, .dead, .dead, .dead, .dead, .dead, .dead, .dead, .dead, .dead, .dead, .dead, .dead, .dead, .dead, .dead, .dead, .dead, .dead, .dead, .dead, .dead, .dead, .dead, .dead, .dead, .dead, .dead, .dead, .dead, .dead, .dead, .dead, .dead, .dead, .dead, .dead]) (H' := []) trivial (by simp) (by simp) (by simp [tellL, AV.ren, AV.renL, AV.bel, AV.belL, rn]) (by decide) (WK.now ⟨0, by omega, by omega, rfl, rfl, rfl⟩)) ?_
        rintro k t H ds ⟨i, rfl, hi, rfl, rfl, rfl⟩
        simp only [push_cast, simprocAttr, pods_length, nds_length, fP, pL]
        refine Kbr.mk (fun d => ?_) (fun d => ?_)
        · have c2 : i < fs.length := by simpa using d
          have si := succ64 c2 (show fs.length ≤ 4611686018427387904 by omega)
          simp only [c2, cel_ints, push_cast, simprocAttr, pods_length, nds_length, fP, pL]
          refine (contains_ok' gs (fs.getD i 0) (by omega)).go (by first | exact ⟨.inl rfl, trivial⟩ | exact ⟨.inl rfl, .inl rfl, trivial⟩ | exact ⟨.inl rfl, .inl rfl, .inl rfl, trivial⟩ | simp [argsOk, argOk, sl, sll]) (WK.now ?_)
          simp only [decide_eq_true (hsub i c2), si, push_cast, simprocAttr, pods_length, nds_length, fP, pL]
          exact ⟨fs.length - (i + 1), by omega, WK.fgt (t' := [.dead, .dead, .dead, .dead, .dead, .dead, .dead, .dead, .dead, .d (.slice 1 (ints fs)), .dead, .dead, .d (.slice 1 (ints gs)), .d (.int .i64 (i + 1 : Nat)), .dead, .dead, .dead, .dead, .dead, .dead, .dead, .dead, .dead, .dead, .dead, .dead, .dead, .dead, .dead, .dead, .dead, .dead, .dead, .dead, .dead, .dead, .dead, .dead, .dead, .dead, .dead, .dead, .dead, .dead, .dead, .dead, .dead, .dead, .dead, .dead, .dead, .dead, .dead, .dead, .dead, .dead, .dead, .dead, .dead, .dead, .dead, .dead, .dead, .dead, .dead, .dead, .dead, .dead, .dead, .dead, .dead, .dead, .dead, .dead, .dead]) (by simp [fgt, ints_length, intss_length]) (WK.now ⟨i + 1, rfl, by omega, rfl, rfl, rfl⟩)⟩
        · simp only [push_cast, simprocAttr, pods_length, nds_length, fP, pL]
          refine WK.now ?_
          simp only [push_cast, simprocAttr, pods_length, nds_length, fP, pL]
end Go.Proofs.YtcmhdpbmcgglmaaGreatDoor
end
