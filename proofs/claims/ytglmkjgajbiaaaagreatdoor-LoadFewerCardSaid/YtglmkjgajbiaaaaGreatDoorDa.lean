/-
  LoadFewer, walked.
-/
import Derived.Test.YtglmkjgajbiaaaaGreatDoorD8
section
set_option autoImplicit false
set_option linter.unusedVariables false
set_option linter.unusedSimpArgs false
namespace Go.Proofs.YtglmkjgajbiaaaaGreatDoor
open Go.Abs
def hfv (v : List Int) (m : Nat) : List Int := [if 0 < m then v.getD 0 0 / 2 else v.getD 0 0, if 1 < m then v.getD 1 0 / 2 else v.getD 1 0]
theorem hfv_zero {v : List Int} (h : GoodV v) : hfv v 0 = v := by
  conv => rhs; rw [h.two]
  rfl
theorem hfv_good {v : List Int} (h : GoodV v) (m : Nat) : GoodV (hfv v m) ∧ ∀ k, (hfv v m).getD k 0 ≤ v.getD k 0 := by
  have a := h.at 0
  have b := h.at 1
  refine ⟨⟨rfl, fun x hx => ?_⟩, fun k => ?_⟩
  · unfold hfv at hx
    simp only [List.mem_cons, List.not_mem_nil, or_false] at hx
    rcases hx with rfl | rfl
    · split <;> omega
    · split <;> omega
  · unfold hfv
    match k with
    | 0 => show (if 0 < m then _ else _) ≤ _; split <;> omega
    | 1 => show (if 1 < m then _ else _) ≤ _; split <;> omega
    | k + 2 => exact (h.at (k + 2)).1
theorem ints_snoc (l : List Int) (x : Int) : ints l ++ [[D.int .i64 x]] = ints (l ++ [x]) := by simp [ints]
theorem hfv_step0 (v : List Int) : updN (ints (hfv v 0)) 0 0 [.int .i64 (v.getD 0 0 / 2)] = ints (hfv v 1) := by simp [hfv, ints, updN, splice]
theorem hfv_step1 (v : List Int) : updN (ints (hfv v 1)) 1 0 [.int .i64 (v.getD 1 0 / 2)] = ints (hfv v 2) := by simp [hfv, ints, updN, splice]
theorem half_wrap {x : Int} (h0 : 0 ≤ x) (h1 : x ≤ 1099511627776) : IntKind.wrap .i64 (x.tdiv 2) = x / 2 := by
  rw [Int.tdiv_eq_ediv_of_nonneg h0, wrapi (by omega) (by omega)]
def halfP (p : Pod) (m : Nat) : Pod := (p.1, hfv p.2 m)
def Hh (c : Cl) (w : Rc) (p : Pod) (m : Nat) : List AObj := [PV p, .map (entE fP c.L), .var [.d (.int .i64 65536), .mapo 1], .var [.pvar 2 0, .sfull 4], .arr 3 1 (ints c.ids),
  .map (entE fE c.N), .var [.d (.int .i64 1024), .mapo 5], .var [.d (.int .i64 c.d), .pvar 6 0], .var [.pvar 3 0, .pvar 7 0],
  .var [.d (.int .i64 w.d), .d (.slice 2 (nds w.nodes)), .d (.slice 9 (pods w.pods))],
  .var [.d (.int .i64 p.1.id), .d (.int .i64 p.1.pr), .d (.bool p.1.pre), .d (.int .i64 p.1.gr), .sfull 11, .d (.int .i64 p.1.ar), .d (.int .i64 p.1.ph), .d (.int .i64 p.1.nd), .d (.int .i64 p.1.dl)],
  .arr 2 1 (ints (hfv p.2 m))]
set_option maxRecDepth 8000 in
set_option maxHeartbeats 1000000 in
theorem loadFewer_ok (nodes : List (Int × List Int)) (ps : List Plc) (p : Pod) (n : Int) (wo : List Int) (more : Int) : PCall env 8 [.slice 2 (nds nodes), .slice 11 (plcs ps), fP p, .int .i64 n, .slice 1 (ints wo), .int .i64 more] (.bool true) := by
  refine acalls_of envOk Tryz.func8 rfl (by kernel_rfl) (m := 85) rfl ?_
  simp only [push_cast, simprocAttr, pods_length, nds_length, fP, pL]
  refine (build_ok nodes ps).atK [] (by simp [halfP, PV, Tb, Ps, Psn, Ns, Cs, Csn, fP, pL, fE, errD, errF, pgetD, nodeD, sl, pods_length, nds_length, plcs_length, sbl, ren_none, ren_var, ren_arr, ren_map, ren_mapb, ren_iter, ren_loop, ren_defr, bel_none, bel_var, bel_arr, bel_map, bel_mapb, bel_iter, bel_loop, bel_defr, AV.renL, AV.ren, AV.belL, AV.bel, rn]) (by simp) (by simp [halfP, PV, Tb, Ps, Psn, Ns, Cs, Csn, fP, pL, fE, errD, errF, pgetD, nodeD, sl, pods_length, nds_length, plcs_length]) (by simp [halfP, PV, Tb, Ps, Psn, Ns, Cs, Csn, fP, pL, fE, errD, errF, pgetD, nodeD, sl, pods_length, nds_length, plcs_length, AV.ren, AV.renL, rn]) (by simp [AV.belL, AV.bel]) ?_
  rintro r H' (⟨x, y, z, rfl, rfl⟩ | ⟨c, w, rfl, rfl, h, hnl, hpl⟩)
  · refine WK.now ?_
    simp only [push_cast, simprocAttr, pods_length, nds_length, fP, pL]
    refine awake16_ok.go ⟨⟩ (WK.now ?_)
    simp only [push_cast, simprocAttr, pods_length, nds_length, fP, pL]
    refine awake16_ok.go ⟨⟩ (WK.now ?_)
    simp only [push_cast, simprocAttr, pods_length, nds_length, fP, pL]
    refine WK.now ?_
    simp only [push_cast, simprocAttr, pods_length, nds_length, fP, pL]
  · refine WK.now ?_
    simp only [Cs, fRc, push_cast, simprocAttr, pods_length, nds_length, fP, pL]
    refine awake16_ok.go ⟨⟩ (WK.now ?_)
    simp only [one_pod, push_cast, simprocAttr, pods_length, nds_length, fP, pL]
    refine (few_ok [p] (by simp)).go (by first | exact ⟨.inl rfl, trivial⟩ | exact ⟨.inl rfl, .inl rfl, trivial⟩ | exact ⟨.inl rfl, .inl rfl, .inl rfl, trivial⟩ | simp [argsOk, argOk, sl, sll]) (WK.now ?_)
    cases hf : B (FewP [p]) with
    | false =>
      simp only [push_cast, simprocAttr, pods_length, nds_length, fP, pL]
      refine awake16_ok.go ⟨⟩ (WK.now ?_)
      simp only [push_cast, simprocAttr, pods_length, nds_length, fP, pL]
      refine WK.now ?_
      simp only [push_cast, simprocAttr, pods_length, nds_length, fP, pL]
    | true =>
      have hp := (fewP_one p).1 (B_iff.1 hf)
      by_cases hw : (wo.length : Int) > 100
      · simp only [decide_eq_true hw, push_cast, simprocAttr, pods_length, nds_length, fP, pL]
        refine awake16_ok.go ⟨⟩ (WK.now ?_)
        simp only [push_cast, simprocAttr, pods_length, nds_length, fP, pL]
        refine WK.now ?_
        simp only [push_cast, simprocAttr, pods_length, nds_length, fP, pL]
      · have hsz : Sz p.2 := by have := hp.2.2; unfold Sz; omega
        have hld := h.ld p n wo (by omega)
        simp only [decide_eq_false hw, push_cast, simprocAttr, pods_length, nds_length, fP, pL]
        refine (fits_ok' hld hsz).at [1, 2, 3, 4, 5, 6, 7, 8] (by simp [halfP, PV, Tb, Ps, Psn, Ns, Cs, Csn, fP, pL, fE, errD, errF, pgetD, nodeD, sl, pods_length, nds_length, plcs_length, sbl, ren_none, ren_var, ren_arr, ren_map, ren_mapb, ren_iter, ren_loop, ren_defr, bel_none, bel_var, bel_arr, bel_map, bel_mapb, bel_iter, bel_loop, bel_defr, AV.renL, AV.ren, AV.belL, AV.bel, rn]) (by simp) (by simp [halfP, PV, Tb, Ps, Psn, Ns, Cs, Csn, fP, pL, fE, errD, errF, pgetD, nodeD, sl, pods_length, nds_length, plcs_length]) (by simp [halfP, PV, Tb, Ps, Psn, Ns, Cs, Csn, fP, pL, fE, errD, errF, pgetD, nodeD, sl, pods_length, nds_length, plcs_length, AV.ren, AV.renL, rn]) (by simp [AV.belL, AV.bel]) (WK.now ?_)
        cases hfp : fitB (totS c p n (loadV w p n wo)) with
        | false =>
          simp only [Cs, push_cast, simprocAttr, pods_length, nds_length, fP, pL]
          refine awake16_ok.go ⟨⟩ (WK.now ?_)
          simp only [push_cast, simprocAttr, pods_length, nds_length, fP, pL]
          refine WK.now ?_
          simp only [push_cast, simprocAttr, pods_length, nds_length, fP, pL]
        | true =>
          have hg : GoodV p.2 := by
            rw [h.tot] at hfp
            cases hn : findN w.nodes n with
            | none => rw [hn] at hfp; cases hfp
            | some m =>
              rw [hn] at hfp
              dsimp only at hfp
              by_cases hw : 0 ≤ wrongS p.2 2
              · rw [if_pos hw] at hfp; cases hfp
              · exact goodV_of hw
          have f1 := fit_mono h (q := p) (load_mono (p := p) (q := p) (n := n) (wo := wo) (wo' := wo ++ [more]) h.gp (fun _ h => h) (fun id h => List.mem_append_left _ h)) (fun hg => ⟨hg, fun k => Int.le_refl _⟩) hfp
          have hle2 := load_mono (p := p) (q := halfP p 2) (n := n) (wo := wo) (wo' := wo) h.gp (fun _ h => h) (fun id h => h)
          have f2 := fit_mono h (q := halfP p 2) hle2 (fun hg => hfv_good hg 2) hfp
          have hld1 := h.ld p n (wo ++ [more]) (by simp; omega)
          have hld2 := h.ld (halfP p 2) n wo (by omega)
          have l0 := hg.at 0
          have l1 := hg.at 1
          simp only [Cs, push_cast, simprocAttr, pods_length, nds_length, fP, pL]
          refine ⟨.inr trivial, room_of (by have := hg.1; omega) (by omega), ?_⟩
          refine ALoop.mk (fun k t H ds => ∃ m : Nat, k = 2 - m ∧ m ≤ 2 ∧ t = [.dead, .dead, .dead, .d (.int .i64 n), .d (.slice 1 (ints wo)), .d (.int .i64 more), .dead, .dead, .pvar 0 0, .dead, .dead, .dead, .d (.bool false), .pvar 8 0, .dead, .pvar 10 0, .d (.int .i64 (m : Nat)), .dead, .dead, .dead, .dead, .dead, .dead, .dead, .dead, .dead, .dead, .dead, .dead, .dead, .dead, .dead, .dead, .dead, .dead, .dead, .dead, .dead, .dead, .dead, .dead, .dead, .dead, .dead, .dead, .dead, .dead, .dead, .dead, .dead, .dead, .dead, .dead, .dead, .dead, .dead, .dead, .dead, .dead, .dead, .dead, .dead, .dead, .dead, .dead, .dead, .dead, .dead, .dead, .dead, .dead, .dead, .dead, .dead, .dead, .dead, .dead, .dead, .dead, .dead, .dead, .dead, .dead, .dead, .dead, .dead, .dead, .dead, .dead, .dead, .dead] ∧ H = Hh c w p m ∧ ds = []) 2
            (WK.fgt (t' := [.dead, .dead, .dead, .d (.int .i64 n), .d (.slice 1 (ints wo)), .d (.int .i64 more), .dead, .dead, .pvar 0 0, .dead, .dead, .dead, .d (.bool false), .pvar 8 0, .dead, .pvar 10 0, .d (.int .i64 (0 : Nat)), .dead, .dead, .dead, .dead, .dead, .dead, .dead, .dead, .dead, .dead, .dead, .dead, .dead, .dead, .dead, .dead, .dead, .dead, .dead, .dead, .dead, .dead, .dead, .dead, .dead, .dead, .dead, .dead, .dead, .dead, .dead, .dead, .dead, .dead, .dead, .dead, .dead, .dead, .dead, .dead, .dead, .dead, .dead, .dead, .dead, .dead, .dead, .dead, .dead, .dead, .dead, .dead, .dead, .dead, .dead, .dead, .dead, .dead, .dead, .dead, .dead, .dead, .dead, .dead, .dead, .dead, .dead, .dead, .dead, .dead, .dead, .dead, .dead, .dead]) (by simp [fgt]) (WK.now ⟨0, by omega, by omega, rfl, by simp [Hh, PV, pL, hfv_zero hg], rfl⟩)) ?_
          rintro k t H ds ⟨m, rfl, hm, rfl, rfl, rfl⟩
          have h3 : m = 0 ∨ m = 1 ∨ m = 2 := by omega
          have hl2 : (hfv p.2 m).length = 2 := rfl
          rcases h3 with rfl | rfl | rfl
          · have hx : IntKind.wrap .i64 (((hfv p.2 0).getD 0 0).tdiv 2) = p.2.getD 0 0 / 2 := half_wrap (x := p.2.getD 0 0) l0.1 l0.2
            have w1 : IntKind.wrap .i64 1 = ((1 : Nat) : Int) := rfl
            simp only [Hh, PV, hl2, push_cast, simprocAttr, pods_length, nds_length, fP, pL]
            refine DRegL.det [10] [0, 1, 2, 3, 4, 5, 6, 7, 8, 9] [(10, [], [])] (by kernel_rfl) (by kernel_rfl) (by kernel_rfl) ?_
            simp only [hl2, cel_ints, hx, w1, hfv_step0, push_cast, simprocAttr, pods_length, nds_length, fP, pL]
            exact ⟨1, by omega, WK.fgt (t' := [.dead, .dead, .dead, .d (.int .i64 n), .d (.slice 1 (ints wo)), .d (.int .i64 more), .dead, .dead, .pvar 0 0, .dead, .dead, .dead, .d (.bool false), .pvar 8 0, .dead, .pvar 10 0, .d (.int .i64 (1 : Nat)), .dead, .dead, .dead, .dead, .dead, .dead, .dead, .dead, .dead, .dead, .dead, .dead, .dead, .dead, .dead, .dead, .dead, .dead, .dead, .dead, .dead, .dead, .dead, .dead, .dead, .dead, .dead, .dead, .dead, .dead, .dead, .dead, .dead, .dead, .dead, .dead, .dead, .dead, .dead, .dead, .dead, .dead, .dead, .dead, .dead, .dead, .dead, .dead, .dead, .dead, .dead, .dead, .dead, .dead, .dead, .dead, .dead, .dead, .dead, .dead, .dead, .dead, .dead, .dead, .dead, .dead, .dead, .dead, .dead, .dead, .dead, .dead, .dead, .dead]) (by simp [fgt]) (WK.now ⟨1, by omega, by omega, rfl, rfl, rfl⟩)⟩
          · have hx : IntKind.wrap .i64 (((hfv p.2 1).getD 1 0).tdiv 2) = p.2.getD 1 0 / 2 := half_wrap (x := p.2.getD 1 0) l1.1 l1.2
            have w1 : IntKind.wrap .i64 2 = ((2 : Nat) : Int) := rfl
            simp only [Hh, PV, hl2, push_cast, simprocAttr, pods_length, nds_length, fP, pL]
            refine DRegL.det [10] [0, 1, 2, 3, 4, 5, 6, 7, 8, 9] [(10, [], [])] (by kernel_rfl) (by kernel_rfl) (by kernel_rfl) ?_
            simp only [hl2, cel_ints, hx, w1, hfv_step1, push_cast, simprocAttr, pods_length, nds_length, fP, pL]
            exact ⟨0, by omega, WK.fgt (t' := [.dead, .dead, .dead, .d (.int .i64 n), .d (.slice 1 (ints wo)), .d (.int .i64 more), .dead, .dead, .pvar 0 0, .dead, .dead, .dead, .d (.bool false), .pvar 8 0, .dead, .pvar 10 0, .d (.int .i64 (2 : Nat)), .dead, .dead, .dead, .dead, .dead, .dead, .dead, .dead, .dead, .dead, .dead, .dead, .dead, .dead, .dead, .dead, .dead, .dead, .dead, .dead, .dead, .dead, .dead, .dead, .dead, .dead, .dead, .dead, .dead, .dead, .dead, .dead, .dead, .dead, .dead, .dead, .dead, .dead, .dead, .dead, .dead, .dead, .dead, .dead, .dead, .dead, .dead, .dead, .dead, .dead, .dead, .dead, .dead, .dead, .dead, .dead, .dead, .dead, .dead, .dead, .dead, .dead, .dead, .dead, .dead, .dead, .dead, .dead, .dead, .dead, .dead, .dead, .dead, .dead]) (by simp [fgt]) (WK.now ⟨2, by omega, by omega, rfl, rfl, rfl⟩)⟩
          · simp only [Hh, PV, hl2, ints_snoc, push_cast, simprocAttr, pods_length, nds_length, fP, pL]
            refine ⟨.inr trivial, room_of (by omega) (by omega), room_of (by omega) (by omega), ?_⟩
            refine ACalls.told (Wk.freeze 13 rfl) (by simp) ?_
            simp only [push_cast, simprocAttr, pods_length, nds_length, fP, pL]
            refine (fits_ok' hld1 hsz).at [1, 2, 3, 4, 5, 6, 7, 8] (by simp [halfP, PV, Tb, Ps, Psn, Ns, Cs, Csn, fP, pL, fE, errD, errF, pgetD, nodeD, sl, pods_length, nds_length, plcs_length, sbl, ren_none, ren_var, ren_arr, ren_map, ren_mapb, ren_iter, ren_loop, ren_defr, bel_none, bel_var, bel_arr, bel_map, bel_mapb, bel_iter, bel_loop, bel_defr, AV.renL, AV.ren, AV.belL, AV.bel, rn]) (by simp) (by simp [halfP, PV, Tb, Ps, Psn, Ns, Cs, Csn, fP, pL, fE, errD, errF, pgetD, nodeD, sl, pods_length, nds_length, plcs_length]) (by simp [halfP, PV, Tb, Ps, Psn, Ns, Cs, Csn, fP, pL, fE, errD, errF, pgetD, nodeD, sl, pods_length, nds_length, plcs_length, AV.ren, AV.renL, rn]) (by simp [AV.belL, AV.bel]) (WK.now ?_)
            simp only [Cs, f1, push_cast, simprocAttr, pods_length, nds_length, fP, pL]
            refine ACalls.told (Wk.freeze 11 rfl) (by simp) ?_
            simp only [push_cast, simprocAttr, pods_length, nds_length, fP, pL]
            refine ACalls.lowA ?_
            simp only [AV.lowA, push_cast, simprocAttr, pods_length, nds_length, fP, pL]
            refine (fits_ok' hld2 (by unfold Sz halfP hfv; simp)).at [1, 2, 3, 4, 5, 6, 7, 8] (by simp [halfP, PV, Tb, Ps, Psn, Ns, Cs, Csn, fP, pL, fE, errD, errF, pgetD, nodeD, sl, pods_length, nds_length, plcs_length, sbl, ren_none, ren_var, ren_arr, ren_map, ren_mapb, ren_iter, ren_loop, ren_defr, bel_none, bel_var, bel_arr, bel_map, bel_mapb, bel_iter, bel_loop, bel_defr, AV.renL, AV.ren, AV.belL, AV.bel, rn]) (by simp) (by simp [halfP, PV, Tb, Ps, Psn, Ns, Cs, Csn, fP, pL, fE, errD, errF, pgetD, nodeD, sl, pods_length, nds_length, plcs_length]) (by simp [halfP, PV, Tb, Ps, Psn, Ns, Cs, Csn, fP, pL, fE, errD, errF, pgetD, nodeD, sl, pods_length, nds_length, plcs_length, AV.ren, AV.renL, rn]) (by simp [AV.belL, AV.bel]) (WK.now ?_)
            simp only [Cs, f2, push_cast, simprocAttr, pods_length, nds_length, fP, pL]
            refine WK.now ?_
            simp only [push_cast, simprocAttr, pods_length, nds_length, fP, pL]
end Go.Proofs.YtglmkjgajbiaaaaGreatDoor
end
