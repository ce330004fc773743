/-
  LoadShort, walked.
-/
import Derived.Test.YtglmkjgajbiaaaaGreatDoorD8
section
set_option autoImplicit false
set_option linter.unusedVariables false
set_option linter.unusedSimpArgs false
namespace Go.Proofs.YtglmkjgajbiaaaaGreatDoor
open Go.Abs
def shV (s cap : List Int) : List Int := List.zipWith (fun x y => max x y - y) s cap
theorem shV_get {s cap : List Int} (h1 : s.length = 2) (h2 : cap.length = 2) {k : Nat} (hk : k < 2) : (shV s cap).getD k 0 = max 0 (s.getD k 0 - cap.getD k 0) := by
  have e1 : s[k]? = some s[k] := List.getElem?_eq_getElem (by omega)
  have e2 : cap[k]? = some cap[k] := List.getElem?_eq_getElem (by omega)
  unfold shV
  simp only [List.getD_eq_getElem?_getD, List.getElem?_zipWith, e1, e2, Option.getD_some]
  omega
theorem short_fit {s cap : List Int} (h1 : s.length = 2) (h2 : cap.length = 2) : B (FitsP s cap) = (decide ((shV s cap).getD 0 0 = 0) && decide ((shV s cap).getD 1 0 = 0)) := by
  rw [shV_get h1 h2 (by omega), shV_get h1 h2 (by omega)]
  by_cases h : FitsP s cap
  · have a := h.2 0 (by omega)
    have b := h.2 1 (by omega)
    rw [B_true h, decide_eq_true (by omega), decide_eq_true (by omega)]
    rfl
  · rw [B_false h]
    symm
    rw [Bool.and_eq_false_iff, decide_eq_false_iff_not, decide_eq_false_iff_not]
    by_cases a : s.getD 0 0 ≤ cap.getD 0 0
    · right
      intro hb
      refine h ⟨by omega, fun k hk => ?_⟩
      have hk2 : k = 0 ∨ k = 1 := by omega
      rcases hk2 with rfl | rfl
      · exact a
      · omega
    · left; omega
def Hq (c : Cl) (w : Rc) (p : Pod) : List AObj := [PV p, .map (entE fP c.L), .var [.d (.int .i64 65536), .mapo 1], .var [.pvar 2 0, .sfull 4], .arr 3 1 (ints c.ids),
  .map (entE fE c.N), .var [.d (.int .i64 1024), .mapo 5], .var [.d (.int .i64 c.d), .pvar 6 0], .var [.pvar 3 0, .pvar 7 0],
  .var [.d (.int .i64 w.d), .d (.slice 2 (nds w.nodes)), .d (.slice 9 (pods w.pods))]]
set_option maxRecDepth 8000 in
set_option maxHeartbeats 2000000 in
theorem loadShort_ok (nodes : List (Int × List Int)) (ps : List Plc) (p : Pod) (n : Int) : PCall env 7 [.slice 2 (nds nodes), .slice 11 (plcs ps), fP p, .int .i64 n] (.bool true) := by
  refine acalls_of envOk Tryz.func7 rfl (by kernel_rfl) (m := 144) rfl ?_
  simp only [push_cast, simprocAttr, pods_length, nds_length, fP, pL]
  refine (build_ok nodes ps).atK [] (by simp [PV, Tb, Ps, Psn, Ns, Cs, Csn, fP, pL, fE, errD, errF, pgetD, nodeD, sl, pods_length, nds_length, plcs_length, sbl, ren_none, ren_var, ren_arr, ren_map, ren_mapb, ren_iter, ren_loop, ren_defr, bel_none, bel_var, bel_arr, bel_map, bel_mapb, bel_iter, bel_loop, bel_defr, AV.renL, AV.ren, AV.belL, AV.bel, rn]) (by simp) (by simp [PV, Tb, Ps, Psn, Ns, Cs, Csn, fP, pL, fE, errD, errF, pgetD, nodeD, sl, pods_length, nds_length, plcs_length]) (by simp [PV, Tb, Ps, Psn, Ns, Cs, Csn, fP, pL, fE, errD, errF, pgetD, nodeD, sl, pods_length, nds_length, plcs_length, AV.ren, AV.renL, rn]) (by simp [AV.belL, AV.bel]) ?_
  rintro r H' (⟨x, y, z, rfl, rfl⟩ | ⟨c, w, rfl, rfl, h, hnl, hpl⟩)
  · refine WK.now ?_
    simp only [push_cast, simprocAttr, pods_length, nds_length, fP, pL]
    refine awake16_ok.go ⟨⟩ (WK.now ?_)
    simp only [push_cast, simprocAttr, pods_length, nds_length, fP, pL]
    refine awake16_ok.go ⟨⟩ (WK.now ?_)
    simp only [push_cast, simprocAttr, pods_length, nds_length, fP, pL]
    refine WK.now ?_
    simp only [push_cast, simprocAttr, pods_length, nds_length, fP, pL]
  · refine WK.now ?_
    simp only [Cs, fRc, push_cast, simprocAttr, pods_length, nds_length, fP, pL]
    refine awake16_ok.go ⟨⟩ (WK.now ?_)
    simp only [one_pod, push_cast, simprocAttr, pods_length, nds_length, fP, pL]
    refine (few_ok [p] (by simp)).go (by first | exact ⟨.inl rfl, trivial⟩ | exact ⟨.inl rfl, .inl rfl, trivial⟩ | exact ⟨.inl rfl, .inl rfl, .inl rfl, trivial⟩ | simp [argsOk, argOk, sl, sll]) (WK.now ?_)
    cases hf : B (FewP [p]) with
    | false =>
      simp only [push_cast, simprocAttr, pods_length, nds_length, fP, pL]
      refine awake16_ok.go ⟨⟩ (WK.now ?_)
      simp only [push_cast, simprocAttr, pods_length, nds_length, fP, pL]
      refine WK.now ?_
      simp only [push_cast, simprocAttr, pods_length, nds_length, fP, pL]
    | true =>
      have hp := (fewP_one p).1 (B_iff.1 hf)
      have hsz : Sz p.2 := by have := hp.2.2; unfold Sz; omega
      have hld := h.ld p n [] (by decide)
      have hfind := find14_ok w n h.okR.nn
      have hof := rof16_ok w p n [] h.okR (by omega) (by decide)
      have htot := h.tot p n []
      have hinr := load_inR h p n []
      have hbd := load_bd h p n []
      have hgN := h.getN n
      have hfc := fits_nil hld hsz
      have hd := h.okR.d
      have hsht := short_ok hld hsz (fun s cap he => by
        rw [htot] at he
        cases hn : findN w.nodes n with
        | none => rw [hn] at he; cases he
        | some m =>
          rw [hn] at he
          dsimp only at he
          by_cases hw : 0 ≤ wrongS p.2 2
          · rw [if_pos hw] at he; cases he
          · rw [if_neg hw] at he
            have e' := Option.some.inj he
            have e1 : some (List.zipWith (· + ·) (loadV w p n []) p.2) = some s := congrArg Prod.fst e'
            have e2 : m.2 = cap := congrArg Prod.snd e'
            have hgm := h.gn m (findN_some hn).1
            rw [← Option.some.inj e1, ← e2]
            exact ⟨by simp [load_len, (goodV_of hw).1, hgm.1], fun x hx => (hgm.2 x hx).1⟩)
      have hleft := left_ok (c := c) (p := p) (n := n) (lv := loadV w p n []) (fun _ => hld) h.ok
      unfold fRc at hfind hof
      have hlen := load_len w p n []
      obtain ⟨lv, hlv⟩ : ∃ lv, lv = loadV w p n [] := ⟨_, rfl⟩
      rw [← hlv] at hld hof htot hinr hbd hfc hsht hleft hlen
      rw [htot] at hsht hfc
      simp only [push_cast, simprocAttr, pods_length, nds_length, fP, pL]
      refine hfind.go (by first | exact ⟨.inl rfl, trivial⟩ | exact ⟨.inl rfl, .inl rfl, trivial⟩ | exact ⟨.inl rfl, .inl rfl, .inl rfl, trivial⟩ | simp [argsOk, argOk, sl, sll]) (WK.now ?_)
      rcases findN_idx w.nodes n with ⟨hn, hx⟩ | ⟨j, hj, hjl, hn⟩
      · rw [hn] at hsht hgN
        have hl2 : leftD c n lv = .tup [.nils, .bool false] := by unfold leftD; rw [hgN]; rfl
        rw [hl2] at hleft
        simp only [hx, show decide ((-1 : Int) < 0) = true from rfl, push_cast, simprocAttr, pods_length, nds_length, fP, pL]
        refine hleft.at [1, 2, 3, 4, 5, 6, 7, 8] (by simp [PV, Tb, Ps, Psn, Ns, Cs, Csn, fP, pL, fE, errD, errF, pgetD, nodeD, sl, pods_length, nds_length, plcs_length, sbl, ren_none, ren_var, ren_arr, ren_map, ren_mapb, ren_iter, ren_loop, ren_defr, bel_none, bel_var, bel_arr, bel_map, bel_mapb, bel_iter, bel_loop, bel_defr, AV.renL, AV.ren, AV.belL, AV.bel, rn]) (by simp) (by simp [PV, Tb, Ps, Psn, Ns, Cs, Csn, fP, pL, fE, errD, errF, pgetD, nodeD, sl, pods_length, nds_length, plcs_length]) (by simp [PV, Tb, Ps, Psn, Ns, Cs, Csn, fP, pL, fE, errD, errF, pgetD, nodeD, sl, pods_length, nds_length, plcs_length, AV.ren, AV.renL, rn]) (by simp [AV.belL, AV.bel]) (WK.now ?_)
        simp only [Cs, push_cast, simprocAttr, pods_length, nds_length, fP, pL]
        refine hsht.at [1, 2, 3, 4, 5, 6, 7, 8] (by simp [PV, Tb, Ps, Psn, Ns, Cs, Csn, fP, pL, fE, errD, errF, pgetD, nodeD, sl, pods_length, nds_length, plcs_length, sbl, ren_none, ren_var, ren_arr, ren_map, ren_mapb, ren_iter, ren_loop, ren_defr, bel_none, bel_var, bel_arr, bel_map, bel_mapb, bel_iter, bel_loop, bel_defr, AV.renL, AV.ren, AV.belL, AV.bel, rn]) (by simp) (by simp [PV, Tb, Ps, Psn, Ns, Cs, Csn, fP, pL, fE, errD, errF, pgetD, nodeD, sl, pods_length, nds_length, plcs_length]) (by simp [PV, Tb, Ps, Psn, Ns, Cs, Csn, fP, pL, fE, errD, errF, pgetD, nodeD, sl, pods_length, nds_length, plcs_length, AV.ren, AV.renL, rn]) (by simp [AV.belL, AV.bel]) (WK.now ?_)
        simp only [Cs, shortD, push_cast, simprocAttr, pods_length, nds_length, fP, pL]
        refine WK.now ?_
        simp only [push_cast, simprocAttr, pods_length, nds_length, fP, pL]
      · have hb : decide ((j : Int) < 0) = false := decide_eq_false (by omega)
        obtain ⟨m, hm⟩ : ∃ m, m = w.nodes.getD j nz := ⟨_, rfl⟩
        rw [← hm] at hn
        rw [hn] at hsht hgN hfc
        have hgm := h.gn m (findN_some hn).1
        have hl2 : leftD c n lv = resS (subS m.2 lv) := by unfold leftD; rw [hgN]; rfl
        rw [hl2] at hleft
        have hrs := rsub_ok m.2 lv hgm.sz hgm.inR hinr
        have hrw := rwrong_ok p.2 2 (by have := hp.2.2; omega)
        dsimp only at hsht hfc
        simp only [hj, hb, push_cast, simprocAttr, pods_length, nds_length, fP, pL]
        refine hleft.at [1, 2, 3, 4, 5, 6, 7, 8] (by simp [PV, Tb, Ps, Psn, Ns, Cs, Csn, fP, pL, fE, errD, errF, pgetD, nodeD, sl, pods_length, nds_length, plcs_length, sbl, ren_none, ren_var, ren_arr, ren_map, ren_mapb, ren_iter, ren_loop, ren_defr, bel_none, bel_var, bel_arr, bel_map, bel_mapb, bel_iter, bel_loop, bel_defr, AV.renL, AV.ren, AV.belL, AV.bel, rn]) (by simp) (by simp [PV, Tb, Ps, Psn, Ns, Cs, Csn, fP, pL, fE, errD, errF, pgetD, nodeD, sl, pods_length, nds_length, plcs_length]) (by simp [PV, Tb, Ps, Psn, Ns, Cs, Csn, fP, pL, fE, errD, errF, pgetD, nodeD, sl, pods_length, nds_length, plcs_length, AV.ren, AV.renL, rn]) (by simp [AV.belL, AV.bel]) (WK.now ?_)
        by_cases hw : 0 ≤ wrongS p.2 2
        · rw [if_pos hw] at hsht
          have hwb : decide (wrongS p.2 2 ≥ 0) = true := decide_eq_true hw
          cases hs : subS m.2 lv with
          | none =>
            rw [hs] at hrs
            simp only [Cs, resS, push_cast, simprocAttr, pods_length, nds_length, fP, pL]
            refine hsht.at [1, 2, 3, 4, 5, 6, 7, 8] (by simp [PV, Tb, Ps, Psn, Ns, Cs, Csn, fP, pL, fE, errD, errF, pgetD, nodeD, sl, pods_length, nds_length, plcs_length, sbl, ren_none, ren_var, ren_arr, ren_map, ren_mapb, ren_iter, ren_loop, ren_defr, bel_none, bel_var, bel_arr, bel_map, bel_mapb, bel_iter, bel_loop, bel_defr, AV.renL, AV.ren, AV.belL, AV.bel, rn]) (by simp) (by simp [PV, Tb, Ps, Psn, Ns, Cs, Csn, fP, pL, fE, errD, errF, pgetD, nodeD, sl, pods_length, nds_length, plcs_length]) (by simp [PV, Tb, Ps, Psn, Ns, Cs, Csn, fP, pL, fE, errD, errF, pgetD, nodeD, sl, pods_length, nds_length, plcs_length, AV.ren, AV.renL, rn]) (by simp [AV.belL, AV.bel]) (WK.now ?_)
            simp only [Cs, shortD, hb, push_cast, simprocAttr, pods_length, nds_length, fP, pL]
            refine DRegL.det [] [0, 1, 2, 3, 4, 5, 6, 7, 8, 9, 10, 11, 12, 13, 14, 15] [] (by kernel_rfl) (by kernel_rfl) (by kernel_rfl) ?_
            simp only [hjl, cel_nds1, ← hm, push_cast, simprocAttr, pods_length, nds_length, fP, pL]
            refine hof.quiet' ⟨.inl rfl, .inl rfl, .inl rfl, .inr ⟨rfl, 1, rfl⟩, trivial⟩ ?_
            simp only [push_cast, simprocAttr, pods_length, nds_length, fP, pL]
            refine hrs.quiet' (by first | exact ⟨.inl rfl, trivial⟩ | exact ⟨.inl rfl, .inl rfl, trivial⟩ | exact ⟨.inl rfl, .inl rfl, .inl rfl, trivial⟩ | simp [argsOk, argOk, sl, sll]) ?_
            simp only [resS, bne_self_eq_false, push_cast, simprocAttr, pods_length, nds_length, fP, pL]
            refine (rsame_ok [] [] (by unfold Sz; simp) (by unfold Sz; simp)).go ⟨.inr ⟨rfl, 1, rfl⟩, .inr ⟨rfl, 1, rfl⟩, trivial⟩ (WK.now ?_)
            simp only [B_true (show ([] : List Int) = [] from rfl), push_cast, simprocAttr, pods_length, nds_length, fP, pL]
            refine hrw.go (by first | exact ⟨.inl rfl, trivial⟩ | exact ⟨.inl rfl, .inl rfl, trivial⟩ | exact ⟨.inl rfl, .inl rfl, .inl rfl, trivial⟩ | simp [argsOk, argOk, sl, sll]) (WK.now ?_)
            simp only [hwb, push_cast, simprocAttr, pods_length, nds_length, fP, pL]
            refine WK.now ?_
            simp only [push_cast, simprocAttr, pods_length, nds_length, fP, pL]
          | some v =>
            have hv2 : v.length = 2 := by
              unfold subS bothS at hs
              cases hB : B (m.2.length = lv.length ∧ ∀ k, k < m.2.length → subOk (m.2.getD k 0) (lv.getD k 0) = true) with
              | false => rw [hB] at hs; cases hs
              | true =>
                rw [hB] at hs
                rw [← Option.some.inj hs]
                simp [hgm.1, hlen]
            rw [hs] at hrs
            simp only [Cs, resS, push_cast, simprocAttr, pods_length, nds_length, fP, pL]
            refine hsht.at [1, 2, 3, 4, 5, 6, 7, 8] (by simp [PV, Tb, Ps, Psn, Ns, Cs, Csn, fP, pL, fE, errD, errF, pgetD, nodeD, sl, pods_length, nds_length, plcs_length, sbl, ren_none, ren_var, ren_arr, ren_map, ren_mapb, ren_iter, ren_loop, ren_defr, bel_none, bel_var, bel_arr, bel_map, bel_mapb, bel_iter, bel_loop, bel_defr, AV.renL, AV.ren, AV.belL, AV.bel, rn]) (by simp) (by simp [PV, Tb, Ps, Psn, Ns, Cs, Csn, fP, pL, fE, errD, errF, pgetD, nodeD, sl, pods_length, nds_length, plcs_length]) (by simp [PV, Tb, Ps, Psn, Ns, Cs, Csn, fP, pL, fE, errD, errF, pgetD, nodeD, sl, pods_length, nds_length, plcs_length, AV.ren, AV.renL, rn]) (by simp [AV.belL, AV.bel]) (WK.now ?_)
            simp only [Cs, shortD, hb, push_cast, simprocAttr, pods_length, nds_length, fP, pL]
            refine DRegL.det [] [0, 1, 2, 3, 4, 5, 6, 7, 8, 9, 10, 11, 12, 13, 14, 15] [] (by kernel_rfl) (by kernel_rfl) (by kernel_rfl) ?_
            simp only [hjl, cel_nds1, ← hm, push_cast, simprocAttr, pods_length, nds_length, fP, pL]
            refine hof.quiet' ⟨.inl rfl, .inl rfl, .inl rfl, .inr ⟨rfl, 1, rfl⟩, trivial⟩ ?_
            simp only [push_cast, simprocAttr, pods_length, nds_length, fP, pL]
            refine hrs.quiet' (by first | exact ⟨.inl rfl, trivial⟩ | exact ⟨.inl rfl, .inl rfl, trivial⟩ | exact ⟨.inl rfl, .inl rfl, .inl rfl, trivial⟩ | simp [argsOk, argOk, sl, sll]) ?_
            simp only [resS, bne_self_eq_false, push_cast, simprocAttr, pods_length, nds_length, fP, pL]
            refine (rsame_ok v v (by unfold Sz; omega) (by unfold Sz; omega)).go (by first | exact ⟨.inl rfl, trivial⟩ | exact ⟨.inl rfl, .inl rfl, trivial⟩ | exact ⟨.inl rfl, .inl rfl, .inl rfl, trivial⟩ | simp [argsOk, argOk, sl, sll]) (WK.now ?_)
            simp only [B_true (show v = v from rfl), push_cast, simprocAttr, pods_length, nds_length, fP, pL]
            refine hrw.go (by first | exact ⟨.inl rfl, trivial⟩ | exact ⟨.inl rfl, .inl rfl, trivial⟩ | exact ⟨.inl rfl, .inl rfl, .inl rfl, trivial⟩ | simp [argsOk, argOk, sl, sll]) (WK.now ?_)
            simp only [hwb, push_cast, simprocAttr, pods_length, nds_length, fP, pL]
            refine WK.now ?_
            simp only [push_cast, simprocAttr, pods_length, nds_length, fP, pL]
        · have hgp := goodV_of hw
          rw [if_neg hw] at hsht hfc
          have hwb : decide (wrongS p.2 2 ≥ 0) = false := decide_eq_false hw
          have hsl : (List.zipWith (· + ·) lv p.2).length = 2 := by simp [hlen, hgp.1]
          obtain ⟨sv, hsv⟩ : ∃ sv, sv = shV (List.zipWith (· + ·) lv p.2) m.2 := ⟨_, rfl⟩
          have hsvl : sv.length = 2 := by rw [hsv]; unfold shV; simp [hsl, hgm.1]
          have hget : ∀ k, k < 2 → sv.getD k 0 = max 0 (lv.getD k 0 + p.2.getD k 0 - m.2.getD k 0) := fun k hk => by
            rw [hsv, shV_get hsl hgm.1 hk, zipA_get hlen hgp.1 hk]
          have hfv : fitB (some (some (List.zipWith (· + ·) lv p.2), m.2)) = (decide (sv.getD 0 0 = 0) && decide (sv.getD 1 0 = 0)) := by rw [hsv]; exact short_fit hsl hgm.1
          rw [hfv] at hfc
          have hsd : shortD (some (some (List.zipWith (· + ·) lv p.2), m.2)) = sl sv := by rw [hsv]; rfl
          rw [hsd] at hsht
          have a0 := hbd 0
          have a1 := hbd 1
          have b0 := hgp.at 0
          have b1 := hgp.at 1
          have d0 := hgm.at 0
          have d1 := hgm.at 1
          have w00 : IntKind.wrap .i64 (lv.getD 0 0 + p.2.getD 0 0) = lv.getD 0 0 + p.2.getD 0 0 := wrapi (by omega) (by omega)
          have w01 : IntKind.wrap .i64 (lv.getD 1 0 + p.2.getD 1 0) = lv.getD 1 0 + p.2.getD 1 0 := wrapi (by omega) (by omega)
          have w10 : IntKind.wrap .i64 (lv.getD 0 0 + p.2.getD 0 0 - m.2.getD 0 0) = lv.getD 0 0 + p.2.getD 0 0 - m.2.getD 0 0 := wrapi (by omega) (by omega)
          have w11 : IntKind.wrap .i64 (lv.getD 1 0 + p.2.getD 1 0 - m.2.getD 1 0) = lv.getD 1 0 + p.2.getD 1 0 - m.2.getD 1 0 := wrapi (by omega) (by omega)
          have n0 : (sv.getD 0 0 != max 0 (lv.getD 0 0 + p.2.getD 0 0 - m.2.getD 0 0)) = false := by rw [hget 0 (by omega)]; exact bne_self_eq_false _
          have n1 : (sv.getD 1 0 != max 0 (lv.getD 1 0 + p.2.getD 1 0 - m.2.getD 1 0)) = false := by rw [hget 1 (by omega)]; exact bne_self_eq_false _
          have hq2 := hgp.1
          have hm2 := hgm.1
          cases hs : subS m.2 lv with
          | none =>
            rw [hs] at hrs
            simp only [Cs, resS, push_cast, simprocAttr, pods_length, nds_length, fP, pL]
            refine hsht.at [1, 2, 3, 4, 5, 6, 7, 8] (by simp [PV, Tb, Ps, Psn, Ns, Cs, Csn, fP, pL, fE, errD, errF, pgetD, nodeD, sl, pods_length, nds_length, plcs_length, sbl, ren_none, ren_var, ren_arr, ren_map, ren_mapb, ren_iter, ren_loop, ren_defr, bel_none, bel_var, bel_arr, bel_map, bel_mapb, bel_iter, bel_loop, bel_defr, AV.renL, AV.ren, AV.belL, AV.bel, rn]) (by simp) (by simp [PV, Tb, Ps, Psn, Ns, Cs, Csn, fP, pL, fE, errD, errF, pgetD, nodeD, sl, pods_length, nds_length, plcs_length]) (by simp [PV, Tb, Ps, Psn, Ns, Cs, Csn, fP, pL, fE, errD, errF, pgetD, nodeD, sl, pods_length, nds_length, plcs_length, AV.ren, AV.renL, rn]) (by simp [AV.belL, AV.bel]) (WK.now ?_)
            simp only [Cs, hb, push_cast, simprocAttr, pods_length, nds_length, fP, pL]
            refine DRegL.det [] [0, 1, 2, 3, 4, 5, 6, 7, 8, 9, 10, 11, 12, 13, 14, 15] [] (by kernel_rfl) (by kernel_rfl) (by kernel_rfl) ?_
            simp only [hjl, cel_nds1, ← hm, push_cast, simprocAttr, pods_length, nds_length, fP, pL]
            refine hof.quiet' ⟨.inl rfl, .inl rfl, .inl rfl, .inr ⟨rfl, 1, rfl⟩, trivial⟩ ?_
            simp only [push_cast, simprocAttr, pods_length, nds_length, fP, pL]
            refine hrs.quiet' (by first | exact ⟨.inl rfl, trivial⟩ | exact ⟨.inl rfl, .inl rfl, trivial⟩ | exact ⟨.inl rfl, .inl rfl, .inl rfl, trivial⟩ | simp [argsOk, argOk, sl, sll]) ?_
            simp only [resS, bne_self_eq_false, push_cast, simprocAttr, pods_length, nds_length, fP, pL]
            refine (rsame_ok [] [] (by unfold Sz; simp) (by unfold Sz; simp)).go ⟨.inr ⟨rfl, 1, rfl⟩, .inr ⟨rfl, 1, rfl⟩, trivial⟩ (WK.now ?_)
            simp only [B_true (show ([] : List Int) = [] from rfl), push_cast, simprocAttr, pods_length, nds_length, fP, pL]
            refine hrw.go (by first | exact ⟨.inl rfl, trivial⟩ | exact ⟨.inl rfl, .inl rfl, trivial⟩ | exact ⟨.inl rfl, .inl rfl, .inl rfl, trivial⟩ | simp [argsOk, argOk, sl, sll]) (WK.now ?_)
            simp only [hwb, hsvl, show (((2 : Nat) : Int) != 2) = false from rfl, push_cast, simprocAttr, pods_length, nds_length, fP, pL]
            refine hof.go ⟨.inl rfl, .inl rfl, .inl rfl, .inr ⟨rfl, 1, rfl⟩, trivial⟩ (WK.now ?_)
            simp only [push_cast, simprocAttr, pods_length, nds_length, fP, pL]
            refine ALoop.mk (fun k t H ds => ∃ i : Nat, k = 2 - i ∧ i ≤ 2 ∧ t = [.dead, .dead, .dead, .d (.int .i64 n), .dead, .dead, .pvar 0 0, .dead, .d (.bool false), .pvar 8 0, .pvar 9 0, .d (.int .i64 j), .dead, .dead, .d (.slice 1 (ints sv)), .dead, .dead, .d (.slice 1 (ints lv)), .d (.int .i64 (i : Nat)), .dead, .dead, .dead, .dead, .dead, .dead, .dead, .dead, .dead, .dead, .dead, .dead, .dead, .dead, .dead, .dead, .dead, .dead, .dead, .dead, .dead, .dead, .dead, .dead, .dead, .dead, .dead, .dead, .dead, .dead, .dead, .dead, .dead, .dead, .dead, .dead, .dead, .dead, .dead, .dead, .dead, .dead, .dead, .dead, .dead, .dead, .dead, .dead, .dead, .dead, .dead, .dead, .dead, .dead, .dead, .dead, .dead, .dead, .dead, .dead, .dead, .dead, .dead, .dead, .dead, .dead, .dead, .dead, .dead, .dead, .dead, .dead, .dead, .dead, .dead, .dead, .dead, .dead, .dead, .dead, .dead, .dead, .dead, .dead, .dead, .dead, .dead, .dead, .dead, .dead, .dead, .dead, .dead, .dead, .dead, .dead, .dead, .dead, .dead, .dead, .dead, .dead, .dead, .dead, .dead, .dead, .dead, .dead, .dead, .dead, .dead, .dead, .dead, .dead, .dead, .dead, .dead, .dead, .dead, .dead, .dead, .dead, .dead, .dead, .dead, .dead, .dead, .dead, .dead] ∧ H = Hq c w p ∧ ds = []) 2
              (WK.fgt (t' := [.dead, .dead, .dead, .d (.int .i64 n), .dead, .dead, .pvar 0 0, .dead, .d (.bool false), .pvar 8 0, .pvar 9 0, .d (.int .i64 j), .dead, .dead, .d (.slice 1 (ints sv)), .dead, .dead, .d (.slice 1 (ints lv)), .d (.int .i64 (0 : Nat)), .dead, .dead, .dead, .dead, .dead, .dead, .dead, .dead, .dead, .dead, .dead, .dead, .dead, .dead, .dead, .dead, .dead, .dead, .dead, .dead, .dead, .dead, .dead, .dead, .dead, .dead, .dead, .dead, .dead, .dead, .dead, .dead, .dead, .dead, .dead, .dead, .dead, .dead, .dead, .dead, .dead, .dead, .dead, .dead, .dead, .dead, .dead, .dead, .dead, .dead, .dead, .dead, .dead, .dead, .dead, .dead, .dead, .dead, .dead, .dead, .dead, .dead, .dead, .dead, .dead, .dead, .dead, .dead, .dead, .dead, .dead, .dead, .dead, .dead, .dead, .dead, .dead, .dead, .dead, .dead, .dead, .dead, .dead, .dead, .dead, .dead, .dead, .dead, .dead, .dead, .dead, .dead, .dead, .dead, .dead, .dead, .dead, .dead, .dead, .dead, .dead, .dead, .dead, .dead, .dead, .dead, .dead, .dead, .dead, .dead, .dead, .dead, .dead, .dead, .dead, .dead, .dead, .dead, .dead, .dead, .dead, .dead, .dead, .dead, .dead, .dead, .dead, .dead, .dead]) (by simp [fgt]) (WK.now ⟨0, by omega, by omega, rfl, rfl, rfl⟩)) ?_
            rintro k t H ds ⟨i, rfl, hi, rfl, rfl, rfl⟩
            have h3 : i = 0 ∨ i = 1 ∨ i = 2 := by omega
            rcases h3 with rfl | rfl | rfl
            · have w1 : IntKind.wrap .i64 1 = ((1 : Nat) : Int) := rfl
              simp only [Hq, PV, push_cast, simprocAttr, pods_length, nds_length, fP, pL]
              refine DRegL.det [] [0, 1, 2, 3, 4, 5, 6, 7, 8, 9, 10, 11, 12, 13, 14, 15, 16, 17, 18, 19, 20, 21, 22, 23, 24, 25] [] (by kernel_rfl) (by kernel_rfl) (by kernel_rfl) ?_
              simp only [hsvl, hlen, hq2, hm2, hjl, cel_nds1, ← hm, cel_ints, w00, w10, n0, w1, push_cast, simprocAttr, pods_length, nds_length, fP, pL]
              exact ⟨1, by omega, WK.fgt (t' := [.dead, .dead, .dead, .d (.int .i64 n), .dead, .dead, .pvar 0 0, .dead, .d (.bool false), .pvar 8 0, .pvar 9 0, .d (.int .i64 j), .dead, .dead, .d (.slice 1 (ints sv)), .dead, .dead, .d (.slice 1 (ints lv)), .d (.int .i64 (1 : Nat)), .dead, .dead, .dead, .dead, .dead, .dead, .dead, .dead, .dead, .dead, .dead, .dead, .dead, .dead, .dead, .dead, .dead, .dead, .dead, .dead, .dead, .dead, .dead, .dead, .dead, .dead, .dead, .dead, .dead, .dead, .dead, .dead, .dead, .dead, .dead, .dead, .dead, .dead, .dead, .dead, .dead, .dead, .dead, .dead, .dead, .dead, .dead, .dead, .dead, .dead, .dead, .dead, .dead, .dead, .dead, .dead, .dead, .dead, .dead, .dead, .dead, .dead, .dead, .dead, .dead, .dead, .dead, .dead, .dead, .dead, .dead, .dead, .dead, .dead, .dead, .dead, .dead, .dead, .dead, .dead, .dead, .dead, .dead, .dead, .dead, .dead, .dead, .dead, .dead, .dead, .dead, .dead, .dead, .dead, .dead, .dead, .dead, .dead, .dead, .dead, .dead, .dead, .dead, .dead, .dead, .dead, .dead, .dead, .dead, .dead, .dead, .dead, .dead, .dead, .dead, .dead, .dead, .dead, .dead, .dead, .dead, .dead, .dead, .dead, .dead, .dead, .dead, .dead, .dead]) (by simp [fgt]) (WK.now ⟨1, by omega, by omega, rfl, rfl, rfl⟩)⟩
            · have w1 : IntKind.wrap .i64 2 = ((2 : Nat) : Int) := rfl
              simp only [Hq, PV, push_cast, simprocAttr, pods_length, nds_length, fP, pL]
              refine DRegL.det [] [0, 1, 2, 3, 4, 5, 6, 7, 8, 9, 10, 11, 12, 13, 14, 15, 16, 17, 18, 19, 20, 21, 22, 23, 24, 25] [] (by kernel_rfl) (by kernel_rfl) (by kernel_rfl) ?_
              simp only [hsvl, hlen, hq2, hm2, hjl, cel_nds1, ← hm, cel_ints, w01, w11, n1, w1, push_cast, simprocAttr, pods_length, nds_length, fP, pL]
              exact ⟨0, by omega, WK.fgt (t' := [.dead, .dead, .dead, .d (.int .i64 n), .dead, .dead, .pvar 0 0, .dead, .d (.bool false), .pvar 8 0, .pvar 9 0, .d (.int .i64 j), .dead, .dead, .d (.slice 1 (ints sv)), .dead, .dead, .d (.slice 1 (ints lv)), .d (.int .i64 (2 : Nat)), .dead, .dead, .dead, .dead, .dead, .dead, .dead, .dead, .dead, .dead, .dead, .dead, .dead, .dead, .dead, .dead, .dead, .dead, .dead, .dead, .dead, .dead, .dead, .dead, .dead, .dead, .dead, .dead, .dead, .dead, .dead, .dead, .dead, .dead, .dead, .dead, .dead, .dead, .dead, .dead, .dead, .dead, .dead, .dead, .dead, .dead, .dead, .dead, .dead, .dead, .dead, .dead, .dead, .dead, .dead, .dead, .dead, .dead, .dead, .dead, .dead, .dead, .dead, .dead, .dead, .dead, .dead, .dead, .dead, .dead, .dead, .dead, .dead, .dead, .dead, .dead, .dead, .dead, .dead, .dead, .dead, .dead, .dead, .dead, .dead, .dead, .dead, .dead, .dead, .dead, .dead, .dead, .dead, .dead, .dead, .dead, .dead, .dead, .dead, .dead, .dead, .dead, .dead, .dead, .dead, .dead, .dead, .dead, .dead, .dead, .dead, .dead, .dead, .dead, .dead, .dead, .dead, .dead, .dead, .dead, .dead, .dead, .dead, .dead, .dead, .dead, .dead, .dead, .dead]) (by simp [fgt]) (WK.now ⟨2, by omega, by omega, rfl, rfl, rfl⟩)⟩
            · simp only [Hq, PV, push_cast, simprocAttr, pods_length, nds_length, fP, pL]
              refine DRegL.det [] [0, 1, 2, 3, 4, 5, 6, 7, 8, 9, 10, 11, 12, 13, 14, 15] [] (by kernel_rfl) (by kernel_rfl) (by kernel_rfl) ?_
              simp only [push_cast, simprocAttr, pods_length, nds_length, fP, pL]
              refine hfc.hushAt [1, 2, 3, 4, 5, 6, 7, 8] (by simp [PV, Tb, Ps, Psn, Ns, Cs, Csn, fP, pL, fE, errD, errF, pgetD, nodeD, sl, pods_length, nds_length, plcs_length, sbl, ren_none, ren_var, ren_arr, ren_map, ren_mapb, ren_iter, ren_loop, ren_defr, bel_none, bel_var, bel_arr, bel_map, bel_mapb, bel_iter, bel_loop, bel_defr, AV.renL, AV.ren, AV.belL, AV.bel, rn]) (by simp) (by simp [PV, Tb, Ps, Psn, Ns, Cs, Csn, fP, pL, fE, errD, errF, pgetD, nodeD, sl, pods_length, nds_length, plcs_length]) (by simp [PV, Tb, Ps, Psn, Ns, Cs, Csn, fP, pL, fE, errD, errF, pgetD, nodeD, sl, pods_length, nds_length, plcs_length, AV.ren, AV.renL, rn]) (by simp [AV.belL, AV.bel]) (by simp [lift, putAll, PV, Tb, Ps, Psn, Ns, Cs, Csn, fP, pL, fE, errD, errF, pgetD, nodeD, sl, pods_length, nds_length, plcs_length, sbl, ren_none, ren_var, ren_arr, ren_map, ren_mapb, ren_iter, ren_loop, ren_defr, AV.renL, AV.ren, rn]) ?_
              by_cases z0 : sv.getD 0 0 = 0
              · have y0 : (sv.getD 0 0 == 0) = true := by simpa using z0
                by_cases z1 : sv.getD 1 0 = 0
                · have y1 : (sv.getD 1 0 == 0) = true := by simpa using z1
                  simp only [hsvl, cel_ints, y0, y1, decide_eq_true z0, decide_eq_true z1, push_cast, simprocAttr, pods_length, nds_length, fP, pL]
                  refine WK.now ?_
                  simp only [push_cast, simprocAttr, pods_length, nds_length, fP, pL]
                · have y1 : (sv.getD 1 0 == 0) = false := by simpa using z1
                  simp only [hsvl, cel_ints, y0, y1, decide_eq_true z0, decide_eq_false z1, push_cast, simprocAttr, pods_length, nds_length, fP, pL]
                  refine WK.now ?_
                  simp only [push_cast, simprocAttr, pods_length, nds_length, fP, pL]
              · have y0 : (sv.getD 0 0 == 0) = false := by simpa using z0
                simp only [hsvl, cel_ints, y0, decide_eq_false z0, push_cast, simprocAttr, pods_length, nds_length, fP, pL]
                refine WK.now ?_
                simp only [push_cast, simprocAttr, pods_length, nds_length, fP, pL]
          | some v =>
            have hv2 : v.length = 2 := by
              unfold subS bothS at hs
              cases hB : B (m.2.length = lv.length ∧ ∀ k, k < m.2.length → subOk (m.2.getD k 0) (lv.getD k 0) = true) with
              | false => rw [hB] at hs; cases hs
              | true =>
                rw [hB] at hs
                rw [← Option.some.inj hs]
                simp [hgm.1, hlen]
            rw [hs] at hrs
            simp only [Cs, resS, push_cast, simprocAttr, pods_length, nds_length, fP, pL]
            refine hsht.at [1, 2, 3, 4, 5, 6, 7, 8] (by simp [PV, Tb, Ps, Psn, Ns, Cs, Csn, fP, pL, fE, errD, errF, pgetD, nodeD, sl, pods_length, nds_length, plcs_length, sbl, ren_none, ren_var, ren_arr, ren_map, ren_mapb, ren_iter, ren_loop, ren_defr, bel_none, bel_var, bel_arr, bel_map, bel_mapb, bel_iter, bel_loop, bel_defr, AV.renL, AV.ren, AV.belL, AV.bel, rn]) (by simp) (by simp [PV, Tb, Ps, Psn, Ns, Cs, Csn, fP, pL, fE, errD, errF, pgetD, nodeD, sl, pods_length, nds_length, plcs_length]) (by simp [PV, Tb, Ps, Psn, Ns, Cs, Csn, fP, pL, fE, errD, errF, pgetD, nodeD, sl, pods_length, nds_length, plcs_length, AV.ren, AV.renL, rn]) (by simp [AV.belL, AV.bel]) (WK.now ?_)
            simp only [Cs, hb, push_cast, simprocAttr, pods_length, nds_length, fP, pL]
            refine DRegL.det [] [0, 1, 2, 3, 4, 5, 6, 7, 8, 9, 10, 11, 12, 13, 14, 15] [] (by kernel_rfl) (by kernel_rfl) (by kernel_rfl) ?_
            simp only [hjl, cel_nds1, ← hm, push_cast, simprocAttr, pods_length, nds_length, fP, pL]
            refine hof.quiet' ⟨.inl rfl, .inl rfl, .inl rfl, .inr ⟨rfl, 1, rfl⟩, trivial⟩ ?_
            simp only [push_cast, simprocAttr, pods_length, nds_length, fP, pL]
            refine hrs.quiet' (by first | exact ⟨.inl rfl, trivial⟩ | exact ⟨.inl rfl, .inl rfl, trivial⟩ | exact ⟨.inl rfl, .inl rfl, .inl rfl, trivial⟩ | simp [argsOk, argOk, sl, sll]) ?_
            simp only [resS, bne_self_eq_false, push_cast, simprocAttr, pods_length, nds_length, fP, pL]
            refine (rsame_ok v v (by unfold Sz; omega) (by unfold Sz; omega)).go (by first | exact ⟨.inl rfl, trivial⟩ | exact ⟨.inl rfl, .inl rfl, trivial⟩ | exact ⟨.inl rfl, .inl rfl, .inl rfl, trivial⟩ | simp [argsOk, argOk, sl, sll]) (WK.now ?_)
            simp only [B_true (show v = v from rfl), push_cast, simprocAttr, pods_length, nds_length, fP, pL]
            refine hrw.go (by first | exact ⟨.inl rfl, trivial⟩ | exact ⟨.inl rfl, .inl rfl, trivial⟩ | exact ⟨.inl rfl, .inl rfl, .inl rfl, trivial⟩ | simp [argsOk, argOk, sl, sll]) (WK.now ?_)
            simp only [hwb, hsvl, show (((2 : Nat) : Int) != 2) = false from rfl, push_cast, simprocAttr, pods_length, nds_length, fP, pL]
            refine hof.go ⟨.inl rfl, .inl rfl, .inl rfl, .inr ⟨rfl, 1, rfl⟩, trivial⟩ (WK.now ?_)
            simp only [push_cast, simprocAttr, pods_length, nds_length, fP, pL]
            refine ALoop.mk (fun k t H ds => ∃ i : Nat, k = 2 - i ∧ i ≤ 2 ∧ t = [.dead, .dead, .dead, .d (.int .i64 n), .dead, .dead, .pvar 0 0, .dead, .d (.bool false), .pvar 8 0, .pvar 9 0, .d (.int .i64 j), .dead, .dead, .d (.slice 1 (ints sv)), .dead, .dead, .d (.slice 1 (ints lv)), .d (.int .i64 (i : Nat)), .dead, .dead, .dead, .dead, .dead, .dead, .dead, .dead, .dead, .dead, .dead, .dead, .dead, .dead, .dead, .dead, .dead, .dead, .dead, .dead, .dead, .dead, .dead, .dead, .dead, .dead, .dead, .dead, .dead, .dead, .dead, .dead, .dead, .dead, .dead, .dead, .dead, .dead, .dead, .dead, .dead, .dead, .dead, .dead, .dead, .dead, .dead, .dead, .dead, .dead, .dead, .dead, .dead, .dead, .dead, .dead, .dead, .dead, .dead, .dead, .dead, .dead, .dead, .dead, .dead, .dead, .dead, .dead, .dead, .dead, .dead, .dead, .dead, .dead, .dead, .dead, .dead, .dead, .dead, .dead, .dead, .dead, .dead, .dead, .dead, .dead, .dead, .dead, .dead, .dead, .dead, .dead, .dead, .dead, .dead, .dead, .dead, .dead, .dead, .dead, .dead, .dead, .dead, .dead, .dead, .dead, .dead, .dead, .dead, .dead, .dead, .dead, .dead, .dead, .dead, .dead, .dead, .dead, .dead, .dead, .dead, .dead, .dead, .dead, .dead, .dead, .dead, .dead, .dead] ∧ H = Hq c w p ∧ ds = []) 2
              (WK.fgt (t' := [.dead, .dead, .dead, .d (.int .i64 n), .dead, .dead, .pvar 0 0, .dead, .d (.bool false), .pvar 8 0, .pvar 9 0, .d (.int .i64 j), .dead, .dead, .d (.slice 1 (ints sv)), .dead, .dead, .d (.slice 1 (ints lv)), .d (.int .i64 (0 : Nat)), .dead, .dead, .dead, .dead, .dead, .dead, .dead, .dead, .dead, .dead, .dead, .dead, .dead, .dead, .dead, .dead, .dead, .dead, .dead, .dead, .dead, .dead, .dead, .dead, .dead, .dead, .dead, .dead, .dead, .dead, .dead, .dead, .dead, .dead, .dead, .dead, .dead, .dead, .dead, .dead, .dead, .dead, .dead, .dead, .dead, .dead, .dead, .dead, .dead, .dead, .dead, .dead, .dead, .dead, .dead, .dead, .dead, .dead, .dead, .dead, .dead, .dead, .dead, .dead, .dead, .dead, .dead, .dead, .dead, .dead, .dead, .dead, .dead, .dead, .dead, .dead, .dead, .dead, .dead, .dead, .dead, .dead, .dead, .dead, .dead, .dead, .dead, .dead, .dead, .dead, .dead, .dead, .dead, .dead, .dead, .dead, .dead, .dead, .dead, .dead, .dead, .dead, .dead, .dead, .dead, .dead, .dead, .dead, .dead, .dead, .dead, .dead, .dead, .dead, .dead, .dead, .dead, .dead, .dead, .dead, .dead, .dead, .dead, .dead, .dead, .dead, .dead, .dead, .dead]) (by simp [fgt]) (WK.now ⟨0, by omega, by omega, rfl, rfl, rfl⟩)) ?_
            rintro k t H ds ⟨i, rfl, hi, rfl, rfl, rfl⟩
            have h3 : i = 0 ∨ i = 1 ∨ i = 2 := by omega
            rcases h3 with rfl | rfl | rfl
            · have w1 : IntKind.wrap .i64 1 = ((1 : Nat) : Int) := rfl
              simp only [Hq, PV, push_cast, simprocAttr, pods_length, nds_length, fP, pL]
              refine DRegL.det [] [0, 1, 2, 3, 4, 5, 6, 7, 8, 9, 10, 11, 12, 13, 14, 15, 16, 17, 18, 19, 20, 21, 22, 23, 24, 25] [] (by kernel_rfl) (by kernel_rfl) (by kernel_rfl) ?_
              simp only [hsvl, hlen, hq2, hm2, hjl, cel_nds1, ← hm, cel_ints, w00, w10, n0, w1, push_cast, simprocAttr, pods_length, nds_length, fP, pL]
              exact ⟨1, by omega, WK.fgt (t' := [.dead, .dead, .dead, .d (.int .i64 n), .dead, .dead, .pvar 0 0, .dead, .d (.bool false), .pvar 8 0, .pvar 9 0, .d (.int .i64 j), .dead, .dead, .d (.slice 1 (ints sv)), .dead, .dead, .d (.slice 1 (ints lv)), .d (.int .i64 (1 : Nat)), .dead, .dead, .dead, .dead, .dead, .dead, .dead, .dead, .dead, .dead, .dead, .dead, .dead, .dead, .dead, .dead, .dead, .dead, .dead, .dead, .dead, .dead, .dead, .dead, .dead, .dead, .dead, .dead, .dead, .dead, .dead, .dead, .dead, .dead, .dead, .dead, .dead, .dead, .dead, .dead, .dead, .dead, .dead, .dead, .dead, .dead, .dead, .dead, .dead, .dead, .dead, .dead, .dead, .dead, .dead, .dead, .dead, .dead, .dead, .dead, .dead, .dead, .dead, .dead, .dead, .dead, .dead, .dead, .dead, .dead, .dead, .dead, .dead, .dead, .dead, .dead, .dead, .dead, .dead, .dead, .dead, .dead, .dead, .dead, .dead, .dead, .dead, .dead, .dead, .dead, .dead, .dead, .dead, .dead, .dead, .dead, .dead, .dead, .dead, .dead, .dead, .dead, .dead, .dead, .dead, .dead, .dead, .dead, .dead, .dead, .dead, .dead, .dead, .dead, .dead, .dead, .dead, .dead, .dead, .dead, .dead, .dead, .dead, .dead, .dead, .dead, .dead, .dead, .dead]) (by simp [fgt]) (WK.now ⟨1, by omega, by omega, rfl, rfl, rfl⟩)⟩
            · have w1 : IntKind.wrap .i64 2 = ((2 : Nat) : Int) := rfl
              simp only [Hq, PV, push_cast, simprocAttr, pods_length, nds_length, fP, pL]
              refine DRegL.det [] [0, 1, 2, 3, 4, 5, 6, 7, 8, 9, 10, 11, 12, 13, 14, 15, 16, 17, 18, 19, 20, 21, 22, 23, 24, 25] [] (by kernel_rfl) (by kernel_rfl) (by kernel_rfl) ?_
              simp only [hsvl, hlen, hq2, hm2, hjl, cel_nds1, ← hm, cel_ints, w01, w11, n1, w1, push_cast, simprocAttr, pods_length, nds_length, fP, pL]
              exact ⟨0, by omega, WK.fgt (t' := [.dead, .dead, .dead, .d (.int .i64 n), .dead, .dead, .pvar 0 0, .dead, .d (.bool false), .pvar 8 0, .pvar 9 0, .d (.int .i64 j), .dead, .dead, .d (.slice 1 (ints sv)), .dead, .dead, .d (.slice 1 (ints lv)), .d (.int .i64 (2 : Nat)), .dead, .dead, .dead, .dead, .dead, .dead, .dead, .dead, .dead, .dead, .dead, .dead, .dead, .dead, .dead, .dead, .dead, .dead, .dead, .dead, .dead, .dead, .dead, .dead, .dead, .dead, .dead, .dead, .dead, .dead, .dead, .dead, .dead, .dead, .dead, .dead, .dead, .dead, .dead, .dead, .dead, .dead, .dead, .dead, .dead, .dead, .dead, .dead, .dead, .dead, .dead, .dead, .dead, .dead, .dead, .dead, .dead, .dead, .dead, .dead, .dead, .dead, .dead, .dead, .dead, .dead, .dead, .dead, .dead, .dead, .dead, .dead, .dead, .dead, .dead, .dead, .dead, .dead, .dead, .dead, .dead, .dead, .dead, .dead, .dead, .dead, .dead, .dead, .dead, .dead, .dead, .dead, .dead, .dead, .dead, .dead, .dead, .dead, .dead, .dead, .dead, .dead, .dead, .dead, .dead, .dead, .dead, .dead, .dead, .dead, .dead, .dead, .dead, .dead, .dead, .dead, .dead, .dead, .dead, .dead, .dead, .dead, .dead, .dead, .dead, .dead, .dead, .dead, .dead]) (by simp [fgt]) (WK.now ⟨2, by omega, by omega, rfl, rfl, rfl⟩)⟩
            · simp only [Hq, PV, push_cast, simprocAttr, pods_length, nds_length, fP, pL]
              refine DRegL.det [] [0, 1, 2, 3, 4, 5, 6, 7, 8, 9, 10, 11, 12, 13, 14, 15] [] (by kernel_rfl) (by kernel_rfl) (by kernel_rfl) ?_
              simp only [push_cast, simprocAttr, pods_length, nds_length, fP, pL]
              refine hfc.hushAt [1, 2, 3, 4, 5, 6, 7, 8] (by simp [PV, Tb, Ps, Psn, Ns, Cs, Csn, fP, pL, fE, errD, errF, pgetD, nodeD, sl, pods_length, nds_length, plcs_length, sbl, ren_none, ren_var, ren_arr, ren_map, ren_mapb, ren_iter, ren_loop, ren_defr, bel_none, bel_var, bel_arr, bel_map, bel_mapb, bel_iter, bel_loop, bel_defr, AV.renL, AV.ren, AV.belL, AV.bel, rn]) (by simp) (by simp [PV, Tb, Ps, Psn, Ns, Cs, Csn, fP, pL, fE, errD, errF, pgetD, nodeD, sl, pods_length, nds_length, plcs_length]) (by simp [PV, Tb, Ps, Psn, Ns, Cs, Csn, fP, pL, fE, errD, errF, pgetD, nodeD, sl, pods_length, nds_length, plcs_length, AV.ren, AV.renL, rn]) (by simp [AV.belL, AV.bel]) (by simp [lift, putAll, PV, Tb, Ps, Psn, Ns, Cs, Csn, fP, pL, fE, errD, errF, pgetD, nodeD, sl, pods_length, nds_length, plcs_length, sbl, ren_none, ren_var, ren_arr, ren_map, ren_mapb, ren_iter, ren_loop, ren_defr, AV.renL, AV.ren, rn]) ?_
              by_cases z0 : sv.getD 0 0 = 0
              · have y0 : (sv.getD 0 0 == 0) = true := by simpa using z0
                by_cases z1 : sv.getD 1 0 = 0
                · have y1 : (sv.getD 1 0 == 0) = true := by simpa using z1
                  simp only [hsvl, cel_ints, y0, y1, decide_eq_true z0, decide_eq_true z1, push_cast, simprocAttr, pods_length, nds_length, fP, pL]
                  refine WK.now ?_
                  simp only [push_cast, simprocAttr, pods_length, nds_length, fP, pL]
                · have y1 : (sv.getD 1 0 == 0) = false := by simpa using z1
                  simp only [hsvl, cel_ints, y0, y1, decide_eq_true z0, decide_eq_false z1, push_cast, simprocAttr, pods_length, nds_length, fP, pL]
                  refine WK.now ?_
                  simp only [push_cast, simprocAttr, pods_length, nds_length, fP, pL]
              · have y0 : (sv.getD 0 0 == 0) = false := by simpa using z0
                simp only [hsvl, cel_ints, y0, decide_eq_false z0, push_cast, simprocAttr, pods_length, nds_length, fP, pL]
                refine WK.now ?_
                simp only [push_cast, simprocAttr, pods_length, nds_length, fP, pL]
end Go.Proofs.YtglmkjgajbiaaaaGreatDoor
end
