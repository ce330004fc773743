/-
  What the verifier's chapter on clusters calls few operations; few pods.
  The examples of the chapter on clusters.
  The examples of the chapter on clusters: the states.
  The examples of the chapter on clusters, walked.
-/
import Derived.Test.YtcmhdpbmcgglmaaGreatDoorC1
import Derived.Test.YtcmhdpbmcgglmaaGreatDoorG1
section
set_option autoImplicit false
set_option linter.unusedVariables false
set_option linter.unusedSimpArgs false
namespace Go.Proofs.YtcmhdpbmcgglmaaGreatDoor
open Go.Abs
def oz : Opn := (0, pz, 0, 0, [])
def opns (l : List Opn) : List (List D) := l.map oL
theorem opns_length (l : List Opn) : (opns l).length = l.length := by simp [opns]
theorem opns_get {l : List Opn} {i : Nat} (h : i < l.length) : (opns l).getD i [] = oL (l.getD i oz) := by simp [opns, List.getD_eq_getElem?_getD, h]
theorem seg_opnsP {l : List Opn} {i : Nat} (h : i < l.length) : seg (opns l) i 1 9 = pL (l.getD i oz).2.1 := by unfold seg; rw [opns_get h]; rfl
theorem seg_opns {l : List Opn} {i : Nat} (h : i < l.length) : seg (opns l) i 0 13 = oL (l.getD i oz) := by unfold seg; rw [opns_get h]; rfl
theorem cel_opns12 {l : List Opn} {i : Nat} (h : i < l.length) : cel (opns l) i 12 = .slice 1 (ints (l.getD i oz).2.2.2.2) := by unfold cel; rw [opns_get h]; rfl
def fewO (o : Opn) : Prop := FewP [o.2.1] ∧ (o.2.2.2.2.length : Int) ≤ 20
def FewO (l : List Opn) : Prop := (∀ j, j < l.length → fewO (l.getD j oz)) ∧ (l.length : Int) ≤ 60
set_option maxRecDepth 8000 in
theorem few14_ok (l : List Opn) (hl : l.length ≤ 9223372036854775807) : PCall env 14 [.slice 13 (opns l)] (.bool (B (FewO l))) := by
  refine acalls_of envOk Tryz.func14 rfl (by kernel_rfl) (m := 29) rfl ?_
  simp only [opns_length, push_cast, simprocAttr, pods_length, fP, pL]
  refine ALoop.mk (fun k t H ds => ∃ i : Nat, k = l.length - i ∧ i ≤ l.length ∧ (∀ j, j < i → fewO (l.getD j oz)) ∧ t = [.d (.slice 13 (opns l)), .dead, .dead, .d (.int .i64 (i : Nat)), .dead, .dead, .dead, .dead, .dead, .dead, .dead, .dead, .dead, .dead, .dead, .dead, .dead, .dead, .dead, .dead, .dead, .dead, .dead, .dead, .dead, .dead, .dead, .dead, .dead, .dead] ∧ H = [] ∧ ds = []) l.length
    (WK.fgt (t' := [.d (.slice 13 (opns l)), .dead, .dead, .d (.int .i64 (0 : Nat)), .dead, .dead, .dead, .dead, .dead, .dead, .dead, .dead, .dead, .dead, .dead, .dead, .dead, .dead, .dead, .dead, .dead, .dead, .dead, .dead, .dead, .dead, .dead, .dead, .dead, .dead]) (by simp [fgt, ints_length, intss_length]) (WK.now ⟨0, by omega, by omega, by intro j hj; omega, rfl, rfl, rfl⟩)) ?_
  rintro k t H ds ⟨i, rfl, hi, hq, rfl, rfl, rfl⟩
  simp only [opns_length, push_cast, simprocAttr, pods_length, fP, pL]
  refine Kbr.mk (fun b => ?_) (fun b => ?_)
  · have c2 : i < l.length := by simpa using b
    have si : IntKind.wrap .i64 ((i : Int) + 1) = ((i + 1 : Nat) : Int) := by rw [wrapi (by omega) (by omega)]; omega
    obtain ⟨o, ho⟩ : ∃ o, o = l.getD i oz := ⟨_, rfl⟩
    simp only [c2, seg_opnsP, cel_opns12, ← ho, opns_length, one_pod, push_cast, simprocAttr, pods_length, fP, pL]
    refine (few_ok [o.2.1] (by simp)).go (by simp [argsOk, argOk, sl, sll, ints, intss]) (WK.now ?_)
    cases hf : B (FewP [o.2.1]) with
    | false =>
      rw [B_false fun x : FewO l => by have := (x.1 i c2).1; rw [← ho, B_true this] at *; cases hf]
      simp only [push_cast, simprocAttr, pods_length, fP, pL]
      refine WK.now ?_
      simp only [push_cast, simprocAttr, pods_length, fP, pL]
    | true =>
      by_cases hv : (o.2.2.2.2.length : Int) > 20
      · rw [B_false fun x : FewO l => by have := (x.1 i c2).2; rw [← ho] at this; omega]
        simp only [decide_eq_true hv, c2, cel_opns12, ← ho, opns_length, push_cast, simprocAttr, pods_length, fP, pL]
        refine WK.now ?_
        simp only [push_cast, simprocAttr, pods_length, fP, pL]
      · have hfo : fewO (l.getD i oz) := by rw [← ho]; exact ⟨B_iff.1 hf, by omega⟩
        simp only [decide_eq_false hv, c2, cel_opns12, ← ho, opns_length, si, push_cast, simprocAttr, pods_length, fP, pL]
        exact ⟨l.length - (i + 1), by omega, WK.fgt (t' := [.d (.slice 13 (opns l)), .dead, .dead, .d (.int .i64 (i + 1 : Nat)), .dead, .dead, .dead, .dead, .dead, .dead, .dead, .dead, .dead, .dead, .dead, .dead, .dead, .dead, .dead, .dead, .dead, .dead, .dead, .dead, .dead, .dead, .dead, .dead, .dead, .dead]) (by simp [fgt, ints_length, intss_length]) (WK.now ⟨i + 1, rfl, by omega, below_succ hq hfo, rfl, rfl, rfl⟩)⟩
  · have c2 : ¬ i < l.length := by simpa using b
    have e : B (FewO l) = decide ((l.length : Int) ≤ 60) := by
      by_cases h6 : (l.length : Int) ≤ 60
      · rw [decide_eq_true h6]; exact B_true ⟨fun j hj => hq j (by omega), h6⟩
      · rw [decide_eq_false h6]; exact B_false fun x => h6 x.2
    rw [e]
    simp only [opns_length, push_cast, simprocAttr, pods_length, fP, pL]
    refine WK.now ?_
    simp only [push_cast, simprocAttr, pods_length, fP, pL]
end Go.Proofs.YtcmhdpbmcgglmaaGreatDoor
end
section
set_option autoImplicit false
set_option linter.unusedVariables false
set_option linter.unusedSimpArgs false
namespace Go.Proofs.YtcmhdpbmcgglmaaGreatDoor
open Go.Abs
set_option maxRecDepth 8000 in
set_option maxHeartbeats 1000000 in
theorem cdrop_one {c cn : Cl} (h : ClOk c) (n : Int) {e e' : Ent} {p : Pod} (hN : lget c.N n = some e) (hlp : listed c.L (onP n) c.ids = [p]) (hph : p.1.ph = 3)
    (hD : changeD c p.1.id 5 (-1) = .tup [fP (dropP p), .nili]) (hcn : (clChange c p.1.id 5 (-1)).1 = cn) (hN' : lget cn.N n = some e') :
    ACalls env 32 [.pvar 7 0, .d (.int .i64 n)] (Cs c) fun r H' => r = .d (.tup [.slice 9 (pods [dropP p]), .nili]) ∧ H' = Cs { cn with N := ldel cn.N n } := by
  obtain ⟨l, hl⟩ : ∃ l, l = [p] := ⟨_, rfl⟩
  have hl1 : l.length = 1 := by rw [hl]; rfl
  have hlg : l.getD 0 pz = p := by rw [hl]; rfl
  have hch := cchange_ok c p.1.id 5 (-1) h
  rw [hD, hcn] at hch
  unfold Cs
  refine ACalls.cutTo [0, 1, 2, 3, 4, 5, 6, 7] rfl ?_ (fun l => by simp [PV, Tb, Ps, Psn, Ns, Cs, Csn, fP, pL, fE, errD, errF, pgetD, nodeD, sl, pods_length, nds_length, sbl, ren_none, ren_var, ren_arr, ren_map, ren_mapb, ren_iter, ren_loop, ren_defr, bel_none, bel_var, bel_arr, bel_map, bel_mapb, bel_iter, bel_loop, bel_defr, AV.renL, AV.ren, AV.belL, AV.bel, rn]) (fun m => by simp [tellL, AV.ren, AV.renL, AV.bel, AV.belL, rn])
  refine acalls_of envOk Tryz.func32 rfl (by kernel_rfl) (m := 64) rfl ?_
  simp only [push_cast, simprocAttr, pods_length, nds_length, fP, pL]
  refine (cstate_ok c).at [0, 1, 2, 3, 4, 5, 6, 7] (by simp [PV, Tb, Ps, Psn, Ns, Cs, Csn, fP, pL, fE, errD, errF, pgetD, nodeD, sl, pods_length, nds_length, sbl, ren_none, ren_var, ren_arr, ren_map, ren_mapb, ren_iter, ren_loop, ren_defr, bel_none, bel_var, bel_arr, bel_map, bel_mapb, bel_iter, bel_loop, bel_defr, AV.renL, AV.ren, AV.belL, AV.bel, rn]) (by simp) (by simp [PV, Tb, Ps, Psn, Ns, Cs, Csn, fP, pL, fE, errD, errF, pgetD, nodeD, sl, pods_length, nds_length]) (by simp [PV, Tb, Ps, Psn, Ns, Cs, Csn, fP, pL, fE, errD, errF, pgetD, nodeD, sl, pods_length, nds_length, AV.ren, AV.renL, rn]) (by simp [AV.belL, AV.bel]) (WK.now ?_)
  simp only [Cs, push_cast, simprocAttr, pods_length, nds_length, fP, pL]
  refine (nget_ok c.d 1024 c.N n h.N).at [4, 5, 6] (by simp [PV, Tb, Ps, Psn, Ns, Cs, Csn, fP, pL, fE, errD, errF, pgetD, nodeD, sl, pods_length, nds_length, sbl, ren_none, ren_var, ren_arr, ren_map, ren_mapb, ren_iter, ren_loop, ren_defr, bel_none, bel_var, bel_arr, bel_map, bel_mapb, bel_iter, bel_loop, bel_defr, AV.renL, AV.ren, AV.belL, AV.bel, rn]) (by simp) (by simp [PV, Tb, Ps, Psn, Ns, Cs, Csn, fP, pL, fE, errD, errF, pgetD, nodeD, sl, pods_length, nds_length]) (by simp [PV, Tb, Ps, Psn, Ns, Cs, Csn, fP, pL, fE, errD, errF, pgetD, nodeD, sl, pods_length, nds_length, AV.ren, AV.renL, rn]) (by simp [AV.belL, AV.bel]) (WK.now ?_)
  simp only [Ns, hN, nodeD, push_cast, simprocAttr, pods_length, nds_length, fP, pL]
  refine (pOn_ok 65536 c.L c.ids n h.L h.i h.hin).at [0, 1, 2, 3] (by simp [PV, Tb, Ps, Psn, Ns, Cs, Csn, fP, pL, fE, errD, errF, pgetD, nodeD, sl, pods_length, nds_length, sbl, ren_none, ren_var, ren_arr, ren_map, ren_mapb, ren_iter, ren_loop, ren_defr, bel_none, bel_var, bel_arr, bel_map, bel_mapb, bel_iter, bel_loop, bel_defr, AV.renL, AV.ren, AV.belL, AV.bel, rn]) (by simp) (by simp [PV, Tb, Ps, Psn, Ns, Cs, Csn, fP, pL, fE, errD, errF, pgetD, nodeD, sl, pods_length, nds_length]) (by simp [PV, Tb, Ps, Psn, Ns, Cs, Csn, fP, pL, fE, errD, errF, pgetD, nodeD, sl, pods_length, nds_length, AV.ren, AV.renL, rn]) (by simp [AV.belL, AV.bel]) (WK.frz 10 rfl (WK.now ?_))
  rw [hlp, ← hl]
  simp only [Ps, push_cast, simprocAttr, pods_length, nds_length, fP, pL]
  refine ALoop.mk (fun k t H ds => ∃ (i : Nat) (ci : Cl), k = l.length - i ∧ ((i = 0 ∧ ci = c) ∨ (i = 1 ∧ ci = cn)) ∧ t = [.pvar 7 0, .d (.int .i64 n), .dead, .dead, .dead, .dead, .pvar 8 0, .dead, .dead, .sfull 9, .dead, .dead, .dead, .dead, .dead, .dead, .dead, .dead, .dead, .dead, .dead, .dead, .dead, .dead, .dead, .dead, .dead, .dead, .dead, .dead, .dead, .dead, .d (.slice 9 (pods l)), .d (.int .i64 l.length), .d (.int .i64 (i : Nat)), .dead, .dead, .dead, .dead, .dead, .dead, .dead, .dead, .dead, .dead, .dead, .dead, .dead, .dead, .dead, .dead, .dead, .dead, .dead, .dead, .dead, .dead, .dead, .dead, .dead, .dead, .dead, .dead, .dead, .dead, .dead] ∧ H = Cs ci ++ [.var [.pvar 2 0, .pvar 6 0], .arr 35 9 (pods ((l.take i).map dropP))] ∧ ds = []) l.length
    (WK.nil 9 35 9 rfl (WK.fgt (t' := [.pvar 7 0, .d (.int .i64 n), .dead, .dead, .dead, .dead, .pvar 8 0, .dead, .dead, .sfull 11, .dead, .dead, .dead, .dead, .dead, .dead, .dead, .dead, .dead, .dead, .dead, .dead, .dead, .dead, .dead, .dead, .dead, .dead, .dead, .dead, .dead, .dead, .d (.slice 9 (pods l)), .d (.int .i64 l.length), .d (.int .i64 (0 : Nat)), .dead, .dead, .dead, .dead, .dead, .dead, .dead, .dead, .dead, .dead, .dead, .dead, .dead, .dead, .dead, .dead, .dead, .dead, .dead, .dead, .dead, .dead, .dead, .dead, .dead, .dead, .dead, .dead, .dead, .dead, .dead]) (by simp [fgt]) (WK.pick [0, 1, 2, 3, 4, 5, 6, 7, 8, 11] (t' := [.pvar 7 0, .d (.int .i64 n), .dead, .dead, .dead, .dead, .pvar 8 0, .dead, .dead, .sfull 9, .dead, .dead, .dead, .dead, .dead, .dead, .dead, .dead, .dead, .dead, .dead, .dead, .dead, .dead, .dead, .dead, .dead, .dead, .dead, .dead, .dead, .dead, .d (.slice 9 (pods l)), .d (.int .i64 l.length), .d (.int .i64 (0 : Nat)), .dead, .dead, .dead, .dead, .dead, .dead, .dead, .dead, .dead, .dead, .dead, .dead, .dead, .dead, .dead, .dead, .dead, .dead, .dead, .dead, .dead, .dead, .dead, .dead, .dead, .dead, .dead, .dead, .dead, .dead, .dead]) (H' := Cs c ++ [.var [.pvar 2 0, .pvar 6 0], .arr 35 9 (pods [])])
      (by simp [Cs, pods, sbl, ren_none, ren_var, ren_arr, ren_map, bel_none, bel_var, bel_arr, bel_map, AV.renL, AV.ren, AV.belL, AV.bel, rn]) (by simp) (by simp) (by simp [tellL, AV.ren, AV.renL, AV.bel, AV.belL, rn]) (by decide) (WK.now ⟨0, c, by omega, .inl ⟨rfl, rfl⟩, rfl, rfl, rfl⟩)))) ?_
  rintro k t H ds ⟨i, ci, rfl, ⟨rfl, rfl⟩ | ⟨rfl, rfl⟩, rfl, rfl, rfl⟩
  · have c2 : 0 < l.length := by omega
    have e2 : (p.1.ph == 2) = false := by rw [hph]; rfl
    have w1 : IntKind.wrap .i64 1 = ((1 : Nat) : Int) := rfl
    simp only [Cs, push_cast, simprocAttr, pods_length, nds_length, fP, pL]
    refine Kbr.mk (fun b => ?_) (fun b => absurd (of_decide_eq_false b) (by omega))
    simp only [c2, seg_pods, hlg, e2, push_cast, simprocAttr, pods_length, nds_length, fP, pL]
    refine ⟨by omega, ?_⟩
    refine hch.at [0, 1, 2, 3, 4, 5, 6, 7] (by simp [PV, Tb, Ps, Psn, Ns, Cs, Csn, fP, pL, fE, errD, errF, pgetD, nodeD, sl, pods_length, nds_length, sbl, ren_none, ren_var, ren_arr, ren_map, ren_mapb, ren_iter, ren_loop, ren_defr, bel_none, bel_var, bel_arr, bel_map, bel_mapb, bel_iter, bel_loop, bel_defr, AV.renL, AV.ren, AV.belL, AV.bel, rn]) (by simp) (by simp [PV, Tb, Ps, Psn, Ns, Cs, Csn, fP, pL, fE, errD, errF, pgetD, nodeD, sl, pods_length, nds_length]) (by simp [PV, Tb, Ps, Psn, Ns, Cs, Csn, fP, pL, fE, errD, errF, pgetD, nodeD, sl, pods_length, nds_length, AV.ren, AV.renL, rn]) (by simp [AV.belL, AV.bel]) (WK.now ?_)
    simp only [Cs, push_cast, simprocAttr, pods_length, nds_length, fP, pL]
    refine ⟨room_of (by simp) (by omega), ?_⟩
    exact ⟨l.length - 1, by omega, WK.fgt (t' := [.pvar 7 0, .d (.int .i64 n), .dead, .dead, .dead, .dead, .pvar 8 0, .dead, .dead, .sfull 12, .dead, .dead, .dead, .dead, .dead, .dead, .dead, .dead, .dead, .dead, .dead, .dead, .dead, .dead, .dead, .dead, .dead, .dead, .dead, .dead, .dead, .dead, .d (.slice 9 (pods l)), .d (.int .i64 l.length), .d (.int .i64 (1 : Nat)), .dead, .dead, .dead, .dead, .dead, .dead, .dead, .dead, .dead, .dead, .dead, .dead, .dead, .dead, .dead, .dead, .dead, .dead, .dead, .dead, .dead, .dead, .dead, .dead, .dead, .dead, .dead, .dead, .dead, .dead, .dead]) (by simp [fgt, w1]) (WK.pick [0, 1, 2, 3, 4, 5, 6, 7, 8, 12] (t' := [.pvar 7 0, .d (.int .i64 n), .dead, .dead, .dead, .dead, .pvar 8 0, .dead, .dead, .sfull 9, .dead, .dead, .dead, .dead, .dead, .dead, .dead, .dead, .dead, .dead, .dead, .dead, .dead, .dead, .dead, .dead, .dead, .dead, .dead, .dead, .dead, .dead, .d (.slice 9 (pods l)), .d (.int .i64 l.length), .d (.int .i64 (1 : Nat)), .dead, .dead, .dead, .dead, .dead, .dead, .dead, .dead, .dead, .dead, .dead, .dead, .dead, .dead, .dead, .dead, .dead, .dead, .dead, .dead, .dead, .dead, .dead, .dead, .dead, .dead, .dead, .dead, .dead, .dead, .dead]) (H' := Cs cn ++ [.var [.pvar 2 0, .pvar 6 0], .arr 35 9 (pods ((l.take 1).map dropP))])
      (by rw [hl]; simp [Cs, pods, pL, sbl, ren_none, ren_var, ren_arr, ren_map, bel_none, bel_var, bel_arr, bel_map, AV.renL, AV.ren, AV.belL, AV.bel, rn]) (by simp) (by simp) (by simp [tellL, AV.ren, AV.renL, AV.bel, AV.belL, rn]) (by decide) (WK.now ⟨1, cn, rfl, .inr ⟨rfl, rfl⟩, rfl, rfl, rfl⟩))⟩
  · have c2 : ¬ 1 < l.length := by omega
    simp only [Cs, push_cast, simprocAttr, pods_length, nds_length, fP, pL]
    refine Kbr.mk (fun b => absurd (of_decide_eq_true b) (by omega)) (fun b => ?_)
    simp only [push_cast, simprocAttr, pods_length, nds_length, fP, pL]
    refine (ndrop_ok ci.d 1024 ci.N n hN').at [4, 5, 6] (by simp [PV, Tb, Ps, Psn, Ns, Cs, Csn, fP, pL, fE, errD, errF, pgetD, nodeD, sl, pods_length, nds_length, sbl, ren_none, ren_var, ren_arr, ren_map, ren_mapb, ren_iter, ren_loop, ren_defr, bel_none, bel_var, bel_arr, bel_map, bel_mapb, bel_iter, bel_loop, bel_defr, AV.renL, AV.ren, AV.belL, AV.bel, rn]) (by simp) (by simp [PV, Tb, Ps, Psn, Ns, Cs, Csn, fP, pL, fE, errD, errF, pgetD, nodeD, sl, pods_length, nds_length]) (by simp [PV, Tb, Ps, Psn, Ns, Cs, Csn, fP, pL, fE, errD, errF, pgetD, nodeD, sl, pods_length, nds_length, AV.ren, AV.renL, rn]) (by simp [AV.belL, AV.bel]) (WK.frz 9 rfl (WK.now ?_))
    simp only [Ns, hl, push_cast, simprocAttr, pods_length, nds_length, fP, pL]
    refine WK.now ?_
    simp only [push_cast, simprocAttr, pods_length, nds_length, fP, pL]
    first | done | exact ⟨_, rfl⟩ | exact ⟨rfl, _, rfl⟩
theorem nadd_nil (k : Int) : PCall env 77 [.nilp, .agg [.int .i64 k, .nils]] (errF (some (5, 0))) := by
  refine acalls_of envOk Tryz.func77 rfl (by kernel_rfl) (m := 43) rfl ?_
  simp only [push_cast, simprocAttr, pods_length, nds_length, fP, pL]
  refine nunk_ok.go (by first | exact ⟨.inl rfl, trivial⟩ | exact ⟨.inl rfl, .inl rfl, trivial⟩ | exact ⟨.inl rfl, .inl rfl, .inl rfl, trivial⟩ | simp [argsOk, argOk, sl, sll]) (WK.now ?_)
  simp only [errF, push_cast, simprocAttr, pods_length, nds_length, fP, pL]
  refine WK.now ?_
  simp only [errF, push_cast, simprocAttr, pods_length, nds_length, fP, pL]
theorem cadd_nil (k : Int) : PCall env 34 [.nilp, .agg [.int .i64 k, .nils]] (errF (some (5, 0))) := by
  refine acalls_of envOk Tryz.func34 rfl (by kernel_rfl) (m := 8) rfl ?_
  simp only [push_cast, simprocAttr, pods_length, nds_length, fP, pL]
  refine DRegL.det [] [0, 1, 2, 3, 4, 5] [] (by kernel_rfl) (by kernel_rfl) (by kernel_rfl) ?_
  simp only [push_cast, simprocAttr, pods_length, nds_length, fP, pL]
  refine cstate_nil.quiet' (by first | exact ⟨.inl rfl, trivial⟩ | exact ⟨.inl rfl, .inl rfl, trivial⟩ | exact ⟨.inl rfl, .inl rfl, .inl rfl, trivial⟩ | simp [argsOk, argOk, sl, sll]) ?_
  simp only [push_cast, simprocAttr, pods_length, nds_length, fP, pL]
  refine (nadd_nil k).quiet' (by first | exact ⟨.inl rfl, trivial⟩ | exact ⟨.inl rfl, .inl rfl, trivial⟩ | exact ⟨.inl rfl, .inl rfl, .inl rfl, trivial⟩ | simp [argsOk, argOk, sl, sll]) ?_
  simp only [errF, push_cast, simprocAttr, pods_length, nds_length, fP, pL]
  refine WK.now ?_
  simp only [errF, push_cast, simprocAttr, pods_length, nds_length, fP, pL]
theorem pallN_ok (g : FuncId) : ACalls env 133 [.d .nilp, .d (.func g [])] [] fun r H' => r = .func 153 [.pvar 0 0, .pvar 1 0] ∧ H' = [.var [.d .nilp], .var [.d (.func g [])]] := by
  refine acalls_of envOk Tryz.func133 rfl (by kernel_rfl) (m := 4) rfl ?_
  simp only [push_cast, simprocAttr, pods_length, nds_length, fP, pL]
  refine WK.now ?_
  simp only [push_cast, simprocAttr, pods_length, nds_length, fP, pL]
theorem plistN_ok (g : FuncId) (hx : env.ext g = none) : PCall env 96 [.nilp, .func g []] .nils := by
  refine acalls_of envOk Tryz.func96 rfl (by kernel_rfl) (m := 14) rfl ?_
  simp only [push_cast, simprocAttr, pods_length, nds_length, fP, pL]
  refine (pallN_ok g).at [] (by simp [PV, Tb, Ps, Psn, Ns, Cs, Csn, fP, pL, fE, errD, errF, pgetD, nodeD, sl, pods_length, nds_length, sbl, ren_none, ren_var, ren_arr, ren_map, ren_mapb, ren_iter, ren_loop, ren_defr, bel_none, bel_var, bel_arr, bel_map, bel_mapb, bel_iter, bel_loop, bel_defr, AV.renL, AV.ren, AV.belL, AV.bel, rn]) (by simp) (by simp [PV, Tb, Ps, Psn, Ns, Cs, Csn, fP, pL, fE, errD, errF, pgetD, nodeD, sl, pods_length, nds_length]) (by simp [PV, Tb, Ps, Psn, Ns, Cs, Csn, fP, pL, fE, errD, errF, pgetD, nodeD, sl, pods_length, nds_length, AV.ren, AV.renL, rn]) (by simp [AV.belL, AV.bel]) (WK.now ?_)
  simp only [push_cast, simprocAttr, pods_length, nds_length, fP, pL]
  refine ARng.funcG (fun fn lo hlo => ?_)
  simp only [push_cast, simprocAttr, pods_length, nds_length, fP, pL]
  refine acalls_of envOk Tryz.func153 rfl (by kernel_rfl) (m := 36) rfl ?_
  simp only [push_cast, simprocAttr, pods_length, nds_length, fP, pL]
  refine WK.now ?_
  simp only [push_cast, simprocAttr, pods_length, nds_length, fP, pL]
  subst hlo
  refine Krng.go rfl (WK.now ?_)
  simp only [push_cast, simprocAttr, pods_length, nds_length, fP, pL]
  refine WK.now ?_
  simp only [push_cast, simprocAttr, pods_length, nds_length, fP, pL]
theorem pAll_nil : PCall env 60 [.nilp] .nils := by
  refine acalls_of envOk Tryz.func60 rfl (by kernel_rfl) (m := 4) rfl ?_
  simp only [push_cast, simprocAttr, pods_length, nds_length, fP, pL]
  refine (plistN_ok 97 rfl).go (by first | exact ⟨.inl rfl, trivial⟩ | exact ⟨.inl rfl, .inl rfl, trivial⟩ | exact ⟨.inl rfl, .inl rfl, .inl rfl, trivial⟩ | simp [argsOk, argOk, sl, sll]) (WK.now ?_)
  simp only [push_cast, simprocAttr, pods_length, nds_length, fP, pL]
  refine WK.now ?_
  simp only [push_cast, simprocAttr, pods_length, nds_length, fP, pL]
theorem cpods_nil : PCall env 17 [.nilp] .nils := by
  refine acalls_of envOk Tryz.func17 rfl (by kernel_rfl) (m := 6) rfl ?_
  simp only [push_cast, simprocAttr, pods_length, nds_length, fP, pL]
  refine cstate_nil.go (by first | exact ⟨.inl rfl, trivial⟩ | exact ⟨.inl rfl, .inl rfl, trivial⟩ | exact ⟨.inl rfl, .inl rfl, .inl rfl, trivial⟩ | simp [argsOk, argOk, sl, sll]) (WK.now ?_)
  simp only [push_cast, simprocAttr, pods_length, nds_length, fP, pL]
  refine pAll_nil.go (by first | exact ⟨.inl rfl, trivial⟩ | exact ⟨.inl rfl, .inl rfl, trivial⟩ | exact ⟨.inl rfl, .inl rfl, .inl rfl, trivial⟩ | simp [argsOk, argOk, sl, sll]) (WK.now ?_)
  simp only [push_cast, simprocAttr, pods_length, nds_length, fP, pL]
  refine WK.now ?_
  simp only [push_cast, simprocAttr, pods_length, nds_length, fP, pL]
end Go.Proofs.YtcmhdpbmcgglmaaGreatDoor
end
section
set_option autoImplicit false
set_option linter.unusedVariables false
set_option linter.unusedSimpArgs false
namespace Go.Proofs.YtcmhdpbmcgglmaaGreatDoor
open Go.Abs
def cp1 : Pod := (⟨1, 0, false, 0, 0, 0, 0, 0⟩, [3])
def cp2 : Pod := (⟨2, 0, false, 0, 0, 0, 0, 0⟩, [3])
def cq1 : Pod := (⟨1, 0, false, 0, 0, 1, -1, -1⟩, [3])
def cq2 : Pod := (⟨2, 0, false, 0, 1, 1, -1, -1⟩, [3])
def cb1 : Pod := (⟨1, 0, false, 0, 0, 3, 7, -1⟩, [3])
def cg1 : Pod := (⟨1, 0, false, 0, 0, 5, -1, -1⟩, [3])
def cw2 : Cl := ⟨1, [(1, cq1)], [1], [(7, 7, [5], [0])]⟩
def cw3 : Cl := ⟨1, [(1, cq1), (2, cq2)], [1, 2], [(7, 7, [5], [0])]⟩
def cw4 : Cl := ⟨1, [(1, cb1), (2, cq2)], [1, 2], [(7, 7, [5], [3])]⟩
def cw5 : Cl := ⟨1, [(1, cg1), (2, cq2)], [1, 2], [(7, 7, [5], [0])]⟩
def cw6 : Cl := ⟨1, [(1, cg1), (2, cq2)], [1, 2], []⟩
theorem cg1_eq : dropP cb1 = cg1 := rfl
theorem cw_sub1 : clSubmit gw1 cp1 = (cw2, none) := by
  unfold clSubmit
  have : wrongS cp1.2 gw1.d = -1 := by decide
  rw [this]
  rfl
theorem cw_sub2 : clSubmit cw2 cp2 = (cw3, none) := by
  unfold clSubmit
  have : wrongS cp2.2 cw2.d = -1 := by decide
  rw [this]
  rfl
theorem ch_held : heldS [3] (7, [5], [0]) = some [3] := heldS_yes rfl rfl fun k hk => by
  obtain rfl : k = 0 := by simpa using hk
  decide
theorem ch_full : heldS [3] (7, [5], [3]) = none := by
  unfold heldS
  rw [show addS [(7, [5], [3]).2.2, [3]] = some [6] from addS_two (u := [3]) (v := [3]) rfl (fun k hk => by
    obtain rfl : k = 0 := by simpa using hk
    simp [I64])]
  show (bif B (FitsP [6] [5]) then some [6] else none) = none
  rw [fits1]
  rfl
theorem ch_freed : freedS [3] (7, [5], [3]) = some [0] := by
  unfold freedS
  rw [subS_yes (a := [3]) (b := [3]) rfl fun k hk => by
    have h0 : k = 0 := by simpa using hk
    subst h0
    decide]
  rfl
theorem ch_w : wrongS [3] 1 = -1 := by decide
theorem ch_E3 : chgE cw3.N cw3.d 7 cq1.2 (heldS cq1.2) = none := by
  unfold chgE
  have h1 : lget cw3.N 7 = some (7, [5], [0]) := rfl
  have h2 : wrongS cq1.2 cw3.d = -1 := ch_w
  rw [h1, h2]
  show (match heldS [3] (7, [5], [0]) with | none => _ | some _ => none) = none
  rw [ch_held]
theorem ch_L3 : chgL cw3.N cw3.d 7 cq1.2 (heldS cq1.2) = [(7, 7, [5], [3])] := by
  unfold chgL
  have h1 : lget cw3.N 7 = some (7, [5], [0]) := rfl
  have h2 : wrongS cq1.2 cw3.d = -1 := ch_w
  rw [h1, h2]
  show (match heldS [3] (7, [5], [0]) with | none => _ | some u => lput cw3.N 7 (7, [5], u)) = _
  rw [ch_held]
  rfl
theorem ch_E4 : chgE cw4.N cw4.d 7 cq2.2 (heldS cq2.2) = some (10, 0) := by
  unfold chgE
  have h1 : lget cw4.N 7 = some (7, [5], [3]) := rfl
  have h2 : wrongS cq2.2 cw4.d = -1 := ch_w
  rw [h1, h2]
  dsimp only
  rw [if_neg (by decide), show heldS cq2.2 (7, [5], [3]) = none from ch_full]
theorem ch_Ef : chgE cw4.N cw4.d 7 cb1.2 (freedS cb1.2) = none := by
  unfold chgE
  have h1 : lget cw4.N 7 = some (7, [5], [3]) := rfl
  have h2 : wrongS cb1.2 cw4.d = -1 := ch_w
  rw [h1, h2]
  dsimp only
  rw [if_neg (by decide), show freedS cb1.2 (7, [5], [3]) = some [0] from ch_freed]
theorem ch_Lf : chgL cw4.N cw4.d 7 cb1.2 (freedS cb1.2) = [(7, 7, [5], [0])] := by
  unfold chgL
  have h1 : lget cw4.N 7 = some (7, [5], [3]) := rfl
  have h2 : wrongS cb1.2 cw4.d = -1 := ch_w
  rw [h1, h2]
  show (match freedS [3] (7, [5], [3]) with | none => _ | some u => lput cw4.N 7 (7, [5], u)) = _
  rw [ch_freed]
  rfl
theorem cw_bind1 : (clPlace cw3 1 7 1).1 = cw4 ∧ placeD cw3 1 7 1 = .tup [fP cb1, .nili] := by
  have h1 : lget cw3.L 1 = some cq1 := rfl
  have h2 : lget cw3.N 7 = some (7, [5], [0]) := rfl
  have h3 : nextP cq1.1.ph 1 = some 3 := rfl
  constructor
  · unfold clPlace
    rw [h1, h2]
    dsimp only
    rw [h3]
    dsimp only
    rw [if_pos rfl, ch_E3, ch_L3]
    rfl
  · unfold placeD
    rw [h1, h2]
    dsimp only
    rw [h3]
    dsimp only
    rw [if_pos rfl, ch_E3]
    rfl
theorem cw_bind2 : (clPlace cw4 2 7 1).1 = cw4 ∧ placeD cw4 2 7 1 = .tup [zP, errF (some (10, 0))] := by
  have h1 : lget cw4.L 2 = some cq2 := rfl
  have h2 : lget cw4.N 7 = some (7, [5], [3]) := rfl
  have h3 : nextP cq2.1.ph 1 = some 3 := rfl
  constructor
  · unfold clPlace
    rw [h1, h2]
    dsimp only
    rw [h3]
    dsimp only
    rw [if_pos rfl, ch_E4]
    rfl
  · unfold placeD
    rw [h1, h2]
    dsimp only
    rw [h3]
    dsimp only
    rw [if_pos rfl, ch_E4]
    rfl
theorem cw_change : (clChange cw4 1 5 (-1)).1 = cw5 ∧ changeD cw4 1 5 (-1) = .tup [fP cg1, .nili] := by
  have h1 : lget cw4.L 1 = some cb1 := rfl
  have h3 : nextP cb1.1.ph 5 = some 5 := rfl
  have h5 : (5 : Int) = 5 ∧ holdsP cb1.1.ph := ⟨rfl, .inl rfl⟩
  have hnd : cb1.1.nd = 7 := rfl
  constructor
  · unfold clChange
    rw [h1]
    dsimp only
    rw [if_neg (by decide), h3]
    dsimp only
    rw [if_pos h5, hnd, ch_Ef, ch_Lf]
    rfl
  · unfold changeD
    rw [h1]
    dsimp only
    rw [if_neg (by decide), h3]
    dsimp only
    rw [if_pos h5, hnd, ch_Ef]
    rfl
theorem ch_lget {a b : Pod} {k : Int} {p : Pod} (h : lget [((1 : Int), a), (2, b)] k = some p) : p = a ∨ p = b := by
  have hm := (lget_mem (by simp [NoDup])).1 h
  simp only [List.mem_cons, Prod.mk.injEq, List.not_mem_nil, or_false] at hm
  rcases hm with ⟨_, h⟩ | ⟨_, h⟩
  · exact .inl h
  · exact .inr h
theorem ch_InE {u : Int} (hu : I64 u) : InE [((7 : Int), ((7 : Int), [5], [u]))] := fun k e h => by
  obtain rfl := lget_one h
  exact ⟨inR_of (by simp [I64]), inR_of (by simpa using hu), by unfold Sz; simp, by unfold Sz; simp⟩
theorem ch_ok {a b : Pod} {N : List (Int × Ent)} (ha : a.2 = [3]) (hb : b.2 = [3]) (hN : InE N) (hl : N.length ≤ 4611686018427387904) : ClOk ⟨1, [(1, a), (2, b)], [1, 2], N⟩ :=
  ⟨fun k p h => by rcases ch_lget h with rfl | rfl <;> first | (rw [ha]; unfold Sz; decide) | (rw [hb]; unfold Sz; decide), (show ([1, 2] : List Int).length ≤ 1000000 by decide), fun k hk => by
    have : k = 1 ∨ k = 2 := by simpa using hk
    rcases this with rfl | rfl <;> rfl, hN, (show (2 : Nat) ≤ 4611686018427387904 by omega), hl, (show (1 : Int) ≤ 1000000 by omega), fun k p h => by rcases ch_lget h with rfl | rfl <;> first | (rw [ha]; exact inR_of (by simp [I64])) | (rw [hb]; exact inR_of (by simp [I64]))⟩
theorem ok_gw1 : ClOk gw1 := ⟨fun k p h => (by cases h), by unfold Sz; decide, fun k hk => (by cases hk), ch_InE (by simp [I64]), by decide, by decide, by decide, fun k p h => (by cases h)⟩
theorem ok_cw2 : ClOk cw2 := ⟨fun k p h => (by obtain rfl := lget_one h; unfold Sz; decide), by unfold Sz; decide, fun k hk => (by
    obtain rfl : k = 1 := by simpa [cw2] using hk
    rfl), ch_InE (by simp [I64]), by decide, by decide, by decide, fun k p h => (by obtain rfl := lget_one h; exact inR_of (by simp [I64, cq1]))⟩
theorem ok_cw3 : ClOk cw3 := ch_ok rfl rfl (ch_InE (by simp [I64])) (by decide)
theorem ok_cw4 : ClOk cw4 := ch_ok rfl rfl (ch_InE (by simp [I64])) (by decide)
theorem ok_cw6 : ClOk cw6 := ch_ok rfl rfl (fun k e h => by cases h) (by decide)
theorem cw_free : freeD (lget cw4.N 7) = some [2] := by
  show subS [5] [3] = some [2]
  rw [subS_yes (a := [5]) (b := [3]) rfl fun k hk => by
    have h0 : k = 0 := by simpa using hk
    subst h0
    decide]
  rfl
theorem cw_nd : ndL cw6 = [] := by
  unfold ndL
  rw [show srt (cw6.N.map (·.1)) = [] from srt_unique (.refl _) List.Pairwise.nil]
  rfl
theorem cw_on : listed cw4.L (onP 7) cw4.ids = [cb1] := rfl
theorem cw_all : listed cw6.L (fun _ => true) cw6.ids = [cg1, cq2] := rfl
theorem cw_del : ({ cw5 with N := ldel cw5.N 7 } : Cl) = cw6 := rfl
end Go.Proofs.YtcmhdpbmcgglmaaGreatDoor
end
section
set_option autoImplicit false
set_option linter.unusedVariables false
set_option linter.unusedSimpArgs false
namespace Go.Proofs.YtcmhdpbmcgglmaaGreatDoor
open Go.Abs
set_option maxRecDepth 8000 in
set_option maxHeartbeats 1000000 in
theorem awake14_ok : PCall env 13 [] (.bool true) := by
  have hb1 := cbind_ok cw3 1 7 ok_cw3
  rw [cw_bind1.1, cw_bind1.2] at hb1
  have hb2 := cbind_ok cw4 2 7 ok_cw4
  rw [cw_bind2.1, cw_bind2.2] at hb2
  have hs1 := csubmit_new gw1 cp1 ok_gw1 (by unfold Sz; decide) (by rw [cw_sub1])
  rw [cw_sub1, show fP (submitP cp1 gw1.ids.length) = fP cq1 from rfl] at hs1
  have hs2 := csubmit_new cw2 cp2 ok_cw2 (by unfold Sz; decide) (by rw [cw_sub2])
  rw [cw_sub2, show fP (submitP cp2 cw2.ids.length) = fP cq2 from rfl] at hs2
  have hpo := cpod_ok cw4 2 ok_cw4.L
  rw [show pgetD (lget cw4.L 2) = .tup [fP cq2, .bool true] from rfl] at hpo
  have hfr := cfree_ok cw4 7 ok_cw4.N
  rw [cw_free] at hfr
  have hdr := cdrop_one (c := cw4) (cn := cw5) ok_cw4 7 (e := (7, [5], [3])) (e' := (7, [5], [0])) (p := cb1) rfl cw_on rfl cw_change.2 cw_change.1 rfl
  rw [cw_del, cg1_eq] at hdr
  have hnd := cnodes_ok cw6 ok_cw6.N (by decide)
  rw [cw_nd] at hnd
  have hps := cpods_ok cw6 ⟨ok_cw6.L, ok_cw6.i, ok_cw6.hin⟩
  rw [cw_all] at hps
  have hdm := cdims_ok cw6
  have ht1 := told_ok (some (10, 0)) 10 0
  rw [show toldB (some (10, 0)) 10 0 = true from rfl] at ht1
  have ht2 := told_ok (some (5, 0)) 5 0
  rw [show toldB (some (5, 0)) 5 0 = true from rfl] at ht2
  have hcn := cadd_nil 0
  refine acalls_of envOk Tryz.func13 rfl (by kernel_rfl) (m := 139) rfl ?_
  simp only [push_cast, simprocAttr, pods_length, nds_length, fP, pL]
  refine (cnew_ok 1).at [] (by simp [cp1, cp2, PV, Tb, Ps, Psn, Ns, Cs, Csn, fP, pL, fE, errD, errF, pgetD, nodeD, sl, pods_length, nds_length, sbl, ren_none, ren_var, ren_arr, ren_map, ren_mapb, ren_iter, ren_loop, ren_defr, bel_none, bel_var, bel_arr, bel_map, bel_mapb, bel_iter, bel_loop, bel_defr, AV.renL, AV.ren, AV.belL, AV.bel, rn]) (by simp) (by simp [cp1, cp2, PV, Tb, Ps, Psn, Ns, Cs, Csn, fP, pL, fE, errD, errF, pgetD, nodeD, sl, pods_length, nds_length]) (by simp [cp1, cp2, PV, Tb, Ps, Psn, Ns, Cs, Csn, fP, pL, fE, errD, errF, pgetD, nodeD, sl, pods_length, nds_length, AV.ren, AV.renL, rn]) (by simp [AV.belL, AV.bel]) (WK.now ?_)
  simp only [Cs, ints_one, push_cast, simprocAttr, pods_length, nds_length, fP, pL]
  refine ACalls.lowA ?_
  simp only [AV.lowA, push_cast, simprocAttr, pods_length, nds_length, fP, pL]
  refine (cadd_ok ⟨max 1 0, [], [], []⟩ 7 [5] (by decide) (by decide) (by decide)).at [0, 1, 2, 3, 4, 5, 6, 7] (by simp [cp1, cp2, PV, Tb, Ps, Psn, Ns, Cs, Csn, fP, pL, fE, errD, errF, pgetD, nodeD, sl, pods_length, nds_length, sbl, ren_none, ren_var, ren_arr, ren_map, ren_mapb, ren_iter, ren_loop, ren_defr, bel_none, bel_var, bel_arr, bel_map, bel_mapb, bel_iter, bel_loop, bel_defr, AV.renL, AV.ren, AV.belL, AV.bel, rn]) (by simp) (by simp [cp1, cp2, PV, Tb, Ps, Psn, Ns, Cs, Csn, fP, pL, fE, errD, errF, pgetD, nodeD, sl, pods_length, nds_length]) (by simp [cp1, cp2, PV, Tb, Ps, Psn, Ns, Cs, Csn, fP, pL, fE, errD, errF, pgetD, nodeD, sl, pods_length, nds_length, AV.ren, AV.renL, rn]) (by simp [AV.belL, AV.bel]) (WK.now ?_)
  rw [g_add1]
  simp only [g_addE1, errF, Cs, ints_one, push_cast, simprocAttr, pods_length, nds_length, fP, pL]
  refine ACalls.lowA ?_
  simp only [AV.lowA, push_cast, simprocAttr, pods_length, nds_length, fP, pL]
  refine hs1.at [0, 1, 2, 3, 4, 5, 6, 7] (by simp [cp1, cp2, PV, Tb, Ps, Psn, Ns, Cs, Csn, fP, pL, fE, errD, errF, pgetD, nodeD, sl, pods_length, nds_length, sbl, ren_none, ren_var, ren_arr, ren_map, ren_mapb, ren_iter, ren_loop, ren_defr, bel_none, bel_var, bel_arr, bel_map, bel_mapb, bel_iter, bel_loop, bel_defr, AV.renL, AV.ren, AV.belL, AV.bel, rn]) (by simp) (by simp [cp1, cp2, PV, Tb, Ps, Psn, Ns, Cs, Csn, fP, pL, fE, errD, errF, pgetD, nodeD, sl, pods_length, nds_length]) (by simp [cp1, cp2, PV, Tb, Ps, Psn, Ns, Cs, Csn, fP, pL, fE, errD, errF, pgetD, nodeD, sl, pods_length, nds_length, AV.ren, AV.renL, rn]) (by simp [AV.belL, AV.bel]) (WK.now ?_)
  simp only [Csn, ints_one, push_cast, simprocAttr, pods_length, nds_length, fP, pL]
  refine ACalls.lowA ?_
  simp only [AV.lowA, push_cast, simprocAttr, pods_length, nds_length, fP, pL]
  refine hs2.at [0, 1, 2, 8, 4, 5, 6, 7] (by simp [cp1, cp2, PV, Tb, Ps, Psn, Ns, Cs, Csn, fP, pL, fE, errD, errF, pgetD, nodeD, sl, pods_length, nds_length, sbl, ren_none, ren_var, ren_arr, ren_map, ren_mapb, ren_iter, ren_loop, ren_defr, bel_none, bel_var, bel_arr, bel_map, bel_mapb, bel_iter, bel_loop, bel_defr, AV.renL, AV.ren, AV.belL, AV.bel, rn]) (by simp) (by simp [cp1, cp2, PV, Tb, Ps, Psn, Ns, Cs, Csn, fP, pL, fE, errD, errF, pgetD, nodeD, sl, pods_length, nds_length]) (by simp [cp1, cp2, PV, Tb, Ps, Psn, Ns, Cs, Csn, fP, pL, fE, errD, errF, pgetD, nodeD, sl, pods_length, nds_length, AV.ren, AV.renL, rn]) (by simp [AV.belL, AV.bel]) (WK.now ?_)
  simp only [Csn, push_cast, simprocAttr, pods_length, nds_length, fP, pL]
  refine hb1.at [0, 1, 2, 10, 4, 5, 6, 7] (by simp [cp1, cp2, PV, Tb, Ps, Psn, Ns, Cs, Csn, fP, pL, fE, errD, errF, pgetD, nodeD, sl, pods_length, nds_length, sbl, ren_none, ren_var, ren_arr, ren_map, ren_mapb, ren_iter, ren_loop, ren_defr, bel_none, bel_var, bel_arr, bel_map, bel_mapb, bel_iter, bel_loop, bel_defr, AV.renL, AV.ren, AV.belL, AV.bel, rn]) (by simp) (by simp [cp1, cp2, PV, Tb, Ps, Psn, Ns, Cs, Csn, fP, pL, fE, errD, errF, pgetD, nodeD, sl, pods_length, nds_length]) (by simp [cp1, cp2, PV, Tb, Ps, Psn, Ns, Cs, Csn, fP, pL, fE, errD, errF, pgetD, nodeD, sl, pods_length, nds_length, AV.ren, AV.renL, rn]) (by simp [AV.belL, AV.bel]) (WK.now ?_)
  simp only [Cs, push_cast, simprocAttr, pods_length, nds_length, fP, pL]
  refine hb2.at [0, 1, 2, 10, 4, 5, 6, 7] (by simp [cp1, cp2, PV, Tb, Ps, Psn, Ns, Cs, Csn, fP, pL, fE, errD, errF, pgetD, nodeD, sl, pods_length, nds_length, sbl, ren_none, ren_var, ren_arr, ren_map, ren_mapb, ren_iter, ren_loop, ren_defr, bel_none, bel_var, bel_arr, bel_map, bel_mapb, bel_iter, bel_loop, bel_defr, AV.renL, AV.ren, AV.belL, AV.bel, rn]) (by simp) (by simp [cp1, cp2, PV, Tb, Ps, Psn, Ns, Cs, Csn, fP, pL, fE, errD, errF, pgetD, nodeD, sl, pods_length, nds_length]) (by simp [cp1, cp2, PV, Tb, Ps, Psn, Ns, Cs, Csn, fP, pL, fE, errD, errF, pgetD, nodeD, sl, pods_length, nds_length, AV.ren, AV.renL, rn]) (by simp [AV.belL, AV.bel]) (WK.now ?_)
  simp only [Cs, zP, errF, push_cast, simprocAttr, pods_length, nds_length, fP, pL]
  refine hpo.at [0, 1, 2, 10, 4, 5, 6, 7] (by simp [cp1, cp2, PV, Tb, Ps, Psn, Ns, Cs, Csn, fP, pL, fE, errD, errF, pgetD, nodeD, sl, pods_length, nds_length, sbl, ren_none, ren_var, ren_arr, ren_map, ren_mapb, ren_iter, ren_loop, ren_defr, bel_none, bel_var, bel_arr, bel_map, bel_mapb, bel_iter, bel_loop, bel_defr, AV.renL, AV.ren, AV.belL, AV.bel, rn]) (by simp) (by simp [cp1, cp2, PV, Tb, Ps, Psn, Ns, Cs, Csn, fP, pL, fE, errD, errF, pgetD, nodeD, sl, pods_length, nds_length]) (by simp [cp1, cp2, PV, Tb, Ps, Psn, Ns, Cs, Csn, fP, pL, fE, errD, errF, pgetD, nodeD, sl, pods_length, nds_length, AV.ren, AV.renL, rn]) (by simp [AV.belL, AV.bel]) (WK.now ?_)
  simp only [Cs, push_cast, simprocAttr, pods_length, nds_length, fP, pL]
  refine hfr.at [0, 1, 2, 10, 4, 5, 6, 7] (by simp [cp1, cp2, PV, Tb, Ps, Psn, Ns, Cs, Csn, fP, pL, fE, errD, errF, pgetD, nodeD, sl, pods_length, nds_length, sbl, ren_none, ren_var, ren_arr, ren_map, ren_mapb, ren_iter, ren_loop, ren_defr, bel_none, bel_var, bel_arr, bel_map, bel_mapb, bel_iter, bel_loop, bel_defr, AV.renL, AV.ren, AV.belL, AV.bel, rn]) (by simp) (by simp [cp1, cp2, PV, Tb, Ps, Psn, Ns, Cs, Csn, fP, pL, fE, errD, errF, pgetD, nodeD, sl, pods_length, nds_length]) (by simp [cp1, cp2, PV, Tb, Ps, Psn, Ns, Cs, Csn, fP, pL, fE, errD, errF, pgetD, nodeD, sl, pods_length, nds_length, AV.ren, AV.renL, rn]) (by simp [AV.belL, AV.bel]) (WK.now ?_)
  simp only [Cs, rowD, push_cast, simprocAttr, pods_length, nds_length, fP, pL]
  refine hdr.at [0, 1, 2, 10, 4, 5, 6, 7] (by simp [cp1, cp2, PV, Tb, Ps, Psn, Ns, Cs, Csn, fP, pL, fE, errD, errF, pgetD, nodeD, sl, pods_length, nds_length, sbl, ren_none, ren_var, ren_arr, ren_map, ren_mapb, ren_iter, ren_loop, ren_defr, bel_none, bel_var, bel_arr, bel_map, bel_mapb, bel_iter, bel_loop, bel_defr, AV.renL, AV.ren, AV.belL, AV.bel, rn]) (by simp) (by simp [cp1, cp2, PV, Tb, Ps, Psn, Ns, Cs, Csn, fP, pL, fE, errD, errF, pgetD, nodeD, sl, pods_length, nds_length]) (by simp [cp1, cp2, PV, Tb, Ps, Psn, Ns, Cs, Csn, fP, pL, fE, errD, errF, pgetD, nodeD, sl, pods_length, nds_length, AV.ren, AV.renL, rn]) (by simp [AV.belL, AV.bel]) (WK.now ?_)
  have e1 : (cb1.1.ph == 3) = true := rfl
  have e2 : (cq2.1.ph == 1) = true := rfl
  have e3 : (cg1.1.ph == 5) = true := rfl
  simp only [Cs, e1, e2, e3, List.append_eq, push_cast, simprocAttr, pods_length, nds_length, fP, pL]
  refine ht1.go (by first | exact ⟨.inl rfl, trivial⟩ | exact ⟨.inl rfl, .inl rfl, trivial⟩ | exact ⟨.inl rfl, .inl rfl, .inl rfl, trivial⟩ | simp [argsOk, argOk, sl, sll]) (WK.now ?_)
  simp only [e1, e2, e3, List.append_eq, ints_one, push_cast, simprocAttr, pods_length, nds_length, fP, pL]
  refine (rsame_ok [2] [2] (by unfold Sz; decide) (by unfold Sz; decide)).go (by simp [argsOk, argOk, sl, sll, ints, intss]) (WK.now ?_)
  have c0 : 0 < ([cg1] : List Pod).length := by decide
  have e4 : cel (pods [cg1]) 0 6 = .int .i64 5 := rfl
  simp only [B_true (show ([2] : List Int) = [2] from rfl), e1, e2, e3, e4, c0, List.append_eq, push_cast, simprocAttr, pods_length, nds_length, fP, pL]
  refine hnd.at [0, 1, 2, 10, 4, 5, 6, 7] (by simp [cp1, cp2, PV, Tb, Ps, Psn, Ns, Cs, Csn, fP, pL, fE, errD, errF, pgetD, nodeD, sl, pods_length, nds_length, sbl, ren_none, ren_var, ren_arr, ren_map, ren_mapb, ren_iter, ren_loop, ren_defr, bel_none, bel_var, bel_arr, bel_map, bel_mapb, bel_iter, bel_loop, bel_defr, AV.renL, AV.ren, AV.belL, AV.bel, rn]) (by simp) (by simp [cp1, cp2, PV, Tb, Ps, Psn, Ns, Cs, Csn, fP, pL, fE, errD, errF, pgetD, nodeD, sl, pods_length, nds_length]) (by simp [cp1, cp2, PV, Tb, Ps, Psn, Ns, Cs, Csn, fP, pL, fE, errD, errF, pgetD, nodeD, sl, pods_length, nds_length, AV.ren, AV.renL, rn]) (by simp [AV.belL, AV.bel]) (WK.now ?_)
  simp only [Cs, nds, List.append_eq, push_cast, simprocAttr, pods_length, nds_length, fP, pL]
  refine hps.at [0, 1, 2, 10, 4, 5, 6, 7] (by simp [cp1, cp2, PV, Tb, Ps, Psn, Ns, Cs, Csn, fP, pL, fE, errD, errF, pgetD, nodeD, sl, pods_length, nds_length, sbl, ren_none, ren_var, ren_arr, ren_map, ren_mapb, ren_iter, ren_loop, ren_defr, bel_none, bel_var, bel_arr, bel_map, bel_mapb, bel_iter, bel_loop, bel_defr, AV.renL, AV.ren, AV.belL, AV.bel, rn]) (by simp) (by simp [cp1, cp2, PV, Tb, Ps, Psn, Ns, Cs, Csn, fP, pL, fE, errD, errF, pgetD, nodeD, sl, pods_length, nds_length]) (by simp [cp1, cp2, PV, Tb, Ps, Psn, Ns, Cs, Csn, fP, pL, fE, errD, errF, pgetD, nodeD, sl, pods_length, nds_length, AV.ren, AV.renL, rn]) (by simp [AV.belL, AV.bel]) (WK.now ?_)
  have e5 : (cw6.d == 1) = true := rfl
  simp only [Cs, List.append_eq, push_cast, simprocAttr, pods_length, nds_length, fP, pL]
  refine hdm.at [0, 1, 2, 10, 4, 5, 6, 7] (by simp [cp1, cp2, PV, Tb, Ps, Psn, Ns, Cs, Csn, fP, pL, fE, errD, errF, pgetD, nodeD, sl, pods_length, nds_length, sbl, ren_none, ren_var, ren_arr, ren_map, ren_mapb, ren_iter, ren_loop, ren_defr, bel_none, bel_var, bel_arr, bel_map, bel_mapb, bel_iter, bel_loop, bel_defr, AV.renL, AV.ren, AV.belL, AV.bel, rn]) (by simp) (by simp [cp1, cp2, PV, Tb, Ps, Psn, Ns, Cs, Csn, fP, pL, fE, errD, errF, pgetD, nodeD, sl, pods_length, nds_length]) (by simp [cp1, cp2, PV, Tb, Ps, Psn, Ns, Cs, Csn, fP, pL, fE, errD, errF, pgetD, nodeD, sl, pods_length, nds_length, AV.ren, AV.renL, rn]) (by simp [AV.belL, AV.bel]) (WK.now ?_)
  simp only [Cs, e5, List.append_eq, push_cast, simprocAttr, pods_length, nds_length, fP, pL]
  refine hcn.go (by first | exact ⟨.inl rfl, trivial⟩ | exact ⟨.inl rfl, .inl rfl, trivial⟩ | exact ⟨.inl rfl, .inl rfl, .inl rfl, trivial⟩ | simp [argsOk, argOk, sl, sll]) (WK.now ?_)
  simp only [errF, List.append_eq, push_cast, simprocAttr, pods_length, nds_length, fP, pL]
  refine ht2.go (by first | exact ⟨.inl rfl, trivial⟩ | exact ⟨.inl rfl, .inl rfl, trivial⟩ | exact ⟨.inl rfl, .inl rfl, .inl rfl, trivial⟩ | simp [argsOk, argOk, sl, sll]) (WK.now ?_)
  simp only [List.append_eq, push_cast, simprocAttr, pods_length, nds_length, fP, pL]
  refine cpods_nil.go (by first | exact ⟨.inl rfl, trivial⟩ | exact ⟨.inl rfl, .inl rfl, trivial⟩ | exact ⟨.inl rfl, .inl rfl, .inl rfl, trivial⟩ | simp [argsOk, argOk, sl, sll]) (WK.now ?_)
  simp only [List.append_eq, push_cast, simprocAttr, pods_length, nds_length, fP, pL]
  refine WK.now ?_
  simp only [push_cast, simprocAttr, pods_length, nds_length, fP, pL]
end Go.Proofs.YtcmhdpbmcgglmaaGreatDoor
end
