/-
  ReserveLower, walked.
-/
import Derived.Test.YtglmkjgajbiaaaaGreatDoorB3
section
set_option autoImplicit false
set_option linter.unusedVariables false
set_option linter.unusedSimpArgs false
namespace Go.Proofs.YtglmkjgajbiaaaaGreatDoor
open Go.Abs
theorem fewP_one (p : Pod) : FewP [p] ↔ okP p := by
  constructor
  · intro h; exact h.1 0 (by simp)
  · intro h
    refine ⟨fun j hj => ?_, by simp⟩
    obtain rfl : j = 0 := by simpa using hj
    exact h
def idl (l : List Pod) : List Int := l.map (·.1.id)
theorem idl_cons {l : List Pod} {i : Nat} (h : i < l.length) : idl (l.drop i) = (l.getD i pz).1.id :: idl (l.drop (i + 1)) := by
  unfold idl
  rw [List.drop_eq_getElem_cons h, List.map_cons, List.getD_eq_getElem?_getD, List.getElem?_eq_getElem h]
  rfl
theorem sub_ne {x y : Int} {l m : List Int} (hne : x ≠ y) (h : (x :: l).Sublist (y :: m)) : (x :: l).Sublist m := by
  cases h with
  | cons _ h => exact h
  | cons_cons _ _ => exact absurd rfl hne
def lowP (p : Pod) (m : Int) : Pod := ({ p.1 with pr := p.1.pr - m }, p.2)
theorem low_sub (w : Rc) (p : Pod) (m n : Int) (hm : 0 ≤ m) : (w.pods.filter fun q => B (SeesP p q n)).Sublist (w.pods.filter fun q => B (SeesP (lowP p m) q n)) := by
  have e : (w.pods.filter fun q => B (SeesP p q n)) = (w.pods.filter fun q => B (SeesP (lowP p m) q n)).filter fun q => B (SeesP p q n) := by
    rw [List.filter_filter]
    refine List.filter_congr fun q _ => ?_
    cases hb : B (SeesP p q n) with
    | false => simp
    | true =>
      have h := B_iff.1 hb
      rw [B_true (show SeesP (lowP p m) q n from ⟨h.1, h.2.1, h.2.2.1, by show p.1.pr - m ≤ q.1.pr; have := h.2.2.2; omega⟩)]
      rfl
  rw [e]
  exact List.filter_sublist
set_option maxRecDepth 8000 in
set_option maxHeartbeats 1000000 in
theorem reserveLower_ok (nodes : List (Int × List Int)) (ps : List Plc) (p : Pod) (m n : Int) (hm : 0 ≤ m ∧ m ≤ 255) : PCall env 4 [.slice 2 (nds nodes), .slice 11 (plcs ps), fP p, .int .u8 m, .int .i64 n] (.bool true) := by
  refine acalls_of envOk Tryz.func4 rfl (by kernel_rfl) (m := 76) rfl ?_
  simp only [push_cast, simprocAttr, pods_length, nds_length, fP, pL]
  refine (build_ok nodes ps).atK [] (by simp [lowP, PV, Tb, Ps, Psn, Ns, Cs, Csn, fP, pL, fE, errD, errF, pgetD, nodeD, sl, pods_length, nds_length, plcs_length, sbl, ren_none, ren_var, ren_arr, ren_map, ren_mapb, ren_iter, ren_loop, ren_defr, bel_none, bel_var, bel_arr, bel_map, bel_mapb, bel_iter, bel_loop, bel_defr, AV.renL, AV.ren, AV.belL, AV.bel, rn]) (by simp) (by simp [lowP, PV, Tb, Ps, Psn, Ns, Cs, Csn, fP, pL, fE, errD, errF, pgetD, nodeD, sl, pods_length, nds_length, plcs_length]) (by simp [lowP, PV, Tb, Ps, Psn, Ns, Cs, Csn, fP, pL, fE, errD, errF, pgetD, nodeD, sl, pods_length, nds_length, plcs_length, AV.ren, AV.renL, rn]) (by simp [AV.belL, AV.bel]) ?_
  rintro r H' (⟨x, y, z, rfl, rfl⟩ | ⟨c, w, rfl, rfl, h, hnl, hpl⟩)
  · refine WK.now ?_
    simp only [push_cast, simprocAttr, pods_length, nds_length, fP, pL]
    refine awake15_ok.go ⟨⟩ (WK.now ?_)
    simp only [push_cast, simprocAttr, pods_length, nds_length, fP, pL]
    refine awake15_ok.go ⟨⟩ (WK.now ?_)
    simp only [push_cast, simprocAttr, pods_length, nds_length, fP, pL]
    refine WK.now ?_
    simp only [push_cast, simprocAttr, pods_length, nds_length, fP, pL]
  · have hok := h.ok
    refine WK.now ?_
    simp only [Cs, fRc, push_cast, simprocAttr, pods_length, nds_length, fP, pL]
    refine awake15_ok.go ⟨⟩ (WK.now ?_)
    simp only [one_pod, push_cast, simprocAttr, pods_length, nds_length, fP, pL]
    refine (few_ok [p] (by simp)).go (by first | exact ⟨.inl rfl, trivial⟩ | exact ⟨.inl rfl, .inl rfl, trivial⟩ | exact ⟨.inl rfl, .inl rfl, .inl rfl, trivial⟩ | simp [argsOk, argOk, sl, sll]) (WK.now ?_)
    cases hf : B (FewP [p]) with
    | false =>
      simp only [push_cast, simprocAttr, pods_length, nds_length, fP, pL]
      refine awake15_ok.go ⟨⟩ (WK.now ?_)
      simp only [push_cast, simprocAttr, pods_length, nds_length, fP, pL]
      refine WK.now ?_
      simp only [push_cast, simprocAttr, pods_length, nds_length, fP, pL]
    | true =>
      have hp := (fewP_one p).1 (B_iff.1 hf)
      have e8 : IntKind.wrap .i64 m = m := wrapi (by omega) (by omega)
      have epr : IntKind.wrap .i64 (p.1.pr - m) = p.1.pr - m := wrapi (by have := hp.1; have := hp.2.1; omega) (by have := hp.1; have := hp.2.1; omega)
      simp only [e8, epr, push_cast, simprocAttr, pods_length, nds_length, fP, pL]
      refine (pods_ok c p n hok).at [1, 2, 3, 4, 5, 6, 7, 8] (by simp [lowP, PV, Tb, Ps, Psn, Ns, Cs, Csn, fP, pL, fE, errD, errF, pgetD, nodeD, sl, pods_length, nds_length, plcs_length, sbl, ren_none, ren_var, ren_arr, ren_map, ren_mapb, ren_iter, ren_loop, ren_defr, bel_none, bel_var, bel_arr, bel_map, bel_mapb, bel_iter, bel_loop, bel_defr, AV.renL, AV.ren, AV.belL, AV.bel, rn]) (by simp) (by simp [lowP, PV, Tb, Ps, Psn, Ns, Cs, Csn, fP, pL, fE, errD, errF, pgetD, nodeD, sl, pods_length, nds_length, plcs_length]) (by simp [lowP, PV, Tb, Ps, Psn, Ns, Cs, Csn, fP, pL, fE, errD, errF, pgetD, nodeD, sl, pods_length, nds_length, plcs_length, AV.ren, AV.renL, rn]) (by simp [AV.belL, AV.bel]) (WK.now ?_)
      simp only [Cs, push_cast, simprocAttr, pods_length, nds_length, fP, pL]
      refine (pods_ok c (lowP p m) n hok).at [1, 2, 3, 4, 5, 6, 7, 8] (by simp [lowP, PV, Tb, Ps, Psn, Ns, Cs, Csn, fP, pL, fE, errD, errF, pgetD, nodeD, sl, pods_length, nds_length, plcs_length, sbl, ren_none, ren_var, ren_arr, ren_map, ren_mapb, ren_iter, ren_loop, ren_defr, bel_none, bel_var, bel_arr, bel_map, bel_mapb, bel_iter, bel_loop, bel_defr, AV.renL, AV.ren, AV.belL, AV.bel, rn]) (by simp) (by simp [lowP, PV, Tb, Ps, Psn, Ns, Cs, Csn, fP, pL, fE, errD, errF, pgetD, nodeD, sl, pods_length, nds_length, plcs_length]) (by simp [lowP, PV, Tb, Ps, Psn, Ns, Cs, Csn, fP, pL, fE, errD, errF, pgetD, nodeD, sl, pods_length, nds_length, plcs_length, AV.ren, AV.renL, rn]) (by simp [AV.belL, AV.bel]) (WK.now ?_)
      rw [h.seen, h.seen]
      have hsub := low_sub w p m n hm.1
      obtain ⟨a, ha⟩ : ∃ a, a = w.pods.filter fun q => B (SeesP p q n) := ⟨_, rfl⟩
      obtain ⟨b, hb⟩ : ∃ b, b = w.pods.filter fun q => B (SeesP (lowP p m) q n) := ⟨_, rfl⟩
      have hal : a.length ≤ 40 := by rw [ha]; exact Nat.le_trans (List.length_filter_le _ _) hpl
      have hbl : b.length ≤ 40 := by rw [hb]; exact Nat.le_trans (List.length_filter_le _ _) hpl
      rw [← ha, ← hb] at hsub ⊢
      simp only [Cs, push_cast, simprocAttr, pods_length, nds_length, fP, pL]
      refine ALoop.mk (fun n t H ds => ∃ k i : Nat, n = b.length - i ∧ i ≤ b.length ∧ k ≤ a.length ∧ (idl (a.drop k)).Sublist (idl (b.drop i)) ∧ t = [.dead, .dead, .dead, .dead, .dead, .dead, .dead, .dead, .dead, .dead, .d (.bool false), .dead, .dead, .dead, .d (.slice 9 (pods a)), .d (.slice 9 (pods b)), .d (.int .i64 (k : Nat)), .d (.int .i64 (i : Nat)), .dead, .dead, .dead, .dead, .dead, .dead, .dead, .dead, .dead, .dead, .dead, .dead, .dead, .dead, .dead, .dead, .dead, .dead, .dead, .dead, .dead, .dead, .dead, .dead, .dead, .dead, .dead, .dead, .dead, .dead, .dead, .dead, .dead, .dead, .dead, .dead, .dead, .dead, .dead, .dead, .dead, .dead, .dead, .dead, .dead, .dead, .dead, .dead, .dead, .dead, .dead, .dead, .dead, .dead, .dead, .dead, .dead, .dead, .dead, .dead, .dead, .dead, .dead] ∧ H = [] ∧ ds = []) b.length
        (WK.fgt (t' := [.dead, .dead, .dead, .dead, .dead, .dead, .dead, .dead, .dead, .dead, .d (.bool false), .dead, .dead, .dead, .d (.slice 9 (pods a)), .d (.slice 9 (pods b)), .d (.int .i64 (0 : Nat)), .d (.int .i64 (0 : Nat)), .dead, .dead, .dead, .dead, .dead, .dead, .dead, .dead, .dead, .dead, .dead, .dead, .dead, .dead, .dead, .dead, .dead, .dead, .dead, .dead, .dead, .dead, .dead, .dead, .dead, .dead, .dead, .dead, .dead, .dead, .dead, .dead, .dead, .dead, .dead, .dead, .dead, .dead, .dead, .dead, .dead, .dead, .dead, .dead, .dead, .dead, .dead, .dead, .dead, .dead, .dead, .dead, .dead, .dead, .dead, .dead, .dead, .dead, .dead, .dead, .dead, .dead, .dead]) (by simp [fgt]) (WK.pick [] (t' := [.dead, .dead, .dead, .dead, .dead, .dead, .dead, .dead, .dead, .dead, .d (.bool false), .dead, .dead, .dead, .d (.slice 9 (pods a)), .d (.slice 9 (pods b)), .d (.int .i64 (0 : Nat)), .d (.int .i64 (0 : Nat)), .dead, .dead, .dead, .dead, .dead, .dead, .dead, .dead, .dead, .dead, .dead, .dead, .dead, .dead, .dead, .dead, .dead, .dead, .dead, .dead, .dead, .dead, .dead, .dead, .dead, .dead, .dead, .dead, .dead, .dead, .dead, .dead, .dead, .dead, .dead, .dead, .dead, .dead, .dead, .dead, .dead, .dead, .dead, .dead, .dead, .dead, .dead, .dead, .dead, .dead, .dead, .dead, .dead, .dead, .dead, .dead, .dead, .dead, .dead, .dead, .dead, .dead, .dead]) (H' := []) trivial (by simp) (by simp) (by simp [tellL, AV.ren, AV.renL, AV.bel, AV.belL, rn]) (by simp) (WK.now ⟨0, 0, by omega, by omega, by omega, hsub.map _, rfl, rfl, rfl⟩))) ?_
      rintro n' t H ds ⟨k, i, rfl, hi, hk, hs, rfl, rfl, rfl⟩
      by_cases c1 : i < b.length
      · by_cases c2 : k < a.length
        · have b1 : decide ((i : Int) < b.length) = true := decide_eq_true (by omega)
          have b2 : decide ((k : Int) < a.length) = true := decide_eq_true (by omega)
          have si : IntKind.wrap .i64 ((i : Int) + 1) = ((i + 1 : Nat) : Int) := by rw [wrapi (by omega) (by omega)]; rfl
          have sk : IntKind.wrap .i64 ((k : Int) + 1) = ((k + 1 : Nat) : Int) := by rw [wrapi (by omega) (by omega)]; rfl
          simp only [c1, c2, b1, b2, push_cast, simprocAttr, pods_length, nds_length, fP, pL]
          refine DRegL.det [] [0, 1, 2, 3, 4, 5, 6, 7, 8, 9, 10] [] (by kernel_rfl) (by kernel_rfl) (by kernel_rfl) ?_
          rw [idl_cons c1, idl_cons c2] at hs
          simp only [c1, c2, cel_id, push_cast, simprocAttr, pods_length, nds_length, fP, pL]
          refine Kbr.mk (fun g => ?_) (fun g => ?_)
          · have g1 : (b.getD i pz).1.id = (a.getD k pz).1.id := by simpa using g
            simp only [si, sk, push_cast, simprocAttr, pods_length, nds_length, fP, pL]
            rw [g1, List.cons_sublist_cons] at hs
            exact ⟨b.length - (i + 1), by omega, WK.fgt (t' := [.dead, .dead, .dead, .dead, .dead, .dead, .dead, .dead, .dead, .dead, .d (.bool false), .dead, .dead, .dead, .d (.slice 9 (pods a)), .d (.slice 9 (pods b)), .d (.int .i64 (k + 1 : Nat)), .d (.int .i64 (i + 1 : Nat)), .dead, .dead, .dead, .dead, .dead, .dead, .dead, .dead, .dead, .dead, .dead, .dead, .dead, .dead, .dead, .dead, .dead, .dead, .dead, .dead, .dead, .dead, .dead, .dead, .dead, .dead, .dead, .dead, .dead, .dead, .dead, .dead, .dead, .dead, .dead, .dead, .dead, .dead, .dead, .dead, .dead, .dead, .dead, .dead, .dead, .dead, .dead, .dead, .dead, .dead, .dead, .dead, .dead, .dead, .dead, .dead, .dead, .dead, .dead, .dead, .dead, .dead, .dead]) (by simp [fgt]) (WK.now ⟨k + 1, i + 1, rfl, by omega, by omega, hs, rfl, rfl, rfl⟩)⟩
          · have g1 : (b.getD i pz).1.id ≠ (a.getD k pz).1.id := by simpa using g
            simp only [si, sk, push_cast, simprocAttr, pods_length, nds_length, fP, pL]
            have hs2 : (idl (a.drop k)).Sublist (idl (b.drop (i + 1))) := by
              rw [idl_cons c2]
              exact sub_ne (fun e => g1 e.symm) hs
            exact ⟨b.length - (i + 1), by omega, WK.fgt (t' := [.dead, .dead, .dead, .dead, .dead, .dead, .dead, .dead, .dead, .dead, .d (.bool false), .dead, .dead, .dead, .d (.slice 9 (pods a)), .d (.slice 9 (pods b)), .d (.int .i64 (k : Nat)), .d (.int .i64 (i + 1 : Nat)), .dead, .dead, .dead, .dead, .dead, .dead, .dead, .dead, .dead, .dead, .dead, .dead, .dead, .dead, .dead, .dead, .dead, .dead, .dead, .dead, .dead, .dead, .dead, .dead, .dead, .dead, .dead, .dead, .dead, .dead, .dead, .dead, .dead, .dead, .dead, .dead, .dead, .dead, .dead, .dead, .dead, .dead, .dead, .dead, .dead, .dead, .dead, .dead, .dead, .dead, .dead, .dead, .dead, .dead, .dead, .dead, .dead, .dead, .dead, .dead, .dead, .dead, .dead]) (by simp [fgt]) (WK.now ⟨k, i + 1, rfl, by omega, by omega, hs2, rfl, rfl, rfl⟩)⟩
        · have b1 : decide ((i : Int) < b.length) = true := decide_eq_true (by omega)
          obtain rfl : k = a.length := by omega
          simp only [c1, b1, show decide (a.length < a.length) = false from decide_eq_false (Nat.lt_irrefl _), push_cast, simprocAttr, pods_length, nds_length, fP, pL]
          refine WK.now ?_
          simp only [push_cast, simprocAttr, pods_length, nds_length, fP, pL]
      · have b1 : decide ((i : Int) < b.length) = false := decide_eq_false (by omega)
        obtain rfl : k = a.length := by
          rw [List.drop_of_length_le (show b.length ≤ i by omega)] at hs
          have h0 := List.Sublist.length_le hs
          simp [idl] at h0
          omega
        simp only [c1, b1, push_cast, simprocAttr, pods_length, nds_length, fP, pL]
        refine WK.now ?_
        simp only [push_cast, simprocAttr, pods_length, nds_length, fP, pL]
end Go.Proofs.YtglmkjgajbiaaaaGreatDoor
end
