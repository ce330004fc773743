/-
  The verifier's lists of pods: with a phase, of a node, with a lesser priority; comparing; sorting by insertion.
  The verifier's chapter on victims: lower pods, ids, whether a node is possible, the victims, whether numbers are just enough.
-/
import Derived.Test.YtmeicgbddgeeoaaGreatDoorV1
section
set_option autoImplicit false
set_option linter.unusedVariables false
set_option linter.unusedSimpArgs false
namespace Go.Proofs.YtmeicgbddgeeoaaGreatDoor
open Go.Abs
theorem pods_snocD (l : List Pod) (q : Pod) : pods l ++ [[D.int .i64 q.1.id, .int .i64 q.1.pr, .bool q.1.pre, .int .i64 q.1.gr, .slice 1 (ints q.2), .int .i64 q.1.ar, .int .i64 q.1.ph, .int .i64 q.1.nd, .int .i64 q.1.dl]] = pods (l ++ [q]) := by simp [pods, pL]
set_option maxRecDepth 8000 in
theorem on13_ok (l : List Pod) (n : Int) (hl : l.length ≤ 1000000) : PCall env 56 [.slice 9 (pods l), .int .i64 n] (.slice 9 (pods (l.filter (onP n)))) := by
 refine acalls_of envOk Tryz.func56 rfl (by kernel_rfl) (m := 42) rfl ?_
 simp only [push_cast, simprocAttr, fP, pL]
 refine ALoop.mk (fun k t H ds => ∃ i : Nat, k = l.length - i ∧ i ≤ l.length ∧ t = (.d (.slice 9 (pods l)) :: .d (.int .i64 n) :: .x :: .x :: .x :: .sfull 0 :: .d (.int .i64 (i : Nat)) :: xs37) ∧ H = [.arr 26 9 (pods ((l.take i).filter (onP n)))] ∧ ds = []) l.length
  (WK.nil 5 26 9 rfl (WK.fgt (t' := (.d (.slice 9 (pods l)) :: .d (.int .i64 n) :: .x :: .x :: .x :: .sfull 0 :: .d (.int .i64 (0 : Nat)) :: xs37)) (by simp [fgt]) (WK.now ⟨0, by omega, by omega, rfl, rfl, rfl⟩))) ?_
 rintro k t H ds ⟨i, rfl, hi, rfl, rfl, rfl⟩
 simp only [push_cast, simprocAttr, fP, pL]
 refine Kbr.mk (fun b => ?_) (fun b => ?_)
 ·have c2 : i < l.length := by simpa using b
  have si := succ64 c2 (show l.length ≤ 4611686018427387904 by omega)
  obtain ⟨p, hp⟩ : ∃ p, p = l.getD i pz := ⟨_, rfl⟩
  have hsn := filt_snoc (onP n) c2
  rw [← hp] at hsn
  have hfl : ((l.take i).filter (onP n)).length ≤ l.length := Nat.le_trans (List.length_filter_le _ _) (by simp; omega)
  have hnot : onP n p = false → ∃ k', k' < l.length - i ∧ WK env 0 (fun t H ds => ∃ i : Nat, k' = l.length - i ∧ i ≤ l.length ∧ t = (.d (.slice 9 (pods l)) :: .d (.int .i64 n) :: .x :: .x :: .x :: .sfull 0 :: .d (.int .i64 (i : Nat)) :: xs37) ∧ H = [.arr 26 9 (pods ((l.take i).filter (onP n)))] ∧ ds = []) (.d (.slice 9 (pods l)) :: .d (.int .i64 n) :: .x :: .x :: .x :: .sfull 0 :: .d (.int .i64 (i + 1 : Nat)) :: xs37) [.arr 26 9 (pods ((l.take i).filter (onP n)))] [] := fun hq => by
   rw [hq, if_neg (by simp), List.append_nil] at hsn
   exact ⟨l.length - (i + 1), by omega, WK.now ⟨i + 1, rfl, by omega, rfl, by rw [hsn], rfl⟩⟩
  by_cases h1 : p.1.nd = n
  ·have e1 : (p.1.nd == n) = true := by simpa using h1
   by_cases h2 : 2 ≤ p.1.ph
   ·have e2 : decide (p.1.ph ≥ 2) = true := decide_eq_true h2
    by_cases h3 : p.1.ph ≤ 4
    ·have e3 : decide (p.1.ph ≤ 4) = true := decide_eq_true h3
     have ho : onP n p = true := onP_iff.2 ⟨h1, by omega⟩
     rw [ho, if_pos rfl] at hsn
     simp only [c2, cel_nd, cel_ph, seg_pods, ← hp, e1, e2, e3, si, push_cast, simprocAttr, pods_length, fP, pL]
     refine ⟨room_of (by simp [pods]; omega) (by omega), ?_⟩
     exact ⟨l.length - (i + 1), by omega, WK.fgt (t' := (.d (.slice 9 (pods l)) :: .d (.int .i64 n) :: .x :: .x :: .x :: .sfull 1 :: .d (.int .i64 (i + 1 : Nat)) :: xs37)) (by simp [fgt]) (WK.pick [1] (t' := (.d (.slice 9 (pods l)) :: .d (.int .i64 n) :: .x :: .x :: .x :: .sfull 0 :: .d (.int .i64 (i + 1 : Nat)) :: xs37)) (H' := [.arr 26 9 (pods ((l.take (i + 1)).filter (onP n)))])
      (by rw [hsn, ← pods_snocD]; simp [sbl, ren_none, ren_var, ren_arr, ren_map, bel_none, bel_var, bel_arr, bel_map, AV.renL, AV.ren, AV.belL, AV.bel, rn]) (by simp) (by simp) (by simp [tellL, AV.ren, AV.renL, AV.bel, AV.belL, rn]) (by simp) (WK.now ⟨i + 1, rfl, by omega, rfl, rfl, rfl⟩))⟩
    ·have e3 : decide (p.1.ph ≤ 4) = false := decide_eq_false h3
     have ho : onP n p = false := by
      cases hh : onP n p with
      | false => rfl
      | true => have := (onP_iff.1 hh).2; omega
     obtain ⟨k', hk, hw⟩ := hnot ho
     simp only [c2, cel_nd, cel_ph, ← hp, e1, e2, e3, si, push_cast, simprocAttr, pods_length, fP, pL]
     exact ⟨k', hk, WK.fgt (t' := (.d (.slice 9 (pods l)) :: .d (.int .i64 n) :: .x :: .x :: .x :: .sfull 0 :: .d (.int .i64 (i + 1 : Nat)) :: xs37)) (by simp [fgt]) hw⟩
   ·have e2 : decide (p.1.ph ≥ 2) = false := decide_eq_false h2
    have ho : onP n p = false := by
     cases hh : onP n p with
     | false => rfl
     | true => have := (onP_iff.1 hh).2; omega
    obtain ⟨k', hk, hw⟩ := hnot ho
    simp only [c2, cel_nd, cel_ph, ← hp, e1, e2, si, push_cast, simprocAttr, pods_length, fP, pL]
    exact ⟨k', hk, WK.fgt (t' := (.d (.slice 9 (pods l)) :: .d (.int .i64 n) :: .x :: .x :: .x :: .sfull 0 :: .d (.int .i64 (i + 1 : Nat)) :: xs37)) (by simp [fgt]) hw⟩
  ·have e1 : (p.1.nd == n) = false := by simpa using h1
   have ho : onP n p = false := by
    cases hh : onP n p with
    | false => rfl
    | true => exact absurd (onP_iff.1 hh).1 h1
   obtain ⟨k', hk, hw⟩ := hnot ho
   simp only [c2, cel_nd, cel_ph, ← hp, e1, si, push_cast, simprocAttr, pods_length, fP, pL]
   exact ⟨k', hk, WK.fgt (t' := (.d (.slice 9 (pods l)) :: .d (.int .i64 n) :: .x :: .x :: .x :: .sfull 0 :: .d (.int .i64 (i + 1 : Nat)) :: xs37)) (by simp [fgt]) hw⟩
 ·have c2 : ¬ i < l.length := by simpa using b
  have e : l.take i = l := List.take_of_length_le (by omega)
  rw [e]
  simp only [push_cast, simprocAttr, fP, pL]
  refine WK.frz 0 rfl (WK.now ?_)
  simp only [push_cast, simprocAttr, fP, pL]
set_option maxRecDepth 8000 in
theorem with13_ok (l : List Pod) (n : Int) (hl : l.length ≤ 1000000) : PCall env 55 [.slice 9 (pods l), .int .i64 n] (.slice 9 (pods (l.filter fun q => q.1.ph == n))) := by
 refine acalls_of envOk Tryz.func55 rfl (by kernel_rfl) (m := 26) rfl ?_
 simp only [push_cast, simprocAttr, fP, pL]
 refine ALoop.mk (fun k t H ds => ∃ i : Nat, k = l.length - i ∧ i ≤ l.length ∧ t = (.d (.slice 9 (pods l)) :: .d (.int .i64 n) :: .x :: .x :: .x :: .sfull 0 :: .d (.int .i64 (i : Nat)) :: xs21) ∧ H = [.arr 26 9 (pods ((l.take i).filter fun q => q.1.ph == n))] ∧ ds = []) l.length
  (WK.nil 5 26 9 rfl (WK.fgt (t' := (.d (.slice 9 (pods l)) :: .d (.int .i64 n) :: .x :: .x :: .x :: .sfull 0 :: .d (.int .i64 (0 : Nat)) :: xs21)) (by simp [fgt]) (WK.now ⟨0, by omega, by omega, rfl, rfl, rfl⟩))) ?_
 rintro k t H ds ⟨i, rfl, hi, rfl, rfl, rfl⟩
 simp only [push_cast, simprocAttr, fP, pL]
 refine Kbr.mk (fun b => ?_) (fun b => ?_)
 ·have c2 : i < l.length := by simpa using b
  have si := succ64 c2 (show l.length ≤ 4611686018427387904 by omega)
  obtain ⟨p, hp⟩ : ∃ p, p = l.getD i pz := ⟨_, rfl⟩
  have hsn := filt_snoc (fun q => q.1.ph == n) c2
  rw [← hp] at hsn
  have hfl : ((l.take i).filter fun q => q.1.ph == n).length ≤ l.length := Nat.le_trans (List.length_filter_le _ _) (by simp; omega)
  cases e1 : p.1.ph == n with
  | true =>
   rw [e1, if_pos rfl] at hsn
   simp only [c2, cel_ph, seg_pods, ← hp, e1, si, push_cast, simprocAttr, pods_length, fP, pL]
   refine ⟨room_of (by simp [pods]; omega) (by omega), ?_⟩
   exact ⟨l.length - (i + 1), by omega, WK.fgt (t' := (.d (.slice 9 (pods l)) :: .d (.int .i64 n) :: .x :: .x :: .x :: .sfull 1 :: .d (.int .i64 (i + 1 : Nat)) :: xs21)) (by simp [fgt]) (WK.pick [1] (t' := (.d (.slice 9 (pods l)) :: .d (.int .i64 n) :: .x :: .x :: .x :: .sfull 0 :: .d (.int .i64 (i + 1 : Nat)) :: xs21)) (H' := [.arr 26 9 (pods ((l.take (i + 1)).filter fun q => q.1.ph == n))])
    (by rw [hsn, ← pods_snocD]; simp [sbl, ren_none, ren_var, ren_arr, ren_map, bel_none, bel_var, bel_arr, bel_map, AV.renL, AV.ren, AV.belL, AV.bel, rn]) (by simp) (by simp) (by simp [tellL, AV.ren, AV.renL, AV.bel, AV.belL, rn]) (by simp) (WK.now ⟨i + 1, rfl, by omega, rfl, rfl, rfl⟩))⟩
  | false =>
   rw [e1, if_neg (by simp), List.append_nil] at hsn
   simp only [c2, cel_ph, ← hp, e1, si, push_cast, simprocAttr, pods_length, fP, pL]
   exact ⟨l.length - (i + 1), by omega, WK.fgt (t' := (.d (.slice 9 (pods l)) :: .d (.int .i64 n) :: .x :: .x :: .x :: .sfull 0 :: .d (.int .i64 (i + 1 : Nat)) :: xs21)) (by simp [fgt]) (WK.now ⟨i + 1, rfl, by omega, rfl, by rw [hsn], rfl⟩)⟩
 ·have c2 : ¬ i < l.length := by simpa using b
  have e : l.take i = l := List.take_of_length_le (by omega)
  rw [e]
  simp only [push_cast, simprocAttr, fP, pL]
  refine WK.frz 0 rfl (WK.now ?_)
  simp only [push_cast, simprocAttr, fP, pL]
set_option maxRecDepth 8000 in
theorem low06_ok (l : List Pod) (n : Int) (hl : l.length ≤ 1000000) : PCall env 58 [.slice 9 (pods l), .int .i64 n] (.slice 9 (pods (l.filter fun q => decide (q.1.pr < n)))) := by
 refine acalls_of envOk Tryz.func58 rfl (by kernel_rfl) (m := 26) rfl ?_
 simp only [push_cast, simprocAttr, fP, pL]
 refine ALoop.mk (fun k t H ds => ∃ i : Nat, k = l.length - i ∧ i ≤ l.length ∧ t = (.d (.slice 9 (pods l)) :: .d (.int .i64 n) :: .x :: .x :: .x :: .sfull 0 :: .d (.int .i64 (i : Nat)) :: xs21) ∧ H = [.arr 26 9 (pods ((l.take i).filter fun q => decide (q.1.pr < n)))] ∧ ds = []) l.length
  (WK.nil 5 26 9 rfl (WK.fgt (t' := (.d (.slice 9 (pods l)) :: .d (.int .i64 n) :: .x :: .x :: .x :: .sfull 0 :: .d (.int .i64 (0 : Nat)) :: xs21)) (by simp [fgt]) (WK.now ⟨0, by omega, by omega, rfl, rfl, rfl⟩))) ?_
 rintro k t H ds ⟨i, rfl, hi, rfl, rfl, rfl⟩
 simp only [push_cast, simprocAttr, fP, pL]
 refine Kbr.mk (fun b => ?_) (fun b => ?_)
 ·have c2 : i < l.length := by simpa using b
  have si := succ64 c2 (show l.length ≤ 4611686018427387904 by omega)
  obtain ⟨p, hp⟩ : ∃ p, p = l.getD i pz := ⟨_, rfl⟩
  have hsn := filt_snoc (fun q => decide (q.1.pr < n)) c2
  rw [← hp] at hsn
  have hfl : ((l.take i).filter fun q => decide (q.1.pr < n)).length ≤ l.length := Nat.le_trans (List.length_filter_le _ _) (by simp; omega)
  cases e1 : decide (p.1.pr < n) with
  | true =>
   rw [e1, if_pos rfl] at hsn
   simp only [c2, cel_pr, seg_pods, ← hp, e1, si, push_cast, simprocAttr, pods_length, fP, pL]
   refine ⟨room_of (by simp [pods]; omega) (by omega), ?_⟩
   exact ⟨l.length - (i + 1), by omega, WK.fgt (t' := (.d (.slice 9 (pods l)) :: .d (.int .i64 n) :: .x :: .x :: .x :: .sfull 1 :: .d (.int .i64 (i + 1 : Nat)) :: xs21)) (by simp [fgt]) (WK.pick [1] (t' := (.d (.slice 9 (pods l)) :: .d (.int .i64 n) :: .x :: .x :: .x :: .sfull 0 :: .d (.int .i64 (i + 1 : Nat)) :: xs21)) (H' := [.arr 26 9 (pods ((l.take (i + 1)).filter fun q => decide (q.1.pr < n)))])
    (by rw [hsn, ← pods_snocD]; simp [sbl, ren_none, ren_var, ren_arr, ren_map, bel_none, bel_var, bel_arr, bel_map, AV.renL, AV.ren, AV.belL, AV.bel, rn]) (by simp) (by simp) (by simp [tellL, AV.ren, AV.renL, AV.bel, AV.belL, rn]) (by simp) (WK.now ⟨i + 1, rfl, by omega, rfl, rfl, rfl⟩))⟩
  | false =>
   rw [e1, if_neg (by simp), List.append_nil] at hsn
   simp only [c2, cel_pr, ← hp, e1, si, push_cast, simprocAttr, pods_length, fP, pL]
   exact ⟨l.length - (i + 1), by omega, WK.fgt (t' := (.d (.slice 9 (pods l)) :: .d (.int .i64 n) :: .x :: .x :: .x :: .sfull 0 :: .d (.int .i64 (i + 1 : Nat)) :: xs21)) (by simp [fgt]) (WK.now ⟨i + 1, rfl, by omega, rfl, by rw [hsn], rfl⟩)⟩
 ·have c2 : ¬ i < l.length := by simpa using b
  have e : l.take i = l := List.take_of_length_le (by omega)
  rw [e]
  simp only [push_cast, simprocAttr, fP, pL]
  refine WK.frz 0 rfl (WK.now ?_)
  simp only [push_cast, simprocAttr, fP, pL]
theorem cmI_n {x y : Int} (h : x < y) : cmI x y = -1 := if_pos h
theorem cmI_p {x y : Int} (h : y < x) : cmI x y = 1 := by unfold cmI; rw [if_neg (by omega), if_pos h]
theorem cmI_e {x y : Int} (h : x = y) : cmI x y = 0 := cmI_zero.2 h
theorem rk0n {a b : Pod} (h : b.1.pr < a.1.pr) : rankC a b = -1 := by simp [rankC, fstNZ, cmI_n h]
theorem rk0p {a b : Pod} (h : a.1.pr < b.1.pr) : rankC a b = 1 := by simp [rankC, fstNZ, cmI_p h]
theorem rk1n {a b : Pod} (h0 : b.1.pr = a.1.pr) (h : a.1.ar < b.1.ar) : rankC a b = -1 := by simp [rankC, fstNZ, cmI_e h0, cmI_n h]
theorem rk1p {a b : Pod} (h0 : b.1.pr = a.1.pr) (h : b.1.ar < a.1.ar) : rankC a b = 1 := by simp [rankC, fstNZ, cmI_e h0, cmI_p h]
theorem rk2n {a b : Pod} (h0 : b.1.pr = a.1.pr) (h1 : a.1.ar = b.1.ar) (h : a.1.id < b.1.id) : rankC a b = -1 := by simp [rankC, fstNZ, cmI_e h0, cmI_e h1, cmI_n h]
theorem rk2p {a b : Pod} (h0 : b.1.pr = a.1.pr) (h1 : a.1.ar = b.1.ar) (h : b.1.id < a.1.id) : rankC a b = 1 := by simp [rankC, fstNZ, cmI_e h0, cmI_e h1, cmI_p h]
theorem rk3 {a b : Pod} (h0 : b.1.pr = a.1.pr) (h1 : a.1.ar = b.1.ar) (h : a.1.id = b.1.id) : rankC a b = 0 := by simp [rankC, fstNZ, cmI_e h0, cmI_e h1, cmI_e h]
theorem cel3_0 (x y z : D) : cel [[x], [y], [z]] 0 0 = x := rfl
theorem cel3_1 (x y z : D) : cel [[x], [y], [z]] 1 0 = y := rfl
theorem cel3_2 (x y z : D) : cel [[x], [y], [z]] 2 0 = z := rfl
set_option maxRecDepth 8000 in
theorem cmp06_ok (a b : Pod) (ha : -1073741824 ≤ a.1.pr ∧ a.1.pr ≤ 1073741824) (hb : -1073741824 ≤ b.1.pr ∧ b.1.pr ≤ 1073741824) : PCall env 95 [fP a, fP b] (.int .i64 (rankC a b)) := by
 have wa : IntKind.wrap .i64 (0 - a.1.pr) = -a.1.pr := by rw [wrapi (by omega) (by omega)]; omega
 have wb : IntKind.wrap .i64 (0 - b.1.pr) = -b.1.pr := by rw [wrapi (by omega) (by omega)]; omega
 have w1 : IntKind.wrap .i64 1 = 1 := rfl
 have w2 : IntKind.wrap .i64 2 = 2 := rfl
 have w3 : IntKind.wrap .i64 3 = 3 := rfl
 refine acalls_of envOk Tryz.func95 rfl (by kernel_rfl) (m := 44) rfl ?_
 simp only [wa, wb, push_cast, simprocAttr, fP, pL]
 refine ALoop.mk (fun k t H ds => ∃ i : Nat, k = 3 - i ∧ (i = 0 ∨ i = 1 ∧ b.1.pr = a.1.pr ∨ i = 2 ∧ b.1.pr = a.1.pr ∧ a.1.ar = b.1.ar ∨ i = 3 ∧ b.1.pr = a.1.pr ∧ a.1.ar = b.1.ar ∧ a.1.id = b.1.id) ∧ t = (.x :: .x :: .x :: .x :: .d (.int .i64 0) :: .svalf 1 [[.int .i64 (-a.1.pr)], [.int .i64 a.1.ar], [.int .i64 a.1.id]] :: .svalf 1 [[.int .i64 (-b.1.pr)], [.int .i64 b.1.ar], [.int .i64 b.1.id]] :: .d (.int .i64 (i : Nat)) :: xs38) ∧ H = [] ∧ ds = []) 3
  (WK.fgt (t' := (.x :: .x :: .x :: .x :: .d (.int .i64 0) :: .svalf 1 [[.int .i64 (-a.1.pr)], [.int .i64 a.1.ar], [.int .i64 a.1.id]] :: .svalf 1 [[.int .i64 (-b.1.pr)], [.int .i64 b.1.ar], [.int .i64 b.1.id]] :: .d (.int .i64 (0 : Nat)) :: xs38)) (by simp [fgt]) (WK.pick [] (t' := (.x :: .x :: .x :: .x :: .d (.int .i64 0) :: .svalf 1 [[.int .i64 (-a.1.pr)], [.int .i64 a.1.ar], [.int .i64 a.1.id]] :: .svalf 1 [[.int .i64 (-b.1.pr)], [.int .i64 b.1.ar], [.int .i64 b.1.id]] :: .d (.int .i64 (0 : Nat)) :: xs38)) (H' := []) trivial (by simp) (by simp) (by simp [tellL, AV.ren, AV.renL, AV.bel, AV.belL, rn]) (by simp) (WK.now ⟨0, by omega, .inl rfl, rfl, rfl, rfl⟩))) ?_
 rintro k t H ds ⟨i, rfl, hc, rfl, rfl, rfl⟩
 rcases hc with rfl | ⟨rfl, h0⟩ | ⟨rfl, h0, h1⟩ | ⟨rfl, h0, h1, h2⟩
 ·simp only [push_cast, simprocAttr, fP, pL]
  refine DRegL.det [] [0, 1, 2, 3, 4, 5, 6, 7, 8] [] (by kernel_rfl) (by kernel_rfl) (by kernel_rfl) ?_
  simp only [cel3_0, push_cast, simprocAttr, fP, pL]
  by_cases c1 : b.1.pr < a.1.pr
  ·simp only [decide_eq_true (show -a.1.pr < -b.1.pr by omega), push_cast, simprocAttr, pods_length, fP, pL]
   refine WK.now ?_
   simp only [rk0n c1, push_cast, simprocAttr, pods_length, fP, pL]
  ·simp only [decide_eq_false (show ¬ -a.1.pr < -b.1.pr by omega), push_cast, simprocAttr, pods_length, fP, pL]
   refine DRegL.det [] [0, 1, 2, 3, 4, 5, 6, 7, 8] [] (by kernel_rfl) (by kernel_rfl) (by kernel_rfl) ?_
   simp only [cel3_0, push_cast, simprocAttr, fP, pL]
   by_cases c2 : a.1.pr < b.1.pr
   ·simp only [decide_eq_true (show -a.1.pr > -b.1.pr by omega), push_cast, simprocAttr, pods_length, fP, pL]
    refine WK.now ?_
    simp only [rk0p c2, push_cast, simprocAttr, pods_length, fP, pL]
   ·simp only [decide_eq_false (show ¬ -a.1.pr > -b.1.pr by omega), w1, push_cast, simprocAttr, pods_length, fP, pL]
    exact ⟨2, by omega, WK.fgt (t' := (.x :: .x :: .x :: .x :: .d (.int .i64 0) :: .svalf 1 [[.int .i64 (-a.1.pr)], [.int .i64 a.1.ar], [.int .i64 a.1.id]] :: .svalf 1 [[.int .i64 (-b.1.pr)], [.int .i64 b.1.ar], [.int .i64 b.1.id]] :: .d (.int .i64 (1 : Nat)) :: xs38)) (by simp [fgt]) (WK.now ⟨1, rfl, .inr (.inl ⟨rfl, by omega⟩), rfl, rfl, rfl⟩)⟩
 ·simp only [push_cast, simprocAttr, fP, pL]
  refine DRegL.det [] [0, 1, 2, 3, 4, 5, 6, 7, 8] [] (by kernel_rfl) (by kernel_rfl) (by kernel_rfl) ?_
  simp only [cel3_1, push_cast, simprocAttr, fP, pL]
  by_cases c1 : a.1.ar < b.1.ar
  ·simp only [decide_eq_true c1, push_cast, simprocAttr, pods_length, fP, pL]
   refine WK.now ?_
   simp only [rk1n h0 c1, push_cast, simprocAttr, pods_length, fP, pL]
  ·simp only [decide_eq_false c1, push_cast, simprocAttr, pods_length, fP, pL]
   refine DRegL.det [] [0, 1, 2, 3, 4, 5, 6, 7, 8] [] (by kernel_rfl) (by kernel_rfl) (by kernel_rfl) ?_
   simp only [cel3_1, push_cast, simprocAttr, fP, pL]
   by_cases c2 : b.1.ar < a.1.ar
   ·simp only [decide_eq_true (show a.1.ar > b.1.ar from c2), push_cast, simprocAttr, pods_length, fP, pL]
    refine WK.now ?_
    simp only [rk1p h0 c2, push_cast, simprocAttr, pods_length, fP, pL]
   ·simp only [decide_eq_false (show ¬ a.1.ar > b.1.ar from c2), w2, push_cast, simprocAttr, pods_length, fP, pL]
    exact ⟨1, by omega, WK.fgt (t' := (.x :: .x :: .x :: .x :: .d (.int .i64 0) :: .svalf 1 [[.int .i64 (-a.1.pr)], [.int .i64 a.1.ar], [.int .i64 a.1.id]] :: .svalf 1 [[.int .i64 (-b.1.pr)], [.int .i64 b.1.ar], [.int .i64 b.1.id]] :: .d (.int .i64 (2 : Nat)) :: xs38)) (by simp [fgt]) (WK.now ⟨2, rfl, .inr (.inr (.inl ⟨rfl, h0, by omega⟩)), rfl, rfl, rfl⟩)⟩
 ·simp only [push_cast, simprocAttr, fP, pL]
  refine DRegL.det [] [0, 1, 2, 3, 4, 5, 6, 7, 8] [] (by kernel_rfl) (by kernel_rfl) (by kernel_rfl) ?_
  simp only [cel3_2, push_cast, simprocAttr, fP, pL]
  by_cases c1 : a.1.id < b.1.id
  ·simp only [decide_eq_true c1, push_cast, simprocAttr, pods_length, fP, pL]
   refine WK.now ?_
   simp only [rk2n h0 h1 c1, push_cast, simprocAttr, pods_length, fP, pL]
  ·simp only [decide_eq_false c1, push_cast, simprocAttr, pods_length, fP, pL]
   refine DRegL.det [] [0, 1, 2, 3, 4, 5, 6, 7, 8] [] (by kernel_rfl) (by kernel_rfl) (by kernel_rfl) ?_
   simp only [cel3_2, push_cast, simprocAttr, fP, pL]
   by_cases c2 : b.1.id < a.1.id
   ·simp only [decide_eq_true (show a.1.id > b.1.id from c2), push_cast, simprocAttr, pods_length, fP, pL]
    refine WK.now ?_
    simp only [rk2p h0 h1 c2, push_cast, simprocAttr, pods_length, fP, pL]
   ·simp only [decide_eq_false (show ¬ a.1.id > b.1.id from c2), w3, push_cast, simprocAttr, pods_length, fP, pL]
    exact ⟨0, by omega, WK.fgt (t' := (.x :: .x :: .x :: .x :: .d (.int .i64 0) :: .svalf 1 [[.int .i64 (-a.1.pr)], [.int .i64 a.1.ar], [.int .i64 a.1.id]] :: .svalf 1 [[.int .i64 (-b.1.pr)], [.int .i64 b.1.ar], [.int .i64 b.1.id]] :: .d (.int .i64 (3 : Nat)) :: xs38)) (by simp [fgt]) (WK.now ⟨3, rfl, .inr (.inr (.inr ⟨rfl, h0, h1, by omega⟩)), rfl, rfl, rfl⟩)⟩
 ·simp only [push_cast, simprocAttr, fP, pL]
  refine WK.now ?_
  simp only [rk3 h0 h1 h2, push_cast, simprocAttr, pods_length, fP, pL]
theorem pnilD : pods ([] : List Pod) = [] := rfl
theorem ins_last {out : List Pod} {m : Nat} (hm : m < out.length) {x : Pod} (h : ltC rankC x (out.getD m pz) = false) : ∀ y, (out.take (m + 1)).getLast? = some y → ltC rankC x y = false := by
 intro y hy
 rw [List.take_add_one, List.getElem?_eq_getElem hm, Option.toList_some, List.getLast?_concat] at hy
 rw [List.getD_eq_getElem?_getD, List.getElem?_eq_getElem hm] at h
 rw [← Option.some.inj hy]
 exact h
theorem ins_perm {out : List Pod} {l : List Pod} {i m : Nat} (hi : i < l.length) (h : out.Perm (l.take i)) : (out.take m ++ l.getD i pz :: out.drop m).Perm (l.take (i + 1)) := by
 rw [List.take_add_one, List.getElem?_eq_getElem hi, Option.toList_some, List.getD_eq_getElem?_getD, List.getElem?_eq_getElem hi, Option.getD_some]
 refine List.perm_middle.trans ?_
 rw [List.take_append_drop]
 exact ((h.cons _).trans (List.perm_append_singleton _ _).symm)
theorem drop_all {out : List Pod} {m : Nat} (hm : m < out.length) {x : Pod} (h : ltC rankC x (out.getD m pz) = true) (hg : ∀ y ∈ out.drop (m + 1), ltC rankC x y = true) : ∀ y ∈ out.drop m, ltC rankC x y = true := by
 intro y hy
 rw [drop_cons hm] at hy
 rcases List.mem_cons.1 hy with rfl | hy
 ·exact h
 ·exact hg y hy
set_option maxRecDepth 8000 in
theorem sort06_ok (l : List Pod) (hl : l.length ≤ 1000000) (hp : ∀ q ∈ l, -1073741824 ≤ q.1.pr ∧ q.1.pr ≤ 1073741824) (hn : (l.map pid).Nodup) : PCall env 57 [.slice 9 (pods l)] (.slice 9 (pods (srtP l))) := by
 refine acalls_of envOk Tryz.func57 rfl (by kernel_rfl) (m := 46) rfl ?_
 simp only [push_cast, simprocAttr, fP, pL]
 refine ALoop.mk (fun k t H ds => ∃ (i : Nat) (out : List Pod), k = l.length - i ∧ i ≤ l.length ∧ out.Perm (l.take i) ∧ Srt (ltC rankC) out ∧ t = (.d (.slice 9 (pods l)) :: .x :: .x :: (.d (.slice 9 (pods out))) :: .d (.int .i64 (i : Nat)) :: xs42) ∧ H = [] ∧ ds = []) l.length
  (WK.nild 3 9 rfl (WK.fgt (t' := (.d (.slice 9 (pods l)) :: .x :: .x :: (.d (.slice 9 (pods []))) :: .d (.int .i64 (0 : Nat)) :: xs42)) (by simp [fgt, pnilD]) (WK.now ⟨0, [], by omega, by omega, .refl _, List.Pairwise.nil, rfl, rfl, rfl⟩))) ?_
 rintro k t H ds ⟨i, out, rfl, hi, hpm, hs, rfl, rfl, rfl⟩
 simp only [push_cast, simprocAttr, fP, pL]
 refine Kbr.mk (fun b => ?_) (fun b => ?_)
 ·have c2 : i < l.length := by simpa using b
  have si := succ64 c2 (show l.length ≤ 4611686018427387904 by omega)
  have hol : out.length = i := by rw [hpm.length_eq]; simp; omega
  simp only [push_cast, simprocAttr, fP, pL]
  refine ALoop.mk (fun k t H ds => ∃ at_ : Nat, k = at_ ∧ at_ ≤ out.length ∧ (∀ y ∈ out.drop at_, ltC rankC (l.getD i pz) y = true) ∧ t = (.d (.slice 9 (pods l)) :: .x :: .x :: .d (.slice 9 (pods out)) :: .d (.int .i64 (i : Nat)) :: .d (.int .i64 (at_ : Nat)) :: xs41) ∧ H = [] ∧ ds = []) out.length
   (WK.fgt (t' := (.d (.slice 9 (pods l)) :: .x :: .x :: .d (.slice 9 (pods out)) :: .d (.int .i64 (i : Nat)) :: .d (.int .i64 (out.length : Nat)) :: xs41)) (by simp [fgt]) (WK.now ⟨out.length, rfl, Nat.le_refl _, by simp, rfl, rfl, rfl⟩)) ?_
  rintro k t H ds ⟨at_, rfl, hat, hgt, rfl, rfl, rfl⟩
  cases k with
  | zero =>
   have e0 : decide (((0 : Nat) : Int) > 0) = false := decide_eq_false (by omega)
   have hsr := ins_end rankOrd (S1 := out.take 0) (S2 := out.drop 0) (x := l.getD i pz) (by simpa using hs) hgt (by simp)
   have hpr := ins_perm (m := 0) c2 hpm
   simp only [push_cast, simprocAttr, fP, pL]
   refine DRegL.det [] [0, 1, 2, 3, 4, 5, 6, 7, 8, 9, 10, 11, 12, 13, 14] [] (by kernel_rfl) (by kernel_rfl) (by kernel_rfl) ?_
   simp only [e0, push_cast, simprocAttr, fP, pL]
   refine DRegL.two [0, 1, 2, 3, 5, 6, 7, 8, 9, 11, 12, 13] [4, 10, 14, 15] (by unfold Draw2; kernel_rfl) (by kernel_rfl) (by kernel_rfl) ?_
   simp only [c2, seg_pods, pods_length, ptake_rows, pdrop_rows, si, push_cast, simprocAttr, fP, pL]
   refine ⟨Int.le_refl _, .inr trivial, room_of (by omega) (by omega), Int.le_refl _, room_of (by omega) (by omega), Int.le_refl _, room_of (by simp [pods]; omega) (by omega), Int.le_refl _, Int.le_refl _, ?_⟩
   exact ⟨l.length - (i + 1), by omega, WK.fgt (t' := (.d (.slice 9 (pods l)) :: .x :: .x :: (.sfull 2) :: .d (.int .i64 (i + 1 : Nat)) :: xs42)) (by simp [fgt]) (WK.frz 2 rfl (WK.pick [] (t' := (.d (.slice 9 (pods l)) :: .x :: .x :: (.d (.slice 9 (pods (l.getD i pz :: out)))) :: .d (.int .i64 (i + 1 : Nat)) :: xs42)) (H' := []) trivial (by simp) (by simp)
    (by simp [AV.frzL, AV.frz, pods, pL, tellL, AV.ren, AV.renL, AV.bel, AV.belL, rn]) (by simp) (WK.now ⟨i + 1, _, rfl, by omega, by simpa using hpr, by simpa using hsr, rfl, rfl, rfl⟩)))⟩
  | succ m =>
   have e0 : decide ((m : Int) + 1 > 0) = true := decide_eq_true (by omega)
   have hm : m < out.length := by omega
   have hm1 : IntKind.wrap .i64 ((m : Int) + 1 - 1) = (m : Int) := by rw [wrapi (by omega) (by omega)]; omega
   have hcm := cmp06_ok (l.getD i pz) (out.getD m pz) (hp _ (getD_mem c2)) (hp _ (List.mem_of_mem_take (hpm.mem_iff.1 (getD_mem hm))))
   simp only [push_cast, simprocAttr, fP, pL]
   refine DRegL.det [] [0, 1, 2, 3, 4, 5, 6, 7, 8, 9, 10, 11, 12, 13, 14] [] (by kernel_rfl) (by kernel_rfl) (by kernel_rfl) ?_
   simp only [e0, hm1, c2, hm, seg_pods, push_cast, simprocAttr, fP, pL]
   refine hcm.quiet' (by first | exact ⟨.inl rfl, trivial⟩ | exact ⟨.inl rfl, .inl rfl, trivial⟩ | exact ⟨.inl rfl, .inl rfl, .inl rfl, trivial⟩ | simp [argsOk, argOk, sl, sll]) ?_
   simp only [push_cast, simprocAttr, fP, pL]
   cases hc : decide (rankC (l.getD i pz) (out.getD m pz) < 0) with
   | true =>
    simp only [hm1, push_cast, simprocAttr, fP, pL]
    exact ⟨m, by omega, WK.fgt (t' := (.d (.slice 9 (pods l)) :: .x :: .x :: .d (.slice 9 (pods out)) :: .d (.int .i64 (i : Nat)) :: .d (.int .i64 (m : Nat)) :: xs41)) (by simp [fgt]) (WK.now ⟨m, rfl, by omega, drop_all hm hc hgt, rfl, rfl, rfl⟩)⟩
   | false =>
    have hsr := ins_end rankOrd (S1 := out.take (m + 1)) (S2 := out.drop (m + 1)) (x := l.getD i pz) (by simpa using hs) hgt (ins_last hm hc)
    have hpr := ins_perm (m := m + 1) c2 hpm
    simp only [push_cast, simprocAttr, fP, pL]
    refine DRegL.two [0, 1, 2, 3, 5, 6, 7, 8, 9, 11, 12, 13] [4, 10, 14, 15] (by unfold Draw2; kernel_rfl) (by kernel_rfl) (by kernel_rfl) ?_
    simp only [c2, seg_pods, pods_length, ptake_rows, pdrop_rows, si, push_cast, simprocAttr, fP, pL]
    have tn : ((m : Int) + 1).toNat = m + 1 := by omega
    simp only [tn, List.take_length]
    refine ⟨by omega, by omega, by omega, by omega, by omega, .inr trivial, room_of (by simp; omega) (by omega), ⟨by omega, by omega, by omega, by omega, by omega⟩, room_of (by simp; omega) (by omega), ⟨by omega, by omega, by omega, by omega, by omega⟩, room_of (by simp [pods]; omega) (by omega), ⟨by omega, by omega, by omega, by omega, by omega⟩, ⟨by omega, by omega, by omega, by omega, by omega⟩, ?_⟩
    exact ⟨l.length - (i + 1), by omega, WK.fgt (t' := (.d (.slice 9 (pods l)) :: .x :: .x :: (.sfull 2) :: .d (.int .i64 (i + 1 : Nat)) :: xs42)) (by simp [fgt]) (WK.frz 2 rfl (WK.pick [] (t' := (.d (.slice 9 (pods l)) :: .x :: .x :: (.d (.slice 9 (pods (out.take (m + 1) ++ l.getD i pz :: out.drop (m + 1))))) :: .d (.int .i64 (i + 1 : Nat)) :: xs42)) (H' := []) trivial (by simp) (by simp)
     (by simp [AV.frzL, AV.frz, pods, pL, tellL, AV.ren, AV.renL, AV.bel, AV.belL, rn]) (by simp) (WK.now ⟨i + 1, _, rfl, by omega, hpr, hsr, rfl, rfl, rfl⟩)))⟩
 ·have c2 : ¬ i < l.length := by simpa using b
  have e : l.take i = l := List.take_of_length_le (by omega)
  rw [e] at hpm
  simp only [push_cast, simprocAttr, fP, pL]
  refine WK.now ?_
  simp only [srtP_unique hn hpm hs, push_cast, simprocAttr, pods_length, fP, pL]
end Go.Proofs.YtmeicgbddgeeoaaGreatDoor
end
section
set_option autoImplicit false
set_option linter.unusedVariables false
set_option linter.unusedSimpArgs false
namespace Go.Proofs.YtmeicgbddgeeoaaGreatDoor
open Go.Abs
structure RefOk (w : Rc) (p : Pod) (n : Int) (F : List Int → Bool) : Prop where
 len : w.pods.length ≤ 65536
 pr : ∀ q ∈ w.pods, -1073741824 ≤ q.1.pr ∧ q.1.pr ≤ 1073741824
 nd : (w.pods.map pid).Nodup
 fit : ∀ wo : List Int, wo.length ≤ 100000 → PCall env 24 [fRc w, fP p, .int .i64 n, .slice 1 (ints wo)] (.bool (F wo))
theorem keep3 (O : List Pod) : keepL (fun q => q.1.ph != 3) O = O.filter fun q => q.1.ph == 3 := by
 unfold keepL
 congr 1
 funext q
 simp [bne]
set_option maxRecDepth 8000 in
theorem rlow18_ok {w : Rc} {p : Pod} {n : Int} {F : List Int → Bool} (h : RefOk w p n F) : PCall env 17 [fRc w, fP p, .int .i64 n] (.slice 9 (pods (lowV (w.pods.filter (onP n)) p))) := by
 have hl := h.len
 have l1 : (w.pods.filter (onP n)).length ≤ 65536 := Nat.le_trans (List.length_filter_le _ _) hl
 have l2 : ((w.pods.filter (onP n)).filter fun q => q.1.ph == 3).length ≤ 65536 := Nat.le_trans (List.length_filter_le _ _) l1
 have l3 : (((w.pods.filter (onP n)).filter fun q => q.1.ph == 3).filter fun q => decide (q.1.pr < p.1.pr)).length ≤ 65536 := Nat.le_trans (List.length_filter_le _ _) l2
 have hsub : (((w.pods.filter (onP n)).filter fun q => q.1.ph == 3).filter fun q => decide (q.1.pr < p.1.pr)).Sublist w.pods := (List.filter_sublist.trans List.filter_sublist).trans List.filter_sublist
 have h1 := on13_ok w.pods n (by omega)
 have h2 := with13_ok (w.pods.filter (onP n)) 3 (by omega)
 have h3 := low06_ok ((w.pods.filter (onP n)).filter fun q => q.1.ph == 3) p.1.pr (by omega)
 have h4 := sort06_ok _ (Nat.le_trans l3 (by omega)) (fun q hq => h.pr q (hsub.subset hq)) (h.nd.sublist (hsub.map pid))
 unfold lowV
 rw [keep3]
 unfold fRc
 refine acalls_of envOk Tryz.func17 rfl (by kernel_rfl) (m := 15) rfl ?_
 simp only [push_cast, simprocAttr, fP, pL]
 refine h1.go (by first | exact ⟨.inl rfl, trivial⟩ | exact ⟨.inl rfl, .inl rfl, trivial⟩ | exact ⟨.inl rfl, .inl rfl, .inl rfl, trivial⟩ | simp [argsOk, argOk, sl, sll]) (WK.now ?_)
 simp only [push_cast, simprocAttr, fP, pL]
 refine h2.go (by first | exact ⟨.inl rfl, trivial⟩ | exact ⟨.inl rfl, .inl rfl, trivial⟩ | exact ⟨.inl rfl, .inl rfl, .inl rfl, trivial⟩ | simp [argsOk, argOk, sl, sll]) (WK.now ?_)
 simp only [push_cast, simprocAttr, fP, pL]
 refine h3.go (by first | exact ⟨.inl rfl, trivial⟩ | exact ⟨.inl rfl, .inl rfl, trivial⟩ | exact ⟨.inl rfl, .inl rfl, .inl rfl, trivial⟩ | simp [argsOk, argOk, sl, sll]) (WK.now ?_)
 simp only [push_cast, simprocAttr, fP, pL]
 refine h4.go (by first | exact ⟨.inl rfl, trivial⟩ | exact ⟨.inl rfl, .inl rfl, trivial⟩ | exact ⟨.inl rfl, .inl rfl, .inl rfl, trivial⟩ | simp [argsOk, argOk, sl, sll]) (WK.now ?_)
 simp only [push_cast, simprocAttr, fP, pL]
 refine WK.now ?_
 simp only [push_cast, simprocAttr, fP, pL]
set_option maxRecDepth 8000 in
theorem rids_ok (l : List Pod) (hl : l.length ≤ 1000000) : PCall env 21 [.slice 9 (pods l)] (.slice 1 (ints (idl l))) := by
 refine acalls_of envOk Tryz.func21 rfl (by kernel_rfl) (m := 19) rfl ?_
 simp only [push_cast, simprocAttr, fP, pL]
 refine ALoop.mk (fun k t H ds => ∃ i : Nat, k = l.length - i ∧ i ≤ l.length ∧ t = (.d (.slice 9 (pods l)) :: .x :: .x :: .sfull 0 :: .d (.int .i64 (i : Nat)) :: xs15) ∧ H = [.arr 3 1 (ints (idl (l.take i)))] ∧ ds = []) l.length
  (WK.nil 3 3 1 rfl (WK.fgt (t' := (.d (.slice 9 (pods l)) :: .x :: .x :: .sfull 0 :: .d (.int .i64 (0 : Nat)) :: xs15)) (by simp [fgt]) (WK.now ⟨0, by omega, by omega, rfl, by simp [ints, idl], rfl⟩))) ?_
 rintro k t H ds ⟨i, rfl, hi, rfl, rfl, rfl⟩
 simp only [push_cast, simprocAttr, fP, pL]
 refine Kbr.mk (fun c => ?_) (fun c => ?_)
 ·have c2 : i < l.length := by simpa using c
  have si := succ64 c2 (show l.length ≤ 4611686018427387904 by omega)
  have hsn := idl_snoc c2
  have hsl : (idl (l.take i)).length ≤ 1000000 := by
   rw [idl_length]; simp; omega
  simp only [c2, cel_id, si, push_cast, simprocAttr, fP, pL]
  refine ⟨room_of (by simp [ints_length]; omega) (by omega), ?_⟩
  exact ⟨l.length - (i + 1), by omega, WK.fgt (t' := (.d (.slice 9 (pods l)) :: .x :: .x :: .sfull 1 :: .d (.int .i64 (i + 1 : Nat)) :: xs15)) (by simp [fgt]) (WK.pick [1] (t' := (.d (.slice 9 (pods l)) :: .x :: .x :: .sfull 0 :: .d (.int .i64 (i + 1 : Nat)) :: xs15)) (H' := [.arr 3 1 (ints (idl (l.take (i + 1))))])
   (by rw [hsn]; simp [ints, sbl, ren_none, ren_var, ren_arr, bel_none, bel_var, bel_arr, AV.renL, AV.ren, AV.belL, AV.bel, rn]) (by simp) (by simp) (by simp [tellL, AV.ren, AV.renL, AV.bel, AV.belL, rn]) (by simp) (WK.now ⟨i + 1, rfl, by omega, rfl, rfl, rfl⟩))⟩
 ·have c2 : ¬ i < l.length := by simpa using c
  have e : l.take i = l := List.take_of_length_le (by omega)
  rw [e]
  simp only [push_cast, simprocAttr, fP, pL]
  refine WK.frz 0 rfl (WK.now ?_)
  simp only [push_cast, simprocAttr, fP, pL]
end Go.Proofs.YtmeicgbddgeeoaaGreatDoor
end
