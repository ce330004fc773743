/-
  Two rows joined by the library: pods.
  Two rows joined by the library: whole numbers.
  The walks of the package rank: comparing pods, lists with a property, sorting.
  The walks of the package victims: lower pods, whether a node is possible.
  The walks of the package victims: the victims, whether pods are just enough.
-/
import Derived.Test.YtmeicgbddgeeoaaGreatDoorW1
import Derived.Test.YtmeicgbddgeeoaaGreatDoorD1
import Derived.Test.YtmeicgbddgeeoaaGreatDoorA1
section
set_option autoImplicit false
set_option linter.unusedVariables false
set_option linter.unusedSimpArgs false
namespace Go.Proofs.YtmeicgbddgeeoaaGreatDoor
open Go.Abs
theorem pcel0 (a b : D) : cel [[a], [b]] 0 0 = a := rfl
theorem pcel1 (a b : D) : cel [[a], [b]] 1 0 = b := rfl
theorem pnil : pods ([] : List Pod) = [] := rfl
theorem pw1 : IntKind.wrap .i64 1 = 1 := rfl
theorem pw2 : IntKind.wrap .i64 2 = 2 := rfl
theorem papp (x y : List Pod) : pods x ++ pods y = pods (x ++ y) := by simp [pods]
theorem pgrow_raw (n : Nat) (hn : n ≤ 1000000) : ACalls env 137 [.d .nils, .d (.int .i64 (n : Nat))] [] fun r H' => (r = .sfull 0 ∧ H' = [.arr 26 9 []]) ∨ (r = .sfull 1 ∧ H' = [.none, .arr 26 9 []]) := by
 have b0 : decide ((n : Int) < 0) = false := decide_eq_false (by omega)
 have w0 : IntKind.wrap .i64 ((n : Int) - 0) = (n : Int) := by rw [wrapi (by omega) (by omega)]; omega
 have w1 : IntKind.wrap .i64 0 = 0 := rfl
 have w2 : IntKind.wrap .i64 (0 - 0) = 0 := rfl
 have w3 : IntKind.wrap .i64 (n : Int) = (n : Int) := by rw [wrapi (by omega) (by omega)]
 refine acalls_of envOk Tryz.func137 rfl (by kernel_rfl) (m := 25) rfl ?_
 simp only [b0, w0, w1, w2, w3, Int.sub_zero, Int.sub_self, push_cast, simprocAttr, pods_length, fP, pL]
 by_cases h0 : n = 0
 ·subst h0
  simp only [push_cast, simprocAttr, fP, pL]
  refine WK.nil 4 26 9 rfl (WK.now ?_)
  simp only [push_cast, simprocAttr, fP, pL]
  exact .inl trivial
 ·have b1 : decide (0 < n) = true := decide_eq_true (by omega)
  have b2 : decide ((n : Int) > 0) = true := decide_eq_true (by omega)
  simp only [b1, b2, push_cast, simprocAttr, fP, pL]
  refine ⟨by omega, room_of (by omega) (by omega), WK.cut 4 0 rfl rfl (by simp) (WK.now ?_)⟩
  simp only [push_cast, simprocAttr, fP, pL]
  exact .inr trivial
theorem pgrow_ok (n : Nat) (hn : n ≤ 1000000) : ACalls env 137 [.d .nils, .d (.int .i64 (n : Nat))] [] fun r H' => r = .sfull 0 ∧ H' = [.arr 26 9 []] :=
 (pgrow_raw n hn).retell (by
  rintro r H' (⟨rfl, rfl⟩ | ⟨rfl, rfl⟩)
  ·exact WK.now ⟨_, rfl, rfl, rfl⟩
  ·exact WK.pick [1] (t' := [.sfull 0]) (H' := [.arr 26 9 []]) (by simp [sbl, ren_arr, bel_arr]) (by simp) (by simp) (by simp [tellL, AV.ren, AV.renL, AV.bel, AV.belL, rn]) (by simp) (WK.now ⟨_, rfl, rfl, rfl⟩))
def ptwo (x y : List Pod) : List (List D) := [[.slice 9 (pods x)], [.slice 9 (pods y)]]
set_option maxRecDepth 8000 in
theorem pcat_ok (x y : List Pod) (hx : x.length ≤ 100000) (hy : y.length ≤ 100000) : PCall env 88 [.slice 1 (ptwo x y)] (.slice 9 (pods (x ++ y))) := by
 refine acalls_of envOk Tryz.func88 rfl (by kernel_rfl) (m := 35) rfl ?_
 simp only [show (ptwo x y).length = 2 from rfl, push_cast, simprocAttr, pods_length, fP, pL]
 refine ALoop.mk (fun k t H ds => ∃ (i n : Nat), k = 2 - i ∧ (i = 0 ∧ n = 0 ∨ i = 1 ∧ n = x.length ∨ i = 2 ∧ n = x.length + y.length) ∧ t = (.d (.slice 1 (ptwo x y)) :: .x :: .x :: .d (.int .i64 (n : Nat)) :: .x :: .x :: .x :: .x :: .x :: .d (.slice 1 (ptwo x y)) :: .d (.int .i64 2) :: .d (.int .i64 (i : Nat)) :: xs24) ∧ H = [] ∧ ds = []) 2
  (WK.fgt (t' := (.d (.slice 1 (ptwo x y)) :: .x :: .x :: .d (.int .i64 (0 : Nat)) :: .x :: .x :: .x :: .x :: .x :: .d (.slice 1 (ptwo x y)) :: .d (.int .i64 2) :: .d (.int .i64 (0 : Nat)) :: xs24)) (by simp [fgt]) (WK.now ⟨0, 0, rfl, by omega, rfl, rfl, rfl⟩)) ?_
 rintro k t H ds ⟨i, n, rfl, hc, rfl, rfl, rfl⟩
 rcases hc with ⟨rfl, rfl⟩ | ⟨rfl, rfl⟩ | ⟨rfl, rfl⟩
 ·have w1 : IntKind.wrap .i64 (x.length : Int) = (x.length : Int) := by rw [wrapi (by omega) (by omega)]
  have b1 : decide ((x.length : Int) < 0) = false := decide_eq_false (by omega)
  simp only [ptwo, pcel0, pw1, w1, b1, Int.zero_add, pods_length, push_cast, simprocAttr, pods_length, fP, pL]
  exact ⟨1, by omega, WK.fgt (t' := (.d (.slice 1 (ptwo x y)) :: .x :: .x :: .d (.int .i64 (x.length : Nat)) :: .x :: .x :: .x :: .x :: .x :: .d (.slice 1 (ptwo x y)) :: .d (.int .i64 2) :: .d (.int .i64 (1 : Nat)) :: xs24)) (by simp [fgt, ptwo]) (WK.now ⟨1, x.length, rfl, by omega, rfl, rfl, rfl⟩)⟩
 ·have w1 : IntKind.wrap .i64 ((x.length : Int) + (y.length : Int)) = ((x.length + y.length : Nat) : Int) := by rw [wrapi (by omega) (by omega)]; omega
  have b1 : decide (((x.length + y.length : Nat) : Int) < 0) = false := decide_eq_false (by omega)
  rw [Int.natCast_add] at b1
  simp only [ptwo, pcel1, pw2, w1, b1, pods_length, push_cast, simprocAttr, fP, pL]
  exact ⟨0, by omega, WK.fgt (t' := (.d (.slice 1 (ptwo x y)) :: .x :: .x :: .d (.int .i64 (x.length + y.length : Nat)) :: .x :: .x :: .x :: .x :: .x :: .d (.slice 1 (ptwo x y)) :: .d (.int .i64 2) :: .d (.int .i64 (2 : Nat)) :: xs24)) (by simp [fgt, ptwo]) (WK.now ⟨2, x.length + y.length, rfl, by omega, rfl, rfl, rfl⟩)⟩
 ·obtain ⟨n, hn⟩ : ∃ n, n = x.length + y.length := ⟨_, rfl⟩
  rw [← hn]
  simp only [push_cast, simprocAttr, fP, pL]
  refine (pgrow_ok n (by omega)).at [] (by simp [fP, pL, sl, pods_length, sbl, ren_none, ren_var, ren_arr, ren_map, ren_mapb, ren_iter, ren_loop, ren_defr, bel_none, bel_var, bel_arr, bel_map, bel_mapb, bel_iter, bel_loop, bel_defr, AV.renL, AV.ren, AV.belL, AV.bel, rn]) (by simp) (by simp [fP, pL, sl, pods_length]) (by simp [fP, pL, sl, pods_length, AV.ren, AV.renL, rn]) (by simp [AV.belL, AV.bel]) (WK.now ?_)
  simp only [show (ptwo x y).length = 2 from rfl, push_cast, simprocAttr, pods_length, fP, pL]
  refine ALoop.mk (fun k t H ds => ∃ (i : Nat) (z : List Pod), k = 2 - i ∧ (i = 0 ∧ z = [] ∨ i = 1 ∧ z = x ∨ i = 2 ∧ z = x ++ y) ∧ t = (.d (.slice 1 (ptwo x y)) :: .x :: .x :: .x :: .x :: .x :: .sfull 0 :: .x :: .x :: .x :: .x :: .x :: .x :: .x :: .x :: .x :: .x :: .x :: .x :: .x :: .x :: .x :: .x :: .x :: .x :: .d (.slice 1 (ptwo x y)) :: .d (.int .i64 2) :: .d (.int .i64 (i : Nat)) :: xs8) ∧ H = [.arr 26 9 (pods z)] ∧ ds = []) 2
   (WK.fgt (t' := (.d (.slice 1 (ptwo x y)) :: .x :: .x :: .x :: .x :: .x :: .sfull 0 :: .x :: .x :: .x :: .x :: .x :: .x :: .x :: .x :: .x :: .x :: .x :: .x :: .x :: .x :: .x :: .x :: .x :: .x :: .d (.slice 1 (ptwo x y)) :: .d (.int .i64 2) :: .d (.int .i64 (0 : Nat)) :: xs8)) (by simp [fgt]) (WK.now ⟨0, [], rfl, by simp, rfl, rfl, rfl⟩)) ?_
  rintro k t H ds ⟨i, z, rfl, hc, rfl, rfl, rfl⟩
  rcases hc with ⟨rfl, rfl⟩ | ⟨rfl, rfl⟩ | ⟨rfl, rfl⟩
  ·simp only [ptwo, pcel0, pw1, pnil, pods_length, push_cast, simprocAttr, fP, pL]
   refine ⟨room_of (by first | omega | (simp; omega)) (by omega), ?_⟩
   exact ⟨1, by omega, WK.fgt (t' := (.d (.slice 1 (ptwo x y)) :: .x :: .x :: .x :: .x :: .x :: .sfull 1 :: .x :: .x :: .x :: .x :: .x :: .x :: .x :: .x :: .x :: .x :: .x :: .x :: .x :: .x :: .x :: .x :: .x :: .x :: .d (.slice 1 (ptwo x y)) :: .d (.int .i64 2) :: .d (.int .i64 (1 : Nat)) :: xs8)) (by simp [fgt, ptwo]) (WK.pick [1] (t' := (.d (.slice 1 (ptwo x y)) :: .x :: .x :: .x :: .x :: .x :: .sfull 0 :: .x :: .x :: .x :: .x :: .x :: .x :: .x :: .x :: .x :: .x :: .x :: .x :: .x :: .x :: .x :: .x :: .x :: .x :: .d (.slice 1 (ptwo x y)) :: .d (.int .i64 2) :: .d (.int .i64 (1 : Nat)) :: xs8)) (H' := [.arr 26 9 (pods x)]) (by simp [sbl, ren_arr, bel_arr]) (by simp) (by simp) (by simp [tellL, AV.ren, AV.renL, AV.bel, AV.belL, rn]) (by simp) (WK.now ⟨1, x, rfl, by simp, rfl, rfl, rfl⟩))⟩
  ·simp only [ptwo, pcel1, pw2, papp, pods_length, push_cast, simprocAttr, fP, pL]
   refine ⟨room_of (by first | omega | (simp; omega)) (by omega), ?_⟩
   exact ⟨0, by omega, WK.fgt (t' := (.d (.slice 1 (ptwo z y)) :: .x :: .x :: .x :: .x :: .x :: .sfull 1 :: .x :: .x :: .x :: .x :: .x :: .x :: .x :: .x :: .x :: .x :: .x :: .x :: .x :: .x :: .x :: .x :: .x :: .x :: .d (.slice 1 (ptwo z y)) :: .d (.int .i64 2) :: .d (.int .i64 (2 : Nat)) :: xs8)) (by simp [fgt, ptwo]) (WK.pick [1] (t' := (.d (.slice 1 (ptwo z y)) :: .x :: .x :: .x :: .x :: .x :: .sfull 0 :: .x :: .x :: .x :: .x :: .x :: .x :: .x :: .x :: .x :: .x :: .x :: .x :: .x :: .x :: .x :: .x :: .x :: .x :: .d (.slice 1 (ptwo z y)) :: .d (.int .i64 2) :: .d (.int .i64 (2 : Nat)) :: xs8)) (H' := [.arr 26 9 (pods (z ++ y))]) (by simp [sbl, ren_arr, bel_arr, papp]) (by simp) (by simp) (by simp [tellL, AV.ren, AV.renL, AV.bel, AV.belL, rn]) (by simp) (WK.now ⟨2, z ++ y, rfl, by simp, rfl, rfl, rfl⟩))⟩
  ·simp only [push_cast, simprocAttr, fP, pL]
   refine WK.frz 0 rfl (WK.now ?_)
   simp only [push_cast, simprocAttr, fP, pL]
theorem ptake_rows (l : List Pod) (i : Nat) : (pods l).take i = pods (l.take i) := by unfold pods; rw [List.map_take]
theorem pdrop_rows (l : List Pod) (i : Nat) : (pods l).drop i = pods (l.drop i) := by unfold pods; rw [List.map_drop]
theorem pwo_ok (l : List Pod) (i : Nat) (hi : i < l.length) (hl : l.length ≤ 100000) : PCall env 48 [.slice 9 (pods l), .int .i64 (i : Nat)] (.slice 9 (pods (l.eraseIdx i))) := by
 have w1 : IntKind.wrap .i64 ((i : Int) + 1) = ((i + 1 : Nat) : Int) := by rw [wrapi (by omega) (by omega)]; rfl
 have hc := pcat_ok (l.take i) (l.drop (i + 1)) (by simp; omega) (by simp; omega)
 rw [← List.eraseIdx_eq_take_drop_succ] at hc
 unfold ptwo at hc
 refine acalls_of envOk Tryz.func48 rfl (by kernel_rfl) (m := 12) rfl ?_
 simp only [push_cast, simprocAttr, fP, pL]
 refine DRegL.det [] [0, 1, 2, 3, 4, 5, 6, 7, 8, 9] [] (by kernel_rfl) (by kernel_rfl) (by kernel_rfl) ?_
 simp only [w1, pods_length, ptake_rows, pdrop_rows, push_cast, simprocAttr, fP, pL]
 refine ⟨by omega, by omega, by omega, by omega, ?_⟩
 rw [show ((i : Int) + 1).toNat = i + 1 by omega, List.take_length]
 refine hc.quiet' (by simp [argsOk, argOk]) ?_
 simp only [push_cast, simprocAttr, fP, pL]
 refine WK.now ?_
 simp only [push_cast, simprocAttr, fP, pL]
end Go.Proofs.YtmeicgbddgeeoaaGreatDoor
end
section
set_option autoImplicit false
set_option linter.unusedVariables false
set_option linter.unusedSimpArgs false
namespace Go.Proofs.YtmeicgbddgeeoaaGreatDoor
open Go.Abs
theorem icel0 (a b : D) : cel [[a], [b]] 0 0 = a := rfl
theorem icel1 (a b : D) : cel [[a], [b]] 1 0 = b := rfl
theorem inil : ints ([] : List Int) = [] := rfl
theorem iw1 : IntKind.wrap .i64 1 = 1 := rfl
theorem iw2 : IntKind.wrap .i64 2 = 2 := rfl
theorem iapp (x y : List Int) : ints x ++ ints y = ints (x ++ y) := by simp [ints]
theorem igrow_raw (n : Nat) (hn : n ≤ 1000000) : ACalls env 143 [.d .nils, .d (.int .i64 (n : Nat))] [] fun r H' => (r = .sfull 0 ∧ H' = [.arr 3 1 []]) ∨ (r = .sfull 1 ∧ H' = [.none, .arr 3 1 []]) := by
 have b0 : decide ((n : Int) < 0) = false := decide_eq_false (by omega)
 have w0 : IntKind.wrap .i64 ((n : Int) - 0) = (n : Int) := by rw [wrapi (by omega) (by omega)]; omega
 have w1 : IntKind.wrap .i64 0 = 0 := rfl
 have w2 : IntKind.wrap .i64 (0 - 0) = 0 := rfl
 have w3 : IntKind.wrap .i64 (n : Int) = (n : Int) := by rw [wrapi (by omega) (by omega)]
 refine acalls_of envOk Tryz.func143 rfl (by kernel_rfl) (m := 25) rfl ?_
 simp only [b0, w0, w1, w2, w3, Int.sub_zero, Int.sub_self, push_cast, simprocAttr, pods_length]
 by_cases h0 : n = 0
 ·subst h0
  simp only [push_cast, simprocAttr]
  refine WK.nil 4 3 1 rfl (WK.now ?_)
  simp only [push_cast, simprocAttr]
  exact .inl trivial
 ·have b1 : decide (0 < n) = true := decide_eq_true (by omega)
  have b2 : decide ((n : Int) > 0) = true := decide_eq_true (by omega)
  simp only [b1, b2, push_cast, simprocAttr]
  refine ⟨by omega, room_of (by omega) (by omega), WK.cut 4 0 rfl rfl (by simp) (WK.now ?_)⟩
  simp only [push_cast, simprocAttr]
  exact .inr trivial
theorem igrow_ok (n : Nat) (hn : n ≤ 1000000) : ACalls env 143 [.d .nils, .d (.int .i64 (n : Nat))] [] fun r H' => r = .sfull 0 ∧ H' = [.arr 3 1 []] :=
 (igrow_raw n hn).retell (by
  rintro r H' (⟨rfl, rfl⟩ | ⟨rfl, rfl⟩)
  ·exact WK.now ⟨_, rfl, rfl, rfl⟩
  ·exact WK.pick [1] (t' := [.sfull 0]) (H' := [.arr 3 1 []]) (by simp [sbl, ren_arr, bel_arr]) (by simp) (by simp) (by simp [tellL, AV.ren, AV.renL, AV.bel, AV.belL, rn]) (by simp) (WK.now ⟨_, rfl, rfl, rfl⟩))
def itwo (x y : List Int) : List (List D) := [[.slice 1 (ints x)], [.slice 1 (ints y)]]
set_option maxRecDepth 8000 in
theorem icat_ok (x y : List Int) (hx : x.length ≤ 100000) (hy : y.length ≤ 100000) : PCall env 96 [.slice 1 (itwo x y)] (.slice 1 (ints (x ++ y))) := by
 refine acalls_of envOk Tryz.func96 rfl (by kernel_rfl) (m := 35) rfl ?_
 simp only [show (itwo x y).length = 2 from rfl, push_cast, simprocAttr, pods_length]
 refine ALoop.mk (fun k t H ds => ∃ (i n : Nat), k = 2 - i ∧ (i = 0 ∧ n = 0 ∨ i = 1 ∧ n = x.length ∨ i = 2 ∧ n = x.length + y.length) ∧ t = (.d (.slice 1 (itwo x y)) :: .x :: .x :: .d (.int .i64 (n : Nat)) :: .x :: .x :: .x :: .x :: .x :: .d (.slice 1 (itwo x y)) :: .d (.int .i64 2) :: .d (.int .i64 (i : Nat)) :: xs24) ∧ H = [] ∧ ds = []) 2
  (WK.fgt (t' := (.d (.slice 1 (itwo x y)) :: .x :: .x :: .d (.int .i64 (0 : Nat)) :: .x :: .x :: .x :: .x :: .x :: .d (.slice 1 (itwo x y)) :: .d (.int .i64 2) :: .d (.int .i64 (0 : Nat)) :: xs24)) (by simp [fgt]) (WK.now ⟨0, 0, rfl, by omega, rfl, rfl, rfl⟩)) ?_
 rintro k t H ds ⟨i, n, rfl, hc, rfl, rfl, rfl⟩
 rcases hc with ⟨rfl, rfl⟩ | ⟨rfl, rfl⟩ | ⟨rfl, rfl⟩
 ·have w1 : IntKind.wrap .i64 (x.length : Int) = (x.length : Int) := by rw [wrapi (by omega) (by omega)]
  have b1 : decide ((x.length : Int) < 0) = false := decide_eq_false (by omega)
  simp only [itwo, icel0, iw1, w1, b1, Int.zero_add, ints_length, push_cast, simprocAttr, pods_length]
  exact ⟨1, by omega, WK.fgt (t' := (.d (.slice 1 (itwo x y)) :: .x :: .x :: .d (.int .i64 (x.length : Nat)) :: .x :: .x :: .x :: .x :: .x :: .d (.slice 1 (itwo x y)) :: .d (.int .i64 2) :: .d (.int .i64 (1 : Nat)) :: xs24)) (by simp [fgt, itwo]) (WK.now ⟨1, x.length, rfl, by omega, rfl, rfl, rfl⟩)⟩
 ·have w1 : IntKind.wrap .i64 ((x.length : Int) + (y.length : Int)) = ((x.length + y.length : Nat) : Int) := by rw [wrapi (by omega) (by omega)]; omega
  have b1 : decide (((x.length + y.length : Nat) : Int) < 0) = false := decide_eq_false (by omega)
  rw [Int.natCast_add] at b1
  simp only [itwo, icel1, iw2, w1, b1, ints_length, push_cast, simprocAttr]
  exact ⟨0, by omega, WK.fgt (t' := (.d (.slice 1 (itwo x y)) :: .x :: .x :: .d (.int .i64 (x.length + y.length : Nat)) :: .x :: .x :: .x :: .x :: .x :: .d (.slice 1 (itwo x y)) :: .d (.int .i64 2) :: .d (.int .i64 (2 : Nat)) :: xs24)) (by simp [fgt, itwo]) (WK.now ⟨2, x.length + y.length, rfl, by omega, rfl, rfl, rfl⟩)⟩
 ·obtain ⟨n, hn⟩ : ∃ n, n = x.length + y.length := ⟨_, rfl⟩
  rw [← hn]
  simp only [push_cast, simprocAttr]
  refine (igrow_ok n (by omega)).at [] (by simp [fP, pL, sl, pods_length, sbl, ren_none, ren_var, ren_arr, ren_map, ren_mapb, ren_iter, ren_loop, ren_defr, bel_none, bel_var, bel_arr, bel_map, bel_mapb, bel_iter, bel_loop, bel_defr, AV.renL, AV.ren, AV.belL, AV.bel, rn]) (by simp) (by simp [fP, pL, sl, pods_length]) (by simp [fP, pL, sl, pods_length, AV.ren, AV.renL, rn]) (by simp [AV.belL, AV.bel]) (WK.now ?_)
  simp only [show (itwo x y).length = 2 from rfl, push_cast, simprocAttr, pods_length]
  refine ALoop.mk (fun k t H ds => ∃ (i : Nat) (z : List Int), k = 2 - i ∧ (i = 0 ∧ z = [] ∨ i = 1 ∧ z = x ∨ i = 2 ∧ z = x ++ y) ∧ t = (.d (.slice 1 (itwo x y)) :: .x :: .x :: .x :: .x :: .x :: .sfull 0 :: .x :: .x :: .x :: .x :: .x :: .x :: .x :: .x :: .x :: .x :: .x :: .x :: .x :: .x :: .x :: .x :: .x :: .x :: .d (.slice 1 (itwo x y)) :: .d (.int .i64 2) :: .d (.int .i64 (i : Nat)) :: xs8) ∧ H = [.arr 3 1 (ints z)] ∧ ds = []) 2
   (WK.fgt (t' := (.d (.slice 1 (itwo x y)) :: .x :: .x :: .x :: .x :: .x :: .sfull 0 :: .x :: .x :: .x :: .x :: .x :: .x :: .x :: .x :: .x :: .x :: .x :: .x :: .x :: .x :: .x :: .x :: .x :: .x :: .d (.slice 1 (itwo x y)) :: .d (.int .i64 2) :: .d (.int .i64 (0 : Nat)) :: xs8)) (by simp [fgt]) (WK.now ⟨0, [], rfl, by simp, rfl, rfl, rfl⟩)) ?_
  rintro k t H ds ⟨i, z, rfl, hc, rfl, rfl, rfl⟩
  rcases hc with ⟨rfl, rfl⟩ | ⟨rfl, rfl⟩ | ⟨rfl, rfl⟩
  ·simp only [itwo, icel0, iw1, inil, ints_length, push_cast, simprocAttr]
   refine ⟨room_of (by first | omega | (simp; omega)) (by omega), ?_⟩
   exact ⟨1, by omega, WK.fgt (t' := (.d (.slice 1 (itwo x y)) :: .x :: .x :: .x :: .x :: .x :: .sfull 1 :: .x :: .x :: .x :: .x :: .x :: .x :: .x :: .x :: .x :: .x :: .x :: .x :: .x :: .x :: .x :: .x :: .x :: .x :: .d (.slice 1 (itwo x y)) :: .d (.int .i64 2) :: .d (.int .i64 (1 : Nat)) :: xs8)) (by simp [fgt, itwo]) (WK.pick [1] (t' := (.d (.slice 1 (itwo x y)) :: .x :: .x :: .x :: .x :: .x :: .sfull 0 :: .x :: .x :: .x :: .x :: .x :: .x :: .x :: .x :: .x :: .x :: .x :: .x :: .x :: .x :: .x :: .x :: .x :: .x :: .d (.slice 1 (itwo x y)) :: .d (.int .i64 2) :: .d (.int .i64 (1 : Nat)) :: xs8)) (H' := [.arr 3 1 (ints x)]) (by simp [sbl, ren_arr, bel_arr]) (by simp) (by simp) (by simp [tellL, AV.ren, AV.renL, AV.bel, AV.belL, rn]) (by simp) (WK.now ⟨1, x, rfl, by simp, rfl, rfl, rfl⟩))⟩
  ·simp only [itwo, icel1, iw2, iapp, ints_length, push_cast, simprocAttr]
   refine ⟨room_of (by first | omega | (simp; omega)) (by omega), ?_⟩
   exact ⟨0, by omega, WK.fgt (t' := (.d (.slice 1 (itwo z y)) :: .x :: .x :: .x :: .x :: .x :: .sfull 1 :: .x :: .x :: .x :: .x :: .x :: .x :: .x :: .x :: .x :: .x :: .x :: .x :: .x :: .x :: .x :: .x :: .x :: .x :: .d (.slice 1 (itwo z y)) :: .d (.int .i64 2) :: .d (.int .i64 (2 : Nat)) :: xs8)) (by simp [fgt, itwo]) (WK.pick [1] (t' := (.d (.slice 1 (itwo z y)) :: .x :: .x :: .x :: .x :: .x :: .sfull 0 :: .x :: .x :: .x :: .x :: .x :: .x :: .x :: .x :: .x :: .x :: .x :: .x :: .x :: .x :: .x :: .x :: .x :: .x :: .d (.slice 1 (itwo z y)) :: .d (.int .i64 2) :: .d (.int .i64 (2 : Nat)) :: xs8)) (H' := [.arr 3 1 (ints (z ++ y))]) (by simp [sbl, ren_arr, bel_arr, iapp]) (by simp) (by simp) (by simp [tellL, AV.ren, AV.renL, AV.bel, AV.belL, rn]) (by simp) (WK.now ⟨2, z ++ y, rfl, by simp, rfl, rfl, rfl⟩))⟩
  ·simp only [push_cast, simprocAttr]
   refine WK.frz 0 rfl (WK.now ?_)
   simp only [push_cast, simprocAttr]
theorem itake_rows (l : List Int) (i : Nat) : (ints l).take i = ints (l.take i) := by unfold ints; rw [List.map_take]
theorem idrop_rows (l : List Int) (i : Nat) : (ints l).drop i = ints (l.drop i) := by unfold ints; rw [List.map_drop]
theorem iwo_ok (l : List Int) (i : Nat) (hi : i < l.length) (hl : l.length ≤ 100000) : PCall env 59 [.slice 1 (ints l), .int .i64 (i : Nat)] (.slice 1 (ints (l.eraseIdx i))) := by
 have w1 : IntKind.wrap .i64 ((i : Int) + 1) = ((i + 1 : Nat) : Int) := by rw [wrapi (by omega) (by omega)]; rfl
 have hc := icat_ok (l.take i) (l.drop (i + 1)) (by simp; omega) (by simp; omega)
 rw [← List.eraseIdx_eq_take_drop_succ] at hc
 unfold itwo at hc
 refine acalls_of envOk Tryz.func59 rfl (by kernel_rfl) (m := 12) rfl ?_
 simp only [push_cast, simprocAttr]
 refine DRegL.det [] [0, 1, 2, 3, 4, 5, 6, 7, 8, 9] [] (by kernel_rfl) (by kernel_rfl) (by kernel_rfl) ?_
 simp only [w1, ints_length, itake_rows, idrop_rows, push_cast, simprocAttr]
 refine ⟨by omega, by omega, by omega, by omega, ?_⟩
 rw [show ((i : Int) + 1).toNat = i + 1 by omega, List.take_length]
 refine hc.quiet' (by simp [argsOk, argOk]) ?_
 simp only [push_cast, simprocAttr]
 refine WK.now ?_
 simp only [push_cast, simprocAttr]
end Go.Proofs.YtmeicgbddgeeoaaGreatDoor
end
section
set_option autoImplicit false
set_option linter.unusedVariables false
set_option linter.unusedSimpArgs false
namespace Go.Proofs.YtmeicgbddgeeoaaGreatDoor
open Go.Abs
def cmI (x y : Int) : Int := if x < y then -1 else if y < x then 1 else 0
theorem nan_ok (x : Int) : PCall env 112 [.int .i64 x] (.bool false) := by
 refine acalls_of envOk Tryz.func112 rfl (by kernel_rfl) (m := 5) rfl ?_
 simp only [push_cast, simprocAttr, fP, pL]
 refine WK.now ?_
 simp only [push_cast, simprocAttr, fP, pL]
theorem cmpI_ok (x y : Int) : PCall env 71 [.int .i64 x, .int .i64 y] (.int .i64 (cmI x y)) := by
 unfold cmI
 refine acalls_of envOk Tryz.func71 rfl (by kernel_rfl) (m := 18) rfl ?_
 simp only [push_cast, simprocAttr, fP, pL]
 refine (nan_ok x).go (by first | exact ⟨.inl rfl, trivial⟩ | exact ⟨.inl rfl, .inl rfl, trivial⟩ | exact ⟨.inl rfl, .inl rfl, .inl rfl, trivial⟩ | simp [argsOk, argOk, sl, sll]) (WK.now ?_)
 simp only [push_cast, simprocAttr, fP, pL]
 refine (nan_ok y).go (by first | exact ⟨.inl rfl, trivial⟩ | exact ⟨.inl rfl, .inl rfl, trivial⟩ | exact ⟨.inl rfl, .inl rfl, .inl rfl, trivial⟩ | simp [argsOk, argOk, sl, sll]) (WK.now ?_)
 simp only [push_cast, simprocAttr, fP, pL]
 by_cases h1 : x < y
 ·simp only [decide_eq_true h1, h1, push_cast, simprocAttr, pods_length, fP, pL]
  refine WK.now ?_
  simp only [h1, push_cast, simprocAttr, fP, pL]
 ·by_cases h2 : y < x
  ·have b2 : decide (x > y) = true := decide_eq_true h2
   simp only [decide_eq_false h1, b2, h1, h2, push_cast, simprocAttr, pods_length, fP, pL]
   refine WK.now ?_
   simp only [h1, h2, push_cast, simprocAttr, fP, pL]
  ·have b2 : decide (x > y) = false := decide_eq_false h2
   simp only [decide_eq_false h1, b2, h1, h2, push_cast, simprocAttr, pods_length, fP, pL]
   refine WK.now ?_
   simp only [h1, h2, push_cast, simprocAttr, fP, pL]
def fstNZ : List Int → Int
 | [] => 0
 | x :: l => if x = 0 then fstNZ l else x
theorem fst_drop {xs : List Int} {i : Nat} (h : i < xs.length) : fstNZ (xs.drop i) = if xs.getD i 0 = 0 then fstNZ (xs.drop (i + 1)) else xs.getD i 0 := by
 rw [List.drop_eq_getElem_cons h, List.getD_eq_getElem?_getD, List.getElem?_eq_getElem h]
 rfl
theorem cmor_ok (xs : List Int) (hl : xs.length ≤ 1000000) : PCall env 142 [.slice 1 (ints xs)] (.int .i64 (fstNZ xs)) := by
 refine acalls_of envOk Tryz.func142 rfl (by kernel_rfl) (m := 17) rfl ?_
 simp only [push_cast, simprocAttr, fP, pL]
 refine ALoop.mk (fun k t H ds => ∃ i : Nat, k = xs.length - i ∧ i ≤ xs.length ∧ fstNZ xs = fstNZ (xs.drop i) ∧ t = (.d (.slice 1 (ints xs)) :: .x :: .d (.int .i64 0) :: .d (.int .i64 0) :: .x :: .x :: .d (.slice 1 (ints xs)) :: .d (.int .i64 xs.length) :: .d (.int .i64 (i : Nat)) :: xs9) ∧ H = [] ∧ ds = []) xs.length
  (WK.fgt (t' := (.d (.slice 1 (ints xs)) :: .x :: .d (.int .i64 0) :: .d (.int .i64 0) :: .x :: .x :: .d (.slice 1 (ints xs)) :: .d (.int .i64 xs.length) :: .d (.int .i64 (0 : Nat)) :: xs9)) (by simp [fgt]) (WK.now ⟨0, by omega, by omega, rfl, rfl, rfl, rfl⟩)) ?_
 rintro k t H ds ⟨i, rfl, hi, hf, rfl, rfl, rfl⟩
 simp only [push_cast, simprocAttr, fP, pL]
 refine Kbr.mk (fun c => ?_) (fun c => ?_)
 ·have c2 : i < xs.length := by simpa using c
  have si := succ64 c2 (show xs.length ≤ 4611686018427387904 by omega)
  have hd := fst_drop c2
  simp only [c2, cel_ints, push_cast, simprocAttr, fP, pL]
  by_cases h0 : xs.getD i 0 = 0
  ·have b0 : (xs.getD i 0 != 0) = false := by rw [h0]; rfl
   rw [if_pos h0] at hd
   simp only [b0, si, push_cast, simprocAttr, fP, pL]
   exact ⟨xs.length - (i + 1), by omega, WK.fgt (t' := (.d (.slice 1 (ints xs)) :: .x :: .d (.int .i64 0) :: .d (.int .i64 0) :: .x :: .x :: .d (.slice 1 (ints xs)) :: .d (.int .i64 xs.length) :: .d (.int .i64 (i + 1 : Nat)) :: xs9)) (by simp [fgt]) (WK.now ⟨i + 1, rfl, by omega, by rw [hf, hd], rfl, rfl, rfl⟩)⟩
  ·have b0 : (xs.getD i 0 != 0) = true := by simpa using h0
   rw [if_neg h0] at hd
   simp only [b0, push_cast, simprocAttr, fP, pL]
   refine WK.now ?_
   simp only [hf, hd, push_cast, simprocAttr, fP, pL]
 ·have c2 : ¬ i < xs.length := by simpa using c
  rw [List.drop_eq_nil_of_le (by omega)] at hf
  simp only [push_cast, simprocAttr, fP, pL]
  refine WK.now ?_
  simp only [hf, fstNZ, push_cast, simprocAttr, fP, pL]
def rankC (a b : Pod) : Int := fstNZ [cmI b.1.pr a.1.pr, cmI a.1.ar b.1.ar, cmI a.1.id b.1.id]
theorem int3 (a b c : Int) : [[D.int .i64 a], [D.int .i64 b], [D.int .i64 c]] = ints [a, b, c] := rfl
theorem rankc_ok (a b : Pod) : PCall env 92 [fP a, fP b] (.int .i64 (rankC a b)) := by
 have ho := cmor_ok [cmI b.1.pr a.1.pr, cmI a.1.ar b.1.ar, cmI a.1.id b.1.id] (by simp)
 unfold rankC
 refine acalls_of envOk Tryz.func92 rfl (by kernel_rfl) (m := 20) rfl ?_
 simp only [push_cast, simprocAttr, fP, pL]
 refine DRegL.det [] [0, 1, 2, 3, 4, 5, 6, 7, 8, 9, 10, 11, 12, 13, 14, 15, 16, 17] [] (by kernel_rfl) (by kernel_rfl) (by kernel_rfl) ?_
 simp only [push_cast, simprocAttr, fP, pL]
 refine (cmpI_ok b.1.pr a.1.pr).quiet' (by first | exact ⟨.inl rfl, trivial⟩ | exact ⟨.inl rfl, .inl rfl, trivial⟩ | exact ⟨.inl rfl, .inl rfl, .inl rfl, trivial⟩ | simp [argsOk, argOk, sl, sll]) ?_
 simp only [push_cast, simprocAttr, fP, pL]
 refine (cmpI_ok a.1.ar b.1.ar).quiet' (by first | exact ⟨.inl rfl, trivial⟩ | exact ⟨.inl rfl, .inl rfl, trivial⟩ | exact ⟨.inl rfl, .inl rfl, .inl rfl, trivial⟩ | simp [argsOk, argOk, sl, sll]) ?_
 simp only [push_cast, simprocAttr, fP, pL]
 refine (cmpI_ok a.1.id b.1.id).quiet' (by first | exact ⟨.inl rfl, trivial⟩ | exact ⟨.inl rfl, .inl rfl, trivial⟩ | exact ⟨.inl rfl, .inl rfl, .inl rfl, trivial⟩ | simp [argsOk, argOk, sl, sll]) ?_
 simp only [int3, push_cast, simprocAttr, fP, pL]
 refine ho.quiet' (by simp [argsOk, argOk]) ?_
 simp only [push_cast, simprocAttr, fP, pL]
 refine WK.now ?_
 simp only [push_cast, simprocAttr, fP, pL]
theorem rankCmp : CmpOk 92 rankC := ⟨rfl, rankc_ok⟩
theorem cmI_lt {x y : Int} : cmI x y < 0 ↔ x < y := by
 unfold cmI
 split
 ·omega
 ·split <;> omega
theorem cmI_zero {x y : Int} : cmI x y = 0 ↔ x = y := by
 unfold cmI
 split
 ·omega
 ·split <;> omega
theorem inj_pid {l : List Pod} (hn : (l.map pid).Nodup) {x y : Pod} (hx : x ∈ l) (hy : y ∈ l) (h : pid x = pid y) : x = y := by
 induction l with
 | nil => exact absurd hx (by simp)
 | cons z l ih =>
  rw [List.map_cons, List.nodup_cons] at hn
  rcases List.mem_cons.1 hx with rfl | kx
  ·rcases List.mem_cons.1 hy with rfl | ky
   ·rfl
   ·exact (hn.1 (List.mem_map.2 ⟨y, ky, h.symm⟩)).elim
  ·rcases List.mem_cons.1 hy with rfl | ky
   ·exact (hn.1 (List.mem_map.2 ⟨x, kx, h⟩)).elim
   ·exact ih hn.2 kx ky
theorem rank_lt {a b : Pod} : rankC a b < 0 ↔ b.1.pr < a.1.pr ∨ (b.1.pr = a.1.pr ∧ (a.1.ar < b.1.ar ∨ (a.1.ar = b.1.ar ∧ a.1.id < b.1.id))) := by
 unfold rankC fstNZ
 split
 ·rename_i h
  have h := cmI_zero.1 h
  unfold fstNZ
  split
  ·rename_i h2
   have h2 := cmI_zero.1 h2
   unfold fstNZ
   split
   ·rename_i h3
    have h3 := cmI_zero.1 h3
    simp [fstNZ]; omega
   ·rw [cmI_lt]; omega
  ·rename_i h2
   have h2 : ¬ a.1.ar = b.1.ar := fun e => h2 (cmI_zero.2 e)
   rw [cmI_lt]; omega
 ·rename_i h
  have h : ¬ b.1.pr = a.1.pr := fun e => h (cmI_zero.2 e)
  rw [cmI_lt]; omega
theorem rankOrd : Ord (ltC rankC) := by
 refine ⟨fun x y h => ?_, fun x y z h1 h2 => ?_⟩
 ·have h := rank_lt.1 (of_decide_eq_true h)
  refine decide_eq_false fun h' => ?_
  have h' := rank_lt.1 h'
  omega
 ·have h1 := mt rank_lt.2 (of_decide_eq_false h1)
  have h2 := mt rank_lt.2 (of_decide_eq_false h2)
  refine decide_eq_false fun h' => ?_
  have h' := rank_lt.1 h'
  omega
def srtP (l : List Pod) : List Pod := l.mergeSort fun x y => !ltC rankC y x
theorem srtP_perm (l : List Pod) : (srtP l).Perm l := List.mergeSort_perm _ _
theorem srtP_srt (l : List Pod) : Srt (ltC rankC) (srtP l) := by
 have := List.pairwise_mergeSort (le := fun x y => !ltC rankC y x) (fun a b c h1 h2 => by
  simp only [Bool.not_eq_true'] at *
  exact rankOrd.trans a b c h1 h2) (fun a b => by
  simp only [Bool.or_eq_true, Bool.not_eq_true']
  cases h : ltC rankC b a with
  | false => exact .inl rfl
  | true => exact .inr (rankOrd.asymm _ _ h)) l
 exact this.imp (by simp)
theorem srtP_unique {l ys : List Pod} (hn : (l.map pid).Nodup) (hp : ys.Perm l) (hs : Srt (ltC rankC) ys) : ys = srtP l := by
 refine srt_unique' (l := srtP l) rankOrd (hp.trans (srtP_perm l).symm) (srtP_srt l) hs fun x hx y hy h1 h2 => ?_
 have h1 := mt rank_lt.2 (of_decide_eq_false h1)
 have h2 := mt rank_lt.2 (of_decide_eq_false h2)
 have hid : pid x = pid y := by show x.1.id = y.1.id; omega
 have hxm := (srtP_perm l).mem_iff.1 hx
 have hym := (srtP_perm l).mem_iff.1 hy
 exact inj_pid hn hxm hym hid
theorem rlow1_ok (q : Pod) (n : Int) : ACalls env 94 [.d (fP q), .pvar 0 0] [.var [.d (.int .i64 n)]] fun r H' => r = .d (.bool (decide (q.1.pr < n))) ∧ H' = [.var [.d (.int .i64 n)]] := by
 refine ACalls.cutTo [0] rfl ?_ (fun l => by simp [PV, fP, pL, sl, pods_length, sbl, ren_none, ren_var, ren_arr, ren_map, ren_mapb, ren_iter, ren_loop, ren_defr, bel_none, bel_var, bel_arr, bel_map, bel_mapb, bel_iter, bel_loop, bel_defr, AV.renL, AV.ren, AV.belL, AV.bel, rn]) (fun m => by simp [tellL, AV.ren, AV.renL, AV.bel, AV.belL, rn])
 refine acalls_of envOk Tryz.func94 rfl (by kernel_rfl) (m := 6) rfl ?_
 simp only [push_cast, simprocAttr, fP, pL]
 refine WK.now ?_
 simp only [push_cast, simprocAttr, fP, pL]
 first | done | exact ⟨_, rfl⟩ | exact ⟨rfl, _, rfl⟩
set_option maxRecDepth 8000 in
theorem kept_ok (l : List Pod) (n : Int) (g : FuncId) (hx : env.ext g = none) (h : Pod → Bool) (hl : l.length ≤ 1000000)
  (hg : ∀ q, ACalls env g [.d (fP q), .pvar 0 0] [.var [.d (.int .i64 n)]] fun r H' => r = .d (.bool (h q)) ∧ H' = [.var [.d (.int .i64 n)]]) :
  ACalls env 93 [.d (.slice 9 (pods l)), .func g [.pvar 0 0]] [.var [.d (.int .i64 n)]] fun r H' => r = .sfull 1 ∧ H' = [.var [.d (.int .i64 n)], .arr 26 9 (pods (l.filter h))] := by
 refine acalls_of envOk Tryz.func93 rfl (by kernel_rfl) (m := 21) rfl ?_
 simp only [push_cast, simprocAttr, fP, pL]
 refine ALoop.mk (fun k t H ds => ∃ i : Nat, k = l.length - i ∧ i ≤ l.length ∧ t = (.d (.slice 9 (pods l)) :: .func g [.pvar 0 0] :: .x :: .x :: .d .nils :: .sfull 1 :: .x :: .x :: .d (.slice 9 (pods l)) :: .d (.int .i64 l.length) :: .d (.int .i64 (i : Nat)) :: xs12) ∧ H = [.var [.d (.int .i64 n)], .arr 26 9 (pods ((l.take i).filter h))] ∧ ds = []) l.length
  (WK.nil 5 26 9 rfl (WK.fgt (t' := (.d (.slice 9 (pods l)) :: .func g [.pvar 0 0] :: .x :: .x :: .d .nils :: .sfull 1 :: .x :: .x :: .d (.slice 9 (pods l)) :: .d (.int .i64 l.length) :: .d (.int .i64 (0 : Nat)) :: xs12)) (by simp [fgt]) (WK.now ⟨0, by omega, by omega, rfl, by simp [pods], rfl⟩))) ?_
 rintro k t H ds ⟨i, rfl, hi, rfl, rfl, rfl⟩
 simp only [push_cast, simprocAttr, fP, pL]
 refine Kbr.mk (fun c => ?_) (fun c => ?_)
 ·have c2 : i < l.length := by simpa using c
  have hsn := filt_snoc h c2
  have si := succ64 c2 (show l.length ≤ 4611686018427387904 by omega)
  have hsl : ((l.take i).filter h).length ≤ 1000000 := by
   refine Nat.le_trans (List.length_filter_le _ _) ?_
   simp; omega
  simp only [c2, seg_pods, hx, push_cast, simprocAttr, fP, pL]
  refine (hg (l.getD i pz)).at [0] (by simp [PV, fP, pL, sl, pods_length, sbl, ren_none, ren_var, ren_arr, ren_map, ren_mapb, ren_iter, ren_loop, ren_defr, bel_none, bel_var, bel_arr, bel_map, bel_mapb, bel_iter, bel_loop, bel_defr, AV.renL, AV.ren, AV.belL, AV.bel, rn]) (by simp) (by simp [PV, fP, pL, sl, pods_length]) (by simp [PV, fP, pL, sl, pods_length, AV.ren, AV.renL, rn]) (by simp [AV.belL, AV.bel]) (WK.now ?_)
  simp only [push_cast, simprocAttr, fP, pL]
  cases hb : h (l.getD i pz) with
  | false =>
   rw [hb, if_neg (by simp), List.append_nil] at hsn
   simp only [si, push_cast, simprocAttr, fP, pL]
   exact ⟨l.length - (i + 1), by omega, WK.fgt (t' := (.d (.slice 9 (pods l)) :: .func g [.pvar 0 0] :: .x :: .x :: .d .nils :: .sfull 1 :: .x :: .x :: .d (.slice 9 (pods l)) :: .d (.int .i64 l.length) :: .d (.int .i64 (i + 1 : Nat)) :: xs12)) (by simp [fgt]) (WK.pick [0, 1] (t' := (.d (.slice 9 (pods l)) :: .func g [.pvar 0 0] :: .x :: .x :: .d .nils :: .sfull 1 :: .x :: .x :: .d (.slice 9 (pods l)) :: .d (.int .i64 l.length) :: .d (.int .i64 (i + 1 : Nat)) :: xs12)) (H' := [.var [.d (.int .i64 n)], .arr 26 9 (pods ((l.take i).filter h))])
    (by simp [sbl, ren_none, ren_var, ren_arr, bel_none, bel_var, bel_arr, AV.renL, AV.ren, AV.belL, AV.bel, rn]) (by simp) (by simp) (by simp [tellL, AV.ren, AV.renL, AV.bel, AV.belL, rn]) (by intro id h; rcases id with _ | id; rfl; exact absurd h (by simp)) (WK.now ⟨i + 1, rfl, by omega, rfl, by rw [hsn], rfl⟩))⟩
  | true =>
   rw [hb, if_pos rfl] at hsn
   simp only [si, push_cast, simprocAttr, fP, pL]
   refine ⟨room_of (by simp [pods_length]; omega) (by omega), ?_⟩
   exact ⟨l.length - (i + 1), by omega, WK.pick [0, 3] (t' := (.d (.slice 9 (pods l)) :: .func g [.pvar 0 0] :: .x :: .x :: .d .nils :: .sfull 1 :: .x :: .x :: .d (.slice 9 (pods l)) :: .d (.int .i64 l.length) :: .d (.int .i64 (i + 1 : Nat)) :: xs12)) (H' := [.var [.d (.int .i64 n)], .arr 26 9 (pods ((l.take (i + 1)).filter h))])
    (by rw [hsn, ← pods_snoc]; simp [pL, sbl, ren_none, ren_var, ren_arr, bel_none, bel_var, bel_arr, AV.renL, AV.ren, AV.belL, AV.bel, rn]) (by simp) (by simp) (by simp [tellL, AV.ren, AV.renL, AV.bel, AV.belL, rn]) (by intro id h; rcases id with _ | id; rfl; exact absurd h (by simp)) (WK.now ⟨i + 1, rfl, by omega, rfl, rfl, rfl⟩)⟩
 ·have c2 : ¬ i < l.length := by simpa using c
  have e : l.take i = l := List.take_of_length_le (by omega)
  rw [e]
  simp only [push_cast, simprocAttr, fP, pL]
  refine WK.now ?_
  simp only [push_cast, simprocAttr, fP, pL]
theorem rlow_ok (l : List Pod) (n : Int) (hl : l.length ≤ 1000000) : PCall env 54 [.slice 9 (pods l), .int .i64 n] (.slice 9 (pods (l.filter fun q => decide (q.1.pr < n)))) := by
 refine acalls_of envOk Tryz.func54 rfl (by kernel_rfl) (m := 6) rfl ?_
 simp only [push_cast, simprocAttr, fP, pL]
 refine (kept_ok l n 94 rfl _ hl (fun q => rlow1_ok q n)).at [0] (by simp [PV, fP, pL, sl, pods_length, sbl, ren_none, ren_var, ren_arr, ren_map, ren_mapb, ren_iter, ren_loop, ren_defr, bel_none, bel_var, bel_arr, bel_map, bel_mapb, bel_iter, bel_loop, bel_defr, AV.renL, AV.ren, AV.belL, AV.bel, rn]) (by simp) (by simp [PV, fP, pL, sl, pods_length]) (by simp [PV, fP, pL, sl, pods_length, AV.ren, AV.renL, rn]) (by simp [AV.belL, AV.bel]) (WK.frz 1 rfl (WK.now ?_))
 simp only [push_cast, simprocAttr, fP, pL]
 refine WK.now ?_
 simp only [push_cast, simprocAttr, fP, pL]
theorem pclone_ok (l : List Pod) (hl : l.length ≤ 1000000) : ACalls env 45 [.d (.slice 9 (pods l))] [] fun r H' => r = .sfull 0 ∧ H' = [.arr 26 9 (pods l)] := by
 have hr : room l.length 88 := room_of (by omega) (by omega)
 refine acalls_of envOk Tryz.func45 rfl (by kernel_rfl) (m := 7) rfl ?_
 simp only [push_cast, simprocAttr, fP, pL]
 refine ⟨⟨.inr trivial, hr, WK.now ?_⟩, fun h0 => ?_⟩
 ·simp only [push_cast, simprocAttr, fP, pL]
 ·refine WK.nil 2 26 9 rfl (WK.now ?_)
  simp only [← h0, push_cast, simprocAttr, pods_length, fP, pL]
theorem pcloneD_ok (l : List Pod) (hl : l.length ≤ 1000000) : PCall env 45 [.slice 9 (pods l)] (.slice 9 (pods l)) :=
 (pclone_ok l hl).retell (by
  rintro r H' ⟨rfl, rfl⟩
  refine WK.frz 0 rfl ?_
  simp only [AV.frzL, AV.frz, AObj.frz, List.set_cons_zero, List.map_cons, List.map_nil, if_true]
  exact WK.now ⟨_, rfl, rfl⟩)
theorem rsort_ok (l : List Pod) (hl : l.length ≤ 1000000) (hn : (l.map pid).Nodup) : PCall env 53 [.slice 9 (pods l)] (.slice 9 (pods (srtP l))) := by
 refine acalls_of envOk Tryz.func53 rfl (by kernel_rfl) (m := 8) rfl ?_
 simp only [push_cast, simprocAttr, fP, pL]
 refine (pclone_ok l hl).at [] (by simp [PV, fP, pL, sl, pods_length, sbl, ren_none, ren_var, ren_arr, ren_map, ren_mapb, ren_iter, ren_loop, ren_defr, bel_none, bel_var, bel_arr, bel_map, bel_mapb, bel_iter, bel_loop, bel_defr, AV.renL, AV.ren, AV.belL, AV.bel, rn]) (by simp) (by simp [PV, fP, pL, sl, pods_length]) (by simp [PV, fP, pL, sl, pods_length, AV.ren, AV.renL, rn]) (by simp [AV.belL, AV.bel]) (WK.now ?_)
 simp only [push_cast, simprocAttr, fP, pL]
 refine (srt_ok rankCmp rankOrd (xs := l) hl).atK [0] (by simp [PV, fP, pL, sl, pods_length, sbl, ren_none, ren_var, ren_arr, ren_map, ren_mapb, ren_iter, ren_loop, ren_defr, bel_none, bel_var, bel_arr, bel_map, bel_mapb, bel_iter, bel_loop, bel_defr, AV.renL, AV.ren, AV.belL, AV.bel, rn]) (by simp) (by simp [PV, fP, pL, sl, pods_length]) (by simp [PV, fP, pL, sl, pods_length, AV.ren, AV.renL, rn]) (by simp [AV.belL, AV.bel]) ?_
 rintro r H' ⟨rfl, ys, p, s, rfl⟩
 rw [srtP_unique hn p s]
 refine WK.now ?_
 simp only [push_cast, simprocAttr, fP, pL]
 refine WK.frz 0 rfl (WK.now ?_)
 simp only [push_cast, simprocAttr, fP, pL]
end Go.Proofs.YtmeicgbddgeeoaaGreatDoor
end
section
set_option autoImplicit false
set_option linter.unusedVariables false
set_option linter.unusedSimpArgs false
namespace Go.Proofs.YtmeicgbddgeeoaaGreatDoor
open Go.Abs
def lowV (O : List Pod) (p : Pod) : List Pod := srtP ((keepL (fun q => q.1.ph != 3) O).filter fun q => decide (q.1.pr < p.1.pr))
theorem lowV_sub (O : List Pod) (p : Pod) : ∃ l, (lowV O p).Perm l ∧ l.Sublist O := ⟨_, srtP_perm _, List.filter_sublist.trans List.filter_sublist⟩
theorem lowV_len (O : List Pod) (p : Pod) : (lowV O p).length ≤ O.length := by
 obtain ⟨l, h1, h2⟩ := lowV_sub O p
 rw [h1.length_eq]
 exact h2.length_le
theorem lowV_nd {O : List Pod} (h : (O.map pid).Nodup) (p : Pod) : ((lowV O p).map pid).Nodup := by
 obtain ⟨l, h1, h2⟩ := lowV_sub O p
 exact ((h1.map pid).nodup_iff).2 (h.sublist (h2.map pid))
structure VicOk (c : Cl) (p : Pod) (n : Int) (F : List Int → Bool) (O : List Pod) : Prop where
 ok : ClOk c
 len : c.ids.length ≤ 65536
 on : listed c.L (onP n) c.ids = O
 nd : (O.map pid).Nodup
 fit : ∀ wo : List Int, wo.length ≤ 100000 → ACalls env 27 [.pvar 7 0, .d (fP p), .d (.int .i64 n), .d (.slice 1 (ints wo))] (Cs c) fun r H' => r = .d (.bool (F wo)) ∧ H' = Cs c
theorem VicOk.olen {c : Cl} {p : Pod} {n : Int} {F : List Int → Bool} {O : List Pod} (h : VicOk c p n F O) : O.length ≤ 65536 := by
 rw [← h.on]
 exact Nat.le_trans (listed_len _ _ _) h.len
theorem low1_ok (q : Pod) : PCall env 52 [fP q] (.bool (q.1.ph != 3)) := by
 refine acalls_of envOk Tryz.func52 rfl (by kernel_rfl) (m := 5) rfl ?_
 simp only [push_cast, simprocAttr, fP, pL]
 refine WK.now ?_
 simp only [push_cast, simprocAttr, fP, pL]
set_option maxRecDepth 8000 in
theorem vlow_ok {c : Cl} {p : Pod} {n : Int} {F : List Int → Bool} {O : List Pod} (h : VicOk c p n F O) : ACalls env 16 [.pvar 7 0, .d (fP p), .d (.int .i64 n)] (Cs c) fun r H' => r = .d (.slice 9 (pods (lowV O p))) ∧ H' = Cs c := by
 have ho := h.olen
 have hcon := con_ok c n h.ok.sees
 rw [h.on] at hcon
 have hk : (keepL (fun q => q.1.ph != 3) O).length ≤ 1000000 := Nat.le_trans (List.length_filter_le _ _) (by omega)
 have hr := rlow_ok (keepL (fun q => q.1.ph != 3) O) p.1.pr hk
 have hs := rsort_ok ((keepL (fun q => q.1.ph != 3) O).filter fun q => decide (q.1.pr < p.1.pr)) (Nat.le_trans (List.length_filter_le _ _) hk) (h.nd.sublist ((List.filter_sublist.trans List.filter_sublist).map pid))
 unfold Cs
 refine ACalls.cutTo [0, 1, 2, 3, 4, 5, 6, 7] rfl ?_ (fun l => by simp [PV, Tb, Ps, Psn, Ns, Cs, Csn, fP, pL, fE, errD, errF, pgetD, nodeD, sl, pods_length, sbl, ren_none, ren_var, ren_arr, ren_map, ren_mapb, ren_iter, ren_loop, ren_defr, bel_none, bel_var, bel_arr, bel_map, bel_mapb, bel_iter, bel_loop, bel_defr, AV.renL, AV.ren, AV.belL, AV.bel, rn]) (fun m => by simp [tellL, AV.ren, AV.renL, AV.bel, AV.belL, rn])
 refine acalls_of envOk Tryz.func16 rfl (by kernel_rfl) (m := 14) rfl ?_
 simp only [push_cast, simprocAttr, fP, pL]
 refine hcon.at [0, 1, 2, 3, 4, 5, 6, 7] (by simp [PV, Tb, Ps, Psn, Ns, Cs, Csn, fP, pL, fE, errD, errF, pgetD, nodeD, sl, pods_length, sbl, ren_none, ren_var, ren_arr, ren_map, ren_mapb, ren_iter, ren_loop, ren_defr, bel_none, bel_var, bel_arr, bel_map, bel_mapb, bel_iter, bel_loop, bel_defr, AV.renL, AV.ren, AV.belL, AV.bel, rn]) (by simp) (by simp [PV, Tb, Ps, Psn, Ns, Cs, Csn, fP, pL, fE, errD, errF, pgetD, nodeD, sl, pods_length]) (by simp [PV, Tb, Ps, Psn, Ns, Cs, Csn, fP, pL, fE, errD, errF, pgetD, nodeD, sl, pods_length, AV.ren, AV.renL, rn]) (by simp [AV.belL, AV.bel]) (WK.now ?_)
 simp only [Cs, push_cast, simprocAttr, fP, pL]
 refine (delB_ok O (by unfold Sz; omega) 52 rfl _ low1_ok).at [9] (by simp [PV, Tb, Ps, Psn, Ns, Cs, Csn, fP, pL, fE, errD, errF, pgetD, nodeD, sl, pods_length, sbl, ren_none, ren_var, ren_arr, ren_map, ren_mapb, ren_iter, ren_loop, ren_defr, bel_none, bel_var, bel_arr, bel_map, bel_mapb, bel_iter, bel_loop, bel_defr, AV.renL, AV.ren, AV.belL, AV.bel, rn]) (by simp) (by simp [PV, Tb, Ps, Psn, Ns, Cs, Csn, fP, pL, fE, errD, errF, pgetD, nodeD, sl, pods_length]) (by simp [PV, Tb, Ps, Psn, Ns, Cs, Csn, fP, pL, fE, errD, errF, pgetD, nodeD, sl, pods_length, AV.ren, AV.renL, rn]) (by simp [AV.belL, AV.bel]) (WK.now ?_)
 simp only [push_cast, simprocAttr, fP, pL]
 refine hr.go (by first | exact ⟨.inl rfl, trivial⟩ | exact ⟨.inl rfl, .inl rfl, trivial⟩ | exact ⟨.inl rfl, .inl rfl, .inl rfl, trivial⟩ | simp [argsOk, argOk, sl, sll]) (WK.now ?_)
 simp only [push_cast, simprocAttr, fP, pL]
 refine hs.go (by first | exact ⟨.inl rfl, trivial⟩ | exact ⟨.inl rfl, .inl rfl, trivial⟩ | exact ⟨.inl rfl, .inl rfl, .inl rfl, trivial⟩ | simp [argsOk, argOk, sl, sll]) (WK.now ?_)
 simp only [push_cast, simprocAttr, fP, pL]
 refine WK.now ?_
 simp only [push_cast, simprocAttr, fP, pL]
 exact ⟨rfl, _, rfl⟩
theorem idl_snoc {l : List Pod} {i : Nat} (h : i < l.length) : idl (l.take (i + 1)) = idl (l.take i) ++ [(l.getD i pz).1.id] := by
 unfold idl
 rw [List.take_add_one, List.getElem?_eq_getElem h, Option.toList_some, List.map_append, List.getD_eq_getElem?_getD, List.getElem?_eq_getElem h]
 rfl
theorem idl_length (l : List Pod) : (idl l).length = l.length := by unfold idl; simp
set_option maxRecDepth 8000 in
theorem vids_ok (l : List Pod) (hl : l.length ≤ 1000000) : PCall env 26 [.slice 9 (pods l)] (.slice 1 (ints (idl l))) := by
 refine acalls_of envOk Tryz.func26 rfl (by kernel_rfl) (m := 18) rfl ?_
 simp only [push_cast, simprocAttr, fP, pL]
 refine ALoop.mk (fun k t H ds => ∃ i : Nat, k = l.length - i ∧ i ≤ l.length ∧ t = (.d (.slice 9 (pods l)) :: .x :: .d .nils :: .sfull 0 :: .x :: .x :: .d (.slice 9 (pods l)) :: .d (.int .i64 l.length) :: .d (.int .i64 (i : Nat)) :: xs10) ∧ H = [.arr 3 1 (ints (idl (l.take i)))] ∧ ds = []) l.length
  (WK.nil 3 3 1 rfl (WK.fgt (t' := (.d (.slice 9 (pods l)) :: .x :: .d .nils :: .sfull 0 :: .x :: .x :: .d (.slice 9 (pods l)) :: .d (.int .i64 l.length) :: .d (.int .i64 (0 : Nat)) :: xs10)) (by simp [fgt]) (WK.now ⟨0, by omega, by omega, rfl, by simp [ints, idl], rfl⟩))) ?_
 rintro k t H ds ⟨i, rfl, hi, rfl, rfl, rfl⟩
 simp only [push_cast, simprocAttr, fP, pL]
 refine Kbr.mk (fun c => ?_) (fun c => ?_)
 ·have c2 : i < l.length := by simpa using c
  have si := succ64 c2 (show l.length ≤ 4611686018427387904 by omega)
  have hsn := idl_snoc c2
  have hsl : (idl (l.take i)).length ≤ 1000000 := by
   rw [idl_length]; simp; omega
  simp only [c2, seg_pods, si, push_cast, simprocAttr, fP, pL]
  refine ⟨room_of (by simp [ints_length]; omega) (by omega), ?_⟩
  exact ⟨l.length - (i + 1), by omega, WK.pick [2] (t' := (.d (.slice 9 (pods l)) :: .x :: .d .nils :: .sfull 0 :: .x :: .x :: .d (.slice 9 (pods l)) :: .d (.int .i64 l.length) :: .d (.int .i64 (i + 1 : Nat)) :: xs10)) (H' := [.arr 3 1 (ints (idl (l.take (i + 1))))])
   (by rw [hsn]; simp [ints, sbl, ren_none, ren_var, ren_arr, bel_none, bel_var, bel_arr, AV.renL, AV.ren, AV.belL, AV.bel, rn]) (by simp) (by simp) (by simp [tellL, AV.ren, AV.renL, AV.bel, AV.belL, rn]) (by intro id h; exact absurd h (by simp)) (WK.now ⟨i + 1, rfl, by omega, rfl, rfl, rfl⟩)⟩
 ·have c2 : ¬ i < l.length := by simpa using c
  have e : l.take i = l := List.take_of_length_le (by omega)
  rw [e]
  simp only [push_cast, simprocAttr, fP, pL]
  refine WK.frz 0 rfl (WK.now ?_)
  simp only [push_cast, simprocAttr, fP, pL]
set_option maxRecDepth 8000 in
theorem vposs_ok {c : Cl} {p : Pod} {n : Int} {F : List Int → Bool} {O : List Pod} (h : VicOk c p n F O) : ACalls env 18 [.pvar 7 0, .d (fP p), .d (.int .i64 n)] (Cs c) fun r H' => r = .d (.bool (F (idl (lowV O p)))) ∧ H' = Cs c := by
 have ho := h.olen
 have hlen := lowV_len O p
 have hlow := vlow_ok h
 have hids := vids_ok (lowV O p) (by omega)
 have hfit := h.fit (idl (lowV O p)) (by rw [idl_length]; omega)
 unfold Cs
 refine ACalls.cutTo [0, 1, 2, 3, 4, 5, 6, 7] rfl ?_ (fun l => by simp [PV, Tb, Ps, Psn, Ns, Cs, Csn, fP, pL, fE, errD, errF, pgetD, nodeD, sl, pods_length, sbl, ren_none, ren_var, ren_arr, ren_map, ren_mapb, ren_iter, ren_loop, ren_defr, bel_none, bel_var, bel_arr, bel_map, bel_mapb, bel_iter, bel_loop, bel_defr, AV.renL, AV.ren, AV.belL, AV.bel, rn]) (fun m => by simp [tellL, AV.ren, AV.renL, AV.bel, AV.belL, rn])
 refine acalls_of envOk Tryz.func18 rfl (by kernel_rfl) (m := 13) rfl ?_
 simp only [push_cast, simprocAttr, fP, pL]
 refine DRegL.det [] [0, 1, 2, 3, 4, 5, 6, 7, 8, 9] [] (by kernel_rfl) (by kernel_rfl) (by kernel_rfl) ?_
 simp only [push_cast, simprocAttr, fP, pL]
 refine hlow.hushAt [0, 1, 2, 3, 4, 5, 6, 7] (by simp [PV, Tb, Ps, Psn, Ns, Cs, Csn, fP, pL, fE, errD, errF, pgetD, nodeD, sl, pods_length, sbl, ren_none, ren_var, ren_arr, ren_map, ren_mapb, ren_iter, ren_loop, ren_defr, bel_none, bel_var, bel_arr, bel_map, bel_mapb, bel_iter, bel_loop, bel_defr, AV.renL, AV.ren, AV.belL, AV.bel, rn]) (by simp) (by simp [PV, Tb, Ps, Psn, Ns, Cs, Csn, fP, pL, fE, errD, errF, pgetD, nodeD, sl, pods_length]) (by simp [PV, Tb, Ps, Psn, Ns, Cs, Csn, fP, pL, fE, errD, errF, pgetD, nodeD, sl, pods_length, AV.ren, AV.renL, rn]) (by simp [AV.belL, AV.bel]) (by simp [lift, putAll, PV, Tb, Ps, Psn, Ns, Cs, Csn, fP, pL, fE, errD, errF, pgetD, nodeD, sl, pods_length, sbl, ren_none, ren_var, ren_arr, ren_map, ren_mapb, ren_iter, ren_loop, ren_defr, AV.renL, AV.ren, rn]) ?_
 simp only [push_cast, simprocAttr, fP, pL]
 refine hids.quiet' (by first | exact ⟨.inl rfl, trivial⟩ | exact ⟨.inl rfl, .inl rfl, trivial⟩ | exact ⟨.inl rfl, .inl rfl, .inl rfl, trivial⟩ | simp [argsOk, argOk, sl, sll]) ?_
 simp only [push_cast, simprocAttr, fP, pL]
 refine hfit.hushAt [0, 1, 2, 3, 4, 5, 6, 7] (by simp [PV, Tb, Ps, Psn, Ns, Cs, Csn, fP, pL, fE, errD, errF, pgetD, nodeD, sl, pods_length, sbl, ren_none, ren_var, ren_arr, ren_map, ren_mapb, ren_iter, ren_loop, ren_defr, bel_none, bel_var, bel_arr, bel_map, bel_mapb, bel_iter, bel_loop, bel_defr, AV.renL, AV.ren, AV.belL, AV.bel, rn]) (by simp) (by simp [PV, Tb, Ps, Psn, Ns, Cs, Csn, fP, pL, fE, errD, errF, pgetD, nodeD, sl, pods_length]) (by simp [PV, Tb, Ps, Psn, Ns, Cs, Csn, fP, pL, fE, errD, errF, pgetD, nodeD, sl, pods_length, AV.ren, AV.renL, rn]) (by simp [AV.belL, AV.bel]) (by simp [lift, putAll, PV, Tb, Ps, Psn, Ns, Cs, Csn, fP, pL, fE, errD, errF, pgetD, nodeD, sl, pods_length, sbl, ren_none, ren_var, ren_arr, ren_map, ren_mapb, ren_iter, ren_loop, ren_defr, AV.renL, AV.ren, rn]) ?_
 simp only [push_cast, simprocAttr, fP, pL]
 refine WK.now ?_
 simp only [push_cast, simprocAttr, fP, pL]
 first | done | exact ⟨_, rfl⟩ | exact ⟨rfl, _, rfl⟩
end Go.Proofs.YtmeicgbddgeeoaaGreatDoor
end
section
set_option autoImplicit false
set_option linter.unusedVariables false
set_option linter.unusedSimpArgs false
namespace Go.Proofs.YtmeicgbddgeeoaaGreatDoor
open Go.Abs
theorem of1_ok (v q : Pod) : ACalls env 47 [.d (fP v), .pvar 0 0] [PV q] fun r H' => r = .d (.bool (v.1.id == q.1.id)) ∧ H' = [PV q] := by
 unfold PV
 refine ACalls.cutTo [0] rfl ?_ (fun l => by simp [PV, Tb, Ps, Psn, Ns, Cs, Csn, fP, pL, fE, errD, errF, pgetD, nodeD, sl, pods_length, sbl, ren_none, ren_var, ren_arr, ren_map, ren_mapb, ren_iter, ren_loop, ren_defr, bel_none, bel_var, bel_arr, bel_map, bel_mapb, bel_iter, bel_loop, bel_defr, AV.renL, AV.ren, AV.belL, AV.bel, rn]) (fun m => by simp [tellL, AV.ren, AV.renL, AV.bel, AV.belL, rn])
 refine acalls_of envOk Tryz.func47 rfl (by kernel_rfl) (m := 7) rfl ?_
 simp only [push_cast, simprocAttr, fP, pL]
 refine WK.now ?_
 simp only [push_cast, simprocAttr, fP, pL]
 first | done | exact ⟨_, rfl⟩ | exact ⟨rfl, _, rfl⟩
set_option maxRecDepth 8000 in
theorem idxC_ok (xs : List Pod) (hs : Sz xs) (p : Pod) (g : FuncId) (hx : env.ext g = none) (h : Pod → Bool)
  (hg : ∀ q, ACalls env g [.d (fP q), .pvar 0 0] [PV p] fun r H' => r = .d (.bool (h q)) ∧ H' = [PV p]) :
  ACalls env 46 [.d (.slice 9 (pods xs)), .func g [.pvar 0 0]] [PV p] fun r H' => r = .d (.int .i64 (idxH h xs)) ∧ H' = [PV p] := by
 unfold PV at hg ⊢
 unfold Sz at hs
 refine acalls_of envOk Tryz.func46 rfl (by kernel_rfl) (m := 17) rfl ?_
 simp only [push_cast, simprocAttr, fP, pL]
 refine ALoop.mk (fun k t H ds => ∃ i : Nat, k = xs.length - i ∧ i ≤ xs.length ∧ (∀ j, j < i → h (xs.getD j pz) = false) ∧ t = (.d (.slice 9 (pods xs)) :: .func g [.pvar 0 0] :: .x :: .x :: .d (.int .i64 0) :: .x :: .x :: .d (.int .i64 xs.length) :: .d (.int .i64 (i : Nat)) :: xs10) ∧ H = [PV p] ∧ ds = []) xs.length
  (WK.fgt (t' := (.d (.slice 9 (pods xs)) :: .func g [.pvar 0 0] :: .x :: .x :: .d (.int .i64 0) :: .x :: .x :: .d (.int .i64 xs.length) :: .d (.int .i64 (0 : Nat)) :: xs10)) (by simp [fgt]) (WK.now ⟨0, by omega, by omega, by omega, rfl, rfl, rfl⟩)) ?_
 rintro k t H ds ⟨i, rfl, hi, hp, rfl, rfl, rfl⟩
 simp only [PV, push_cast, simprocAttr, fP, pL]
 refine Kbr.mk (fun c => ?_) (fun c => ?_)
 ·have c2 : i < xs.length := by simpa using c
  simp only [c2, seg_pods, hx, push_cast, simprocAttr, fP, pL]
  refine (hg (xs.getD i pz)).at [0] (by simp [PV, Tb, Ps, Psn, Ns, Cs, Csn, fP, pL, fE, errD, errF, pgetD, nodeD, sl, pods_length, sbl, ren_none, ren_var, ren_arr, ren_map, ren_mapb, ren_iter, ren_loop, ren_defr, bel_none, bel_var, bel_arr, bel_map, bel_mapb, bel_iter, bel_loop, bel_defr, AV.renL, AV.ren, AV.belL, AV.bel, rn]) (by simp) (by simp [PV, Tb, Ps, Psn, Ns, Cs, Csn, fP, pL, fE, errD, errF, pgetD, nodeD, sl, pods_length]) (by simp [PV, Tb, Ps, Psn, Ns, Cs, Csn, fP, pL, fE, errD, errF, pgetD, nodeD, sl, pods_length, AV.ren, AV.renL, rn]) (by simp [AV.belL, AV.bel]) (WK.now ?_)
  simp only [push_cast, simprocAttr, fP, pL]
  refine Kbr.mk (fun c => ?_) (fun c => ?_)
  ·have c3 : h (xs.getD i pz) = true := by simpa using c
   simp only [push_cast, simprocAttr, fP, pL]
   refine WK.now ?_
   simp only [push_cast, simprocAttr, fP, pL]
   simp only [idxH_at c2 hp c3, push_cast, simprocAttr, pods_length, fP, pL]
  ·have c3 : h (xs.getD i pz) = false := by simpa using c
   simp only [succ64 c2 (show xs.length ≤ 4611686018427387904 by omega), push_cast, simprocAttr, pods_length, fP, pL]
   refine ⟨xs.length - (i + 1), by omega, WK.fgt (t' := (.d (.slice 9 (pods xs)) :: .func g [.pvar 0 0] :: .x :: .x :: .d (.int .i64 0) :: .x :: .x :: .d (.int .i64 xs.length) :: .d (.int .i64 (i + 1 : Nat)) :: xs10)) (by simp [fgt]) (WK.now ⟨i + 1, rfl, by omega, fun j hj => ?_, rfl, rfl, rfl⟩)⟩
   rcases Nat.lt_succ_iff_lt_or_eq.1 hj with hj | rfl
   ·exact hp j hj
   ·exact c3
 ·have c2 : ¬ i < xs.length := by simpa using c
  simp only [push_cast, simprocAttr, fP, pL]
  refine WK.now ?_
  simp only [push_cast, simprocAttr, fP, pL]
  simp only [idxH_no (fun j hj => hp j (by omega)), push_cast, simprocAttr, pods_length, fP, pL]
def fitL (F : List Int → Bool) (l : List Pod) : Bool := F (idl l)
def vicV (F : List Int → Bool) (O : List Pod) (p : Pod) : List Pod := vic (fitL F) [] (lowV O p)
theorem vic_step {F : List Int → Bool} {acc L : List Pod} {i : Nat} (h : i < L.length) : vic (fitL F) acc (L.drop i) =
  if fitL F (acc ++ L.drop (i + 1)) = true then vic (fitL F) acc (L.drop (i + 1)) else vic (fitL F) (acc ++ [L.getD i pz]) (L.drop (i + 1)) := by
 rw [List.drop_eq_getElem_cons h, List.getD_eq_getElem?_getD, List.getElem?_eq_getElem h]
 rfl
theorem drop_cons {L : List Pod} {i : Nat} (h : i < L.length) : L.drop i = L.getD i pz :: L.drop (i + 1) := by
 rw [List.drop_eq_getElem_cons h, List.getD_eq_getElem?_getD, List.getElem?_eq_getElem h]
 rfl
theorem idx_acc {acc L : List Pod} {i : Nat} (hn : (L.map pid).Nodup) (hs : acc.Sublist (L.take i)) (h : i < L.length) :
  idxH (fun v => v.1.id == (L.getD i pz).1.id) (acc ++ L.drop i) = acc.length := by
 have hd := drop_cons h
 refine idxH_at (i := acc.length) (by rw [List.length_append, hd]; simp) (fun j hj => ?_) ?_
 ·rw [List.getD_eq_getElem?_getD, List.getElem?_append_left hj, List.getElem?_eq_getElem hj, Option.getD_some]
  refine beq_eq_false_iff_ne.2 fun e => ?_
  have hm : acc[j] ∈ L.take i := hs.subset (List.getElem_mem hj)
  rw [← List.take_append_drop i L, hd, List.map_append, List.map_cons, List.nodup_append] at hn
  exact hn.2.2 (pid acc[j]) (List.mem_map.2 ⟨_, hm, rfl⟩) (pid (L.getD i pz)) List.mem_cons_self e
 ·rw [List.getD_eq_getElem?_getD, List.getElem?_append_right (Nat.le_refl _), Nat.sub_self, hd]
  exact beq_self_eq_true _
theorem erase_acc {acc L : List Pod} {i : Nat} (h : i < L.length) : (acc ++ L.drop i).eraseIdx acc.length = acc ++ L.drop (i + 1) := by
 rw [List.eraseIdx_append_of_length_le (Nat.le_refl _), Nat.sub_self, drop_cons h]
 rfl
def vicD (F : List Int → Bool) (O : List Pod) (p : Pod) : D := if F (idl (lowV O p)) = true then .tup [.slice 9 (pods (vicV F O p)), .bool true] else .tup [.nils, .bool false]
set_option maxRecDepth 8000 in
theorem vof_ok {c : Cl} {p : Pod} {n : Int} {F : List Int → Bool} {O : List Pod} (h : VicOk c p n F O) : ACalls env 14 [.pvar 7 0, .d (fP p), .d (.int .i64 n)] (Cs c) fun r H' => r = .d (vicD F O p) ∧ H' = Cs c := by
 have ho := h.olen
 have hlen := lowV_len O p
 have hlow := vlow_ok h
 have hpos := vposs_ok h
 have hnd := lowV_nd h.nd p
 have hcl := pcloneD_ok (lowV O p) (by omega)
 unfold vicD vicV
 generalize hL : lowV O p = L at *
 unfold Cs
 refine ACalls.cutTo [0, 1, 2, 3, 4, 5, 6, 7] rfl ?_ (fun l => by simp [PV, Tb, Ps, Psn, Ns, Cs, Csn, fP, pL, fE, errD, errF, pgetD, nodeD, sl, pods_length, sbl, ren_none, ren_var, ren_arr, ren_map, ren_mapb, ren_iter, ren_loop, ren_defr, bel_none, bel_var, bel_arr, bel_map, bel_mapb, bel_iter, bel_loop, bel_defr, AV.renL, AV.ren, AV.belL, AV.bel, rn]) (fun m => by simp [tellL, AV.ren, AV.renL, AV.bel, AV.belL, rn])
 refine acalls_of envOk Tryz.func14 rfl (by kernel_rfl) (m := 41) rfl ?_
 simp only [push_cast, simprocAttr, fP, pL]
 refine hpos.at [0, 1, 2, 3, 4, 5, 6, 7] (by simp [PV, Tb, Ps, Psn, Ns, Cs, Csn, fP, pL, fE, errD, errF, pgetD, nodeD, sl, pods_length, sbl, ren_none, ren_var, ren_arr, ren_map, ren_mapb, ren_iter, ren_loop, ren_defr, bel_none, bel_var, bel_arr, bel_map, bel_mapb, bel_iter, bel_loop, bel_defr, AV.renL, AV.ren, AV.belL, AV.bel, rn]) (by simp) (by simp [PV, Tb, Ps, Psn, Ns, Cs, Csn, fP, pL, fE, errD, errF, pgetD, nodeD, sl, pods_length]) (by simp [PV, Tb, Ps, Psn, Ns, Cs, Csn, fP, pL, fE, errD, errF, pgetD, nodeD, sl, pods_length, AV.ren, AV.renL, rn]) (by simp [AV.belL, AV.bel]) (WK.now ?_)
 cases hF : F (idl L) with
 | false =>
  simp only [Cs, push_cast, simprocAttr, fP, pL]
  refine WK.now ?_
  simp only [push_cast, simprocAttr, fP, pL]
  first | done | exact ⟨_, rfl⟩ | exact ⟨rfl, _, rfl⟩
 | true =>
  simp only [Cs, push_cast, simprocAttr, fP, pL]
  refine hlow.at [0, 1, 2, 3, 4, 5, 6, 7] (by simp [PV, Tb, Ps, Psn, Ns, Cs, Csn, fP, pL, fE, errD, errF, pgetD, nodeD, sl, pods_length, sbl, ren_none, ren_var, ren_arr, ren_map, ren_mapb, ren_iter, ren_loop, ren_defr, bel_none, bel_var, bel_arr, bel_map, bel_mapb, bel_iter, bel_loop, bel_defr, AV.renL, AV.ren, AV.belL, AV.bel, rn]) (by simp) (by simp [PV, Tb, Ps, Psn, Ns, Cs, Csn, fP, pL, fE, errD, errF, pgetD, nodeD, sl, pods_length]) (by simp [PV, Tb, Ps, Psn, Ns, Cs, Csn, fP, pL, fE, errD, errF, pgetD, nodeD, sl, pods_length, AV.ren, AV.renL, rn]) (by simp [AV.belL, AV.bel]) (WK.now ?_)
  simp only [Cs, push_cast, simprocAttr, fP, pL]
  refine hcl.go (by first | exact ⟨.inl rfl, trivial⟩ | exact ⟨.inl rfl, .inl rfl, trivial⟩ | exact ⟨.inl rfl, .inl rfl, .inl rfl, trivial⟩ | simp [argsOk, argOk, sl, sll]) (WK.now ?_)
  simp only [push_cast, simprocAttr, fP, pL]
  refine ALoop.mk (fun k t H ds => ∃ (i : Nat) (acc : List Pod), k = L.length - i ∧ i ≤ L.length ∧ acc.Sublist (L.take i) ∧ vic (fitL F) [] L = vic (fitL F) acc (L.drop i) ∧ t = (.pvar 7 0 :: .x :: .d (.int .i64 n) :: .x :: .pvar 8 0 :: .x :: .d .nils :: .d (.bool false) :: .d (.slice 9 (pods (acc ++ L.drop i))) :: .x :: .x :: .x :: .x :: .x :: .x :: .x :: .x :: .x :: .x :: .x :: .x :: .x :: .x :: .d (.slice 9 (pods L)) :: .d (.int .i64 L.length) :: .d (.int .i64 (i : Nat)) :: xs18) ∧ H = Cs c ++ [PV p] ∧ ds = []) L.length
   (WK.fgt (t' := (.pvar 7 0 :: .x :: .d (.int .i64 n) :: .x :: .pvar 8 0 :: .x :: .d .nils :: .d (.bool false) :: .d (.slice 9 (pods (L))) :: .x :: .x :: .x :: .x :: .x :: .x :: .x :: .x :: .x :: .x :: .x :: .x :: .x :: .x :: .d (.slice 9 (pods L)) :: .d (.int .i64 L.length) :: .d (.int .i64 (0 : Nat)) :: xs18)) (by simp [fgt]) (WK.now ⟨0, [], by omega, by omega, List.nil_sublist _, rfl, rfl, rfl, rfl⟩)) ?_
  rintro k t H ds ⟨i, acc, rfl, hi, hsub, hv, rfl, rfl, rfl⟩
  simp only [Cs, PV, List.cons_append, List.nil_append, push_cast, simprocAttr, pods_length, fP, pL]
  refine Kbr.mk (fun cc => ?_) (fun cc => ?_)
  ·have c2 : i < L.length := by simpa using cc
   have si := succ64 c2 (show L.length ≤ 4611686018427387904 by omega)
   have hal : acc.length ≤ i := by
    have := hsub.length_le
    simp at this; omega
   have hol : (acc ++ L.drop i).length ≤ 100000 := by simp; omega
   have hix := idxC_ok (acc ++ L.drop i) (by unfold Sz; omega) (L.getD i pz) 47 rfl (fun v => v.1.id == (L.getD i pz).1.id) (fun v => of1_ok v _)
   rw [idx_acc hnd hsub c2] at hix
   have hwo := pwo_ok (acc ++ L.drop i) acc.length (by simp; omega) hol
   rw [erase_acc c2] at hwo
   have hrl : (acc ++ L.drop (i + 1)).length ≤ 100000 := by simp; omega
   have hids := vids_ok (acc ++ L.drop (i + 1)) (by omega)
   have hfit := h.fit (idl (acc ++ L.drop (i + 1))) (by rw [idl_length]; omega)
   have hst := vic_step (F := F) (acc := acc) c2
   have htk : L.take (i + 1) = L.take i ++ [L.getD i pz] := by
    rw [List.take_add_one, List.getElem?_eq_getElem c2, List.getD_eq_getElem?_getD, List.getElem?_eq_getElem c2]; rfl
   simp only [c2, seg_pods, push_cast, simprocAttr, fP, pL]
   refine hix.at [9] (by simp [PV, Tb, Ps, Psn, Ns, Cs, Csn, fP, pL, fE, errD, errF, pgetD, nodeD, sl, pods_length, sbl, ren_none, ren_var, ren_arr, ren_map, ren_mapb, ren_iter, ren_loop, ren_defr, bel_none, bel_var, bel_arr, bel_map, bel_mapb, bel_iter, bel_loop, bel_defr, AV.renL, AV.ren, AV.belL, AV.bel, rn]) (by simp) (by simp [PV, Tb, Ps, Psn, Ns, Cs, Csn, fP, pL, fE, errD, errF, pgetD, nodeD, sl, pods_length]) (by simp [PV, Tb, Ps, Psn, Ns, Cs, Csn, fP, pL, fE, errD, errF, pgetD, nodeD, sl, pods_length, AV.ren, AV.renL, rn]) (by simp [AV.belL, AV.bel]) (WK.now ?_)
   simp only [PV, push_cast, simprocAttr, fP, pL]
   refine hwo.go (by first | exact ⟨.inl rfl, trivial⟩ | exact ⟨.inl rfl, .inl rfl, trivial⟩ | exact ⟨.inl rfl, .inl rfl, .inl rfl, trivial⟩ | simp [argsOk, argOk, sl, sll]) (WK.now ?_)
   simp only [push_cast, simprocAttr, fP, pL]
   refine DRegL.det [] [0, 1, 2, 3, 4, 5] [] (by kernel_rfl) (by kernel_rfl) (by kernel_rfl) ?_
   simp only [push_cast, simprocAttr, fP, pL]
   refine hids.quiet' (by first | exact ⟨.inl rfl, trivial⟩ | exact ⟨.inl rfl, .inl rfl, trivial⟩ | exact ⟨.inl rfl, .inl rfl, .inl rfl, trivial⟩ | simp [argsOk, argOk, sl, sll]) ?_
   simp only [push_cast, simprocAttr, fP, pL]
   refine hfit.hushAt [0, 1, 2, 3, 4, 5, 6, 7] (by simp [PV, Tb, Ps, Psn, Ns, Cs, Csn, fP, pL, fE, errD, errF, pgetD, nodeD, sl, pods_length, sbl, ren_none, ren_var, ren_arr, ren_map, ren_mapb, ren_iter, ren_loop, ren_defr, bel_none, bel_var, bel_arr, bel_map, bel_mapb, bel_iter, bel_loop, bel_defr, AV.renL, AV.ren, AV.belL, AV.bel, rn]) (by simp) (by simp [PV, Tb, Ps, Psn, Ns, Cs, Csn, fP, pL, fE, errD, errF, pgetD, nodeD, sl, pods_length]) (by simp [PV, Tb, Ps, Psn, Ns, Cs, Csn, fP, pL, fE, errD, errF, pgetD, nodeD, sl, pods_length, AV.ren, AV.renL, rn]) (by simp [AV.belL, AV.bel]) (by simp [lift, putAll, PV, Tb, Ps, Psn, Ns, Cs, Csn, fP, pL, fE, errD, errF, pgetD, nodeD, sl, pods_length, sbl, ren_none, ren_var, ren_arr, ren_map, ren_mapb, ren_iter, ren_loop, ren_defr, AV.renL, AV.ren, rn]) ?_
   simp only [push_cast, simprocAttr, fP, pL]
   cases hf : F (idl (acc ++ L.drop (i + 1))) with
   | true =>
    rw [if_pos (show fitL F _ = true from hf)] at hst
    simp only [si, push_cast, simprocAttr, fP, pL]
    exact ⟨L.length - (i + 1), by omega, WK.pick [0, 1, 2, 3, 4, 5, 6, 7, 8] (t' := (.pvar 7 0 :: .x :: .d (.int .i64 n) :: .x :: .pvar 8 0 :: .x :: .d .nils :: .d (.bool false) :: .d (.slice 9 (pods (acc ++ L.drop (i + 1)))) :: .x :: .x :: .x :: .x :: .x :: .x :: .x :: .x :: .x :: .x :: .x :: .x :: .x :: .x :: .d (.slice 9 (pods L)) :: .d (.int .i64 L.length) :: .d (.int .i64 (i + 1 : Nat)) :: xs18)) (H' := Cs c ++ [PV p])
     (by simp [Cs, PV, pL, sbl, ren_none, ren_var, ren_arr, ren_map, bel_none, bel_var, bel_arr, bel_map, AV.renL, AV.ren, AV.belL, AV.bel, rn]) (by simp) (by simp [Cs]) (by simp [tellL, AV.ren, AV.renL, AV.bel, AV.belL, rn]) (by intro id h; rcases id with _ | _ | _ | _ | _ | _ | _ | _ | _ | id <;> first | rfl | exact absurd h (by simp))
     (WK.now ⟨i + 1, acc, rfl, by omega, by rw [htk]; exact hsub.trans (List.sublist_append_left _ _), by rw [hv, hst], rfl, rfl, rfl⟩)⟩
   | false =>
    rw [if_neg (show ¬ fitL F _ = true by unfold fitL; rw [hf]; simp)] at hst
    have hdc := drop_cons c2
    simp only [si, push_cast, simprocAttr, fP, pL]
    exact ⟨L.length - (i + 1), by omega, WK.pick [0, 1, 2, 3, 4, 5, 6, 7, 8] (t' := (.pvar 7 0 :: .x :: .d (.int .i64 n) :: .x :: .pvar 8 0 :: .x :: .d .nils :: .d (.bool false) :: .d (.slice 9 (pods (acc ++ L.drop i))) :: .x :: .x :: .x :: .x :: .x :: .x :: .x :: .x :: .x :: .x :: .x :: .x :: .x :: .x :: .d (.slice 9 (pods L)) :: .d (.int .i64 L.length) :: .d (.int .i64 (i + 1 : Nat)) :: xs18)) (H' := Cs c ++ [PV p])
     (by simp [Cs, PV, pL, sbl, ren_none, ren_var, ren_arr, ren_map, bel_none, bel_var, bel_arr, bel_map, AV.renL, AV.ren, AV.belL, AV.bel, rn]) (by simp) (by simp [Cs]) (by simp [tellL, AV.ren, AV.renL, AV.bel, AV.belL, rn]) (by intro id h; rcases id with _ | _ | _ | _ | _ | _ | _ | _ | _ | id <;> first | rfl | exact absurd h (by simp))
     (WK.now ⟨i + 1, acc ++ [L.getD i pz], rfl, by omega, by rw [htk]; exact hsub.append (List.Sublist.refl _), by rw [hv, hst], by rw [List.append_assoc, hdc]; rfl, rfl, rfl⟩)⟩
  ·have c2 : ¬ i < L.length := by simpa using cc
   have e : L.drop i = [] := List.drop_eq_nil_of_le (by omega)
   rw [e] at hv
   have hv : vic (fitL F) [] L = acc := by rw [hv]; rfl
   simp only [e, List.append_nil, push_cast, simprocAttr, pods_length, fP, pL]
   refine WK.now ?_
   simp only [hv, push_cast, simprocAttr, fP, pL]
   first | done | exact ⟨_, rfl⟩ | exact ⟨rfl, _, rfl⟩
def minB (F : List Int → Bool) (ids : List Int) : Bool := F ids && (List.range ids.length).all fun i => !F (ids.eraseIdx i)
theorem minB_go {F : List Int → Bool} {ids : List Int} (h1 : F ids = true) (h2 : ∀ j, j < ids.length → F (ids.eraseIdx j) = false) : minB F ids = true := by
 unfold minB
 rw [h1, Bool.true_and, List.all_eq_true]
 intro j hj
 rw [h2 j (List.mem_range.1 hj)]
 rfl
theorem minB_no {F : List Int → Bool} {ids : List Int} (h : F ids = false) : minB F ids = false := by unfold minB; rw [h]; rfl
theorem minB_out {F : List Int → Bool} {ids : List Int} {j : Nat} (hj : j < ids.length) (h : F (ids.eraseIdx j) = true) : minB F ids = false := by
 unfold minB
 rw [Bool.and_eq_false_iff]
 refine .inr (List.all_eq_false.2 ⟨j, List.mem_range.2 hj, ?_⟩)
 rw [h]
 simp
set_option maxRecDepth 8000 in
theorem vmin_ok {c : Cl} {p : Pod} {n : Int} {F : List Int → Bool} {O : List Pod} (h : VicOk c p n F O) (l : List Pod) (hl : l.length ≤ 100000) :
  ACalls env 23 [.pvar 7 0, .d (fP p), .d (.int .i64 n), .d (.slice 9 (pods l))] (Cs c) fun r H' => r = .d (.bool (minB F (idl l))) ∧ H' = Cs c := by
 have hids := vids_ok l (by omega)
 have hll := idl_length l
 have hfit := h.fit (idl l) (by omega)
 unfold Cs
 refine ACalls.cutTo [0, 1, 2, 3, 4, 5, 6, 7] rfl ?_ (fun l => by simp [PV, Tb, Ps, Psn, Ns, Cs, Csn, fP, pL, fE, errD, errF, pgetD, nodeD, sl, pods_length, sbl, ren_none, ren_var, ren_arr, ren_map, ren_mapb, ren_iter, ren_loop, ren_defr, bel_none, bel_var, bel_arr, bel_map, bel_mapb, bel_iter, bel_loop, bel_defr, AV.renL, AV.ren, AV.belL, AV.bel, rn]) (fun m => by simp [tellL, AV.ren, AV.renL, AV.bel, AV.belL, rn])
 refine acalls_of envOk Tryz.func23 rfl (by kernel_rfl) (m := 33) rfl ?_
 simp only [push_cast, simprocAttr, fP, pL]
 refine hids.go (by first | exact ⟨.inl rfl, trivial⟩ | exact ⟨.inl rfl, .inl rfl, trivial⟩ | exact ⟨.inl rfl, .inl rfl, .inl rfl, trivial⟩ | simp [argsOk, argOk, sl, sll]) (WK.now ?_)
 simp only [push_cast, simprocAttr, fP, pL]
 refine hfit.at [0, 1, 2, 3, 4, 5, 6, 7] (by simp [PV, Tb, Ps, Psn, Ns, Cs, Csn, fP, pL, fE, errD, errF, pgetD, nodeD, sl, pods_length, sbl, ren_none, ren_var, ren_arr, ren_map, ren_mapb, ren_iter, ren_loop, ren_defr, bel_none, bel_var, bel_arr, bel_map, bel_mapb, bel_iter, bel_loop, bel_defr, AV.renL, AV.ren, AV.belL, AV.bel, rn]) (by simp) (by simp [PV, Tb, Ps, Psn, Ns, Cs, Csn, fP, pL, fE, errD, errF, pgetD, nodeD, sl, pods_length]) (by simp [PV, Tb, Ps, Psn, Ns, Cs, Csn, fP, pL, fE, errD, errF, pgetD, nodeD, sl, pods_length, AV.ren, AV.renL, rn]) (by simp [AV.belL, AV.bel]) (WK.now ?_)
 cases hF : F (idl l) with
 | false =>
  simp only [Cs, push_cast, simprocAttr, fP, pL]
  refine WK.now ?_
  simp only [minB_no hF, push_cast, simprocAttr, pods_length, fP, pL]
  first | done | exact ⟨_, rfl⟩ | exact ⟨rfl, _, rfl⟩
 | true =>
  simp only [Cs, hll, push_cast, simprocAttr, fP, pL]
  refine ALoop.mk (fun k t H ds => ∃ i : Nat, k = l.length - i ∧ i ≤ l.length ∧ (∀ j, j < i → F ((idl l).eraseIdx j) = false) ∧ t = (.pvar 7 0 :: .x :: .d (.int .i64 n) :: .d (.slice 9 (pods l)) :: .x :: .pvar 8 0 :: .x :: .x :: .d (.bool false) :: .d (.slice 1 (ints (idl l))) :: .x :: .x :: .x :: .x :: .x :: .x :: .x :: .x :: .x :: .x :: .d (.int .i64 l.length) :: .d (.int .i64 (i : Nat)) :: xs15) ∧ H = Cs c ++ [PV p] ∧ ds = []) l.length
   (WK.fgt (t' := (.pvar 7 0 :: .x :: .d (.int .i64 n) :: .d (.slice 9 (pods l)) :: .x :: .pvar 8 0 :: .x :: .x :: .d (.bool false) :: .d (.slice 1 (ints (idl l))) :: .x :: .x :: .x :: .x :: .x :: .x :: .x :: .x :: .x :: .x :: .d (.int .i64 l.length) :: .d (.int .i64 (0 : Nat)) :: xs15)) (by simp [fgt]) (WK.now ⟨0, by omega, by omega, by omega, rfl, rfl, rfl⟩)) ?_
  rintro k t H ds ⟨i, rfl, hi, hp, rfl, rfl, rfl⟩
  simp only [Cs, PV, List.cons_append, List.nil_append, push_cast, simprocAttr, pods_length, fP, pL]
  refine Kbr.mk (fun cc => ?_) (fun cc => ?_)
  ·have c2 : i < l.length := by simpa using cc
   have si := succ64 c2 (show l.length ≤ 4611686018427387904 by omega)
   have hwo := iwo_ok (idl l) i (by omega) (by omega)
   have hfi := h.fit ((idl l).eraseIdx i) (by rw [List.length_eraseIdx]; split <;> omega)
   simp only [push_cast, simprocAttr, fP, pL]
   refine DRegL.det [] [0, 1, 2, 3, 4, 5, 6] [] (by kernel_rfl) (by kernel_rfl) (by kernel_rfl) ?_
   simp only [push_cast, simprocAttr, fP, pL]
   refine hwo.quiet' (by first | exact ⟨.inl rfl, trivial⟩ | exact ⟨.inl rfl, .inl rfl, trivial⟩ | exact ⟨.inl rfl, .inl rfl, .inl rfl, trivial⟩ | simp [argsOk, argOk, sl, sll]) ?_
   simp only [push_cast, simprocAttr, fP, pL]
   refine hfi.hushAt [0, 1, 2, 3, 4, 5, 6, 7] (by simp [PV, Tb, Ps, Psn, Ns, Cs, Csn, fP, pL, fE, errD, errF, pgetD, nodeD, sl, pods_length, sbl, ren_none, ren_var, ren_arr, ren_map, ren_mapb, ren_iter, ren_loop, ren_defr, bel_none, bel_var, bel_arr, bel_map, bel_mapb, bel_iter, bel_loop, bel_defr, AV.renL, AV.ren, AV.belL, AV.bel, rn]) (by simp) (by simp [PV, Tb, Ps, Psn, Ns, Cs, Csn, fP, pL, fE, errD, errF, pgetD, nodeD, sl, pods_length]) (by simp [PV, Tb, Ps, Psn, Ns, Cs, Csn, fP, pL, fE, errD, errF, pgetD, nodeD, sl, pods_length, AV.ren, AV.renL, rn]) (by simp [AV.belL, AV.bel]) (by simp [lift, putAll, PV, Tb, Ps, Psn, Ns, Cs, Csn, fP, pL, fE, errD, errF, pgetD, nodeD, sl, pods_length, sbl, ren_none, ren_var, ren_arr, ren_map, ren_mapb, ren_iter, ren_loop, ren_defr, AV.renL, AV.ren, rn]) ?_
   simp only [push_cast, simprocAttr, fP, pL]
   cases hf : F ((idl l).eraseIdx i) with
   | true =>
    simp only [push_cast, simprocAttr, fP, pL]
    have e0 : ((0 : Int) == (l.length : Int)) = false := beq_eq_false_iff_ne.2 (by omega)
    simp only [e0, minB_out (by omega) hf, push_cast, simprocAttr, pods_length, fP, pL]
    refine WK.now ?_
    simp only [push_cast, simprocAttr, fP, pL]
    first | done | exact ⟨_, rfl⟩ | exact ⟨rfl, _, rfl⟩
   | false =>
    simp only [si, push_cast, simprocAttr, fP, pL]
    exact ⟨l.length - (i + 1), by omega, WK.fgt (t' := (.pvar 7 0 :: .x :: .d (.int .i64 n) :: .d (.slice 9 (pods l)) :: .x :: .pvar 8 0 :: .x :: .x :: .d (.bool false) :: .d (.slice 1 (ints (idl l))) :: .x :: .x :: .x :: .x :: .x :: .x :: .x :: .x :: .x :: .x :: .d (.int .i64 l.length) :: .d (.int .i64 (i + 1 : Nat)) :: xs15)) (by simp [fgt]) (WK.now ⟨i + 1, rfl, by omega, fun j hj => (by
     rcases Nat.lt_succ_iff_lt_or_eq.1 hj with hj | rfl
     ·exact hp j hj
     ·exact hf), rfl, rfl, rfl⟩)⟩
  ·have c2 : ¬ i < l.length := by simpa using cc
   have e0 : ((l.length : Int) == (l.length : Int)) = true := beq_self_eq_true _
   simp only [hll, e0, minB_go hF (fun j hj => hp j (by omega)), push_cast, simprocAttr, pods_length, fP, pL]
   refine WK.now ?_
   simp only [push_cast, simprocAttr, fP, pL]
   first | done | exact ⟨_, rfl⟩ | exact ⟨rfl, _, rfl⟩
end Go.Proofs.YtmeicgbddgeeoaaGreatDoor
end
