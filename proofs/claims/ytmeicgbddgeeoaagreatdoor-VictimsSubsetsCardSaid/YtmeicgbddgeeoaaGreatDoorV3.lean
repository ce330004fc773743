/-
  Equal rows; the examples of the chapter on victims.
  The examples of the chapter on victims: the walk.
  A built cluster, a pod and a node: what the chapter on victims asks of them; that fitting is kept without more pods.
-/
import Derived.Test.YtmeicgbddgeeoaaGreatDoorV2
import Derived.Test.YtmeicgbddgeeoaaGreatDoorD1
import Derived.Test.YtmeicgbddgeeoaaGreatDoorB3
section
set_option autoImplicit false
set_option linter.unusedVariables false
set_option linter.unusedSimpArgs false
namespace Go.Proofs.YtmeicgbddgeeoaaGreatDoor
open Go.Abs
theorem take_ext {x y : List Int} (hl : x.length = y.length) (h : ∀ j, j < x.length → x.getD j 0 = y.getD j 0) : x = y := by
 refine List.ext_getElem hl fun i h1 h2 => ?_
 have := h i h1
 rwa [List.getD_eq_getElem?_getD, List.getD_eq_getElem?_getD, List.getElem?_eq_getElem h1, List.getElem?_eq_getElem h2] at this
theorem eqi_ok (x y : List Int) (hx : x.length ≤ 1000000) (hy : y.length ≤ 1000000) : PCall env 25 [.slice 1 (ints x), .slice 1 (ints y)] (.bool (decide (x = y))) := by
 refine acalls_of envOk Tryz.func25 rfl (by kernel_rfl) (m := 24) rfl ?_
 by_cases hl : x.length = y.length
 ·have e0 : ((x.length : Int) != (y.length : Int)) = false := by rw [hl]; exact bne_self_eq_false _
  simp only [e0, push_cast, simprocAttr, fP, pL]
  refine ALoop.mk (fun k t H ds => ∃ i : Nat, k = x.length - i ∧ i ≤ x.length ∧ (∀ j, j < i → x.getD j 0 = y.getD j 0) ∧ t = (.d (.slice 1 (ints x)) :: .d (.slice 1 (ints y)) :: .x :: .x :: .d (.bool false) :: .x :: .x :: .x :: .x :: .x :: .x :: .x :: .d (.int .i64 x.length) :: .d (.int .i64 (i : Nat)) :: xs12) ∧ H = [] ∧ ds = []) x.length
   (WK.fgt (t' := (.d (.slice 1 (ints x)) :: .d (.slice 1 (ints y)) :: .x :: .x :: .d (.bool false) :: .x :: .x :: .x :: .x :: .x :: .x :: .x :: .d (.int .i64 x.length) :: .d (.int .i64 (0 : Nat)) :: xs12)) (by simp [fgt]) (WK.now ⟨0, by omega, by omega, by omega, rfl, rfl, rfl⟩)) ?_
  rintro k t H ds ⟨i, rfl, hi, hp, rfl, rfl, rfl⟩
  simp only [push_cast, simprocAttr, fP, pL]
  refine Kbr.mk (fun c => ?_) (fun c => ?_)
  ·have c2 : i < x.length := by simpa using c
   have c3 : i < y.length := by omega
   have si := succ64 c2 (show x.length ≤ 4611686018427387904 by omega)
   simp only [push_cast, simprocAttr, fP, pL]
   refine DRegL.det [] [0, 1, 2, 3, 4, 5, 6, 7, 8] [] (by kernel_rfl) (by kernel_rfl) (by kernel_rfl) ?_
   simp only [c2, c3, cel_ints, push_cast, simprocAttr, fP, pL]
   by_cases he : x.getD i 0 = y.getD i 0
   ·have e1 : (x.getD i 0 != y.getD i 0) = false := by rw [he]; exact bne_self_eq_false _
    simp only [e1, si, push_cast, simprocAttr, fP, pL]
    exact ⟨x.length - (i + 1), by omega, WK.fgt (t' := (.d (.slice 1 (ints x)) :: .d (.slice 1 (ints y)) :: .x :: .x :: .d (.bool false) :: .x :: .x :: .x :: .x :: .x :: .x :: .x :: .d (.int .i64 x.length) :: .d (.int .i64 (i + 1 : Nat)) :: xs12)) (by simp [fgt]) (WK.now ⟨i + 1, rfl, by omega, fun j hj => (by
     rcases Nat.lt_succ_iff_lt_or_eq.1 hj with hj | rfl
     ·exact hp j hj
     ·exact he), rfl, rfl, rfl⟩)⟩
   ·have e1 : (x.getD i 0 != y.getD i 0) = true := bne_iff_ne.2 he
    simp only [e1, push_cast, simprocAttr, fP, pL]
    refine WK.now ?_
    simp only [decide_eq_false (fun e : x = y => he (by rw [e])), push_cast, simprocAttr, pods_length, fP, pL]
  ·have c2 : ¬ i < x.length := by simpa using c
   simp only [push_cast, simprocAttr, fP, pL]
   refine WK.now ?_
   simp only [decide_eq_true (take_ext hl fun j hj => hp j (by omega)), push_cast, simprocAttr, pods_length, fP, pL]
 ·have e0 : ((x.length : Int) != (y.length : Int)) = true := bne_iff_ne.2 (by omega)
  simp only [e0, push_cast, simprocAttr, fP, pL]
  refine WK.now ?_
  simp only [decide_eq_false (fun e : x = y => hl (by rw [e])), push_cast, simprocAttr, pods_length, fP, pL]
/-! The cluster that is not there -/
theorem idx_mt : PCall env 46 [.slice 9 (pods []), .func 52 []] (.int .i64 (-1)) := by
 refine acalls_of envOk Tryz.func46 rfl (by kernel_rfl) (m := 17) rfl ?_
 simp only [pnilD, push_cast, simprocAttr, fP, pL]
 refine ALoop.mk (fun k t H ds => t = (.d (.slice 9 (pods [])) :: .d (.func 52 []) :: .x :: .x :: .x :: .x :: .x :: .d (.int .i64 0) :: .d (.int .i64 0) :: xs10) ∧ H = [] ∧ ds = []) 0 (WK.fgt (t' := (.d (.slice 9 (pods [])) :: .d (.func 52 []) :: .x :: .x :: .x :: .x :: .x :: .d (.int .i64 0) :: .d (.int .i64 0) :: xs10)) (by simp [fgt, pnilD]) (WK.now ⟨rfl, rfl, rfl⟩)) ?_
 rintro k t H ds ⟨rfl, rfl, rfl⟩
 simp only [pnilD, push_cast, simprocAttr, fP, pL]
 refine WK.now ?_
 simp only [push_cast, simprocAttr, fP, pL]
theorem del_mt : PCall env 50 [.slice 9 (pods []), .func 52 []] (.slice 9 (pods [])) := by
 refine acalls_of envOk Tryz.func50 rfl (by kernel_rfl) (m := 40) rfl ?_
 simp only [push_cast, simprocAttr, fP, pL]
 refine idx_mt.go (by simp [argsOk, argOk, sl, sll]) (WK.now ?_)
 simp only [show ((-1 : Int) == -1) = true from rfl, push_cast, simprocAttr, pods_length, fP, pL]
 refine WK.now ?_
 simp only [push_cast, simprocAttr, fP, pL]
theorem srtP_nil : srtP [] = [] := List.length_eq_zero_iff.1 (by rw [(srtP_perm []).length_eq]; rfl)
theorem vlow_nil (p : Pod) (n : Int) : PCall env 16 [.nilp, fP p, .int .i64 n] (.slice 9 (pods [])) := by
 have hr := rlow_ok [] p.1.pr (by simp)
 have hs := rsort_ok [] (by simp) (by simp)
 rw [srtP_nil] at hs
 rw [List.filter_nil] at hr
 refine acalls_of envOk Tryz.func16 rfl (by kernel_rfl) (m := 14) rfl ?_
 simp only [push_cast, simprocAttr, fP, pL]
 refine (con_nil n).go (by first | exact ⟨.inl rfl, trivial⟩ | exact ⟨.inl rfl, .inl rfl, trivial⟩ | exact ⟨.inl rfl, .inl rfl, .inl rfl, trivial⟩ | simp [argsOk, argOk, sl, sll]) (WK.nild 10 9 rfl (WK.now ?_))
 simp only [push_cast, simprocAttr, fP, pL]
 refine del_mt.go (by simp [argsOk, argOk, sl, sll, pnilD]) (WK.now ?_)
 simp only [push_cast, simprocAttr, fP, pL]
 refine hr.go (by first | exact ⟨.inl rfl, trivial⟩ | exact ⟨.inl rfl, .inl rfl, trivial⟩ | exact ⟨.inl rfl, .inl rfl, .inl rfl, trivial⟩ | simp [argsOk, argOk, sl, sll]) (WK.now ?_)
 simp only [push_cast, simprocAttr, fP, pL]
 refine hs.go (by first | exact ⟨.inl rfl, trivial⟩ | exact ⟨.inl rfl, .inl rfl, trivial⟩ | exact ⟨.inl rfl, .inl rfl, .inl rfl, trivial⟩ | simp [argsOk, argOk, sl, sll]) (WK.now ?_)
 simp only [push_cast, simprocAttr, fP, pL]
 refine WK.now ?_
 simp only [push_cast, simprocAttr, fP, pL]
theorem total_nilw (p : Pod) (n : Int) (wo : List Int) : PCall env 65 [.nilp, fP p, .int .i64 n, .slice 1 (ints wo)] (.tup [.nils, .nils, .bool false]) := by
 refine acalls_of envOk Tryz.func65 rfl (by kernel_rfl) (m := 40) rfl ?_
 simp only [push_cast, simprocAttr, fP, pL]
 refine (cnode_nil n).go (by first | exact ⟨.inl rfl, trivial⟩ | exact ⟨.inl rfl, .inl rfl, trivial⟩ | exact ⟨.inl rfl, .inl rfl, .inl rfl, trivial⟩ | simp [argsOk, argOk, sl, sll]) (WK.now ?_)
 simp only [nodeD, push_cast, simprocAttr, fP, pL]
 refine DRegL.det [] [0, 1, 2, 3, 4, 5, 6, 7, 8, 9] [] (by kernel_rfl) (by kernel_rfl) (by kernel_rfl) ?_
 simp only [push_cast, simprocAttr, fP, pL]
 refine WK.now ?_
 simp only [push_cast, simprocAttr, fP, pL]
theorem fits_nilw (p : Pod) (n : Int) (wo : List Int) : PCall env 27 [.nilp, fP p, .int .i64 n, .slice 1 (ints wo)] (.bool false) := by
 refine acalls_of envOk Tryz.func27 rfl (by kernel_rfl) (m := 23) rfl ?_
 simp only [push_cast, simprocAttr, fP, pL]
 refine (total_nilw p n wo).go (by simp [argsOk, argOk, sl, sll, fP, pL]) (WK.now ?_)
 simp only [push_cast, simprocAttr, fP, pL]
 refine WK.now ?_
 simp only [push_cast, simprocAttr, fP, pL]
theorem vposs_nil (p : Pod) (n : Int) : PCall env 18 [.nilp, fP p, .int .i64 n] (.bool false) := by
 have hlow := vlow_nil p n
 have hids := vids_ok [] (by simp)
 have hfit := fits_nilw p n (idl [])
 refine acalls_of envOk Tryz.func18 rfl (by kernel_rfl) (m := 13) rfl ?_
 simp only [push_cast, simprocAttr, fP, pL]
 refine DRegL.det [] [0, 1, 2, 3, 4, 5, 6, 7, 8, 9] [] (by kernel_rfl) (by kernel_rfl) (by kernel_rfl) ?_
 simp only [push_cast, simprocAttr, fP, pL]
 refine hlow.quiet' (by simp [argsOk, argOk, sl, sll, fP, pL]) ?_
 simp only [push_cast, simprocAttr, fP, pL]
 refine hids.quiet' (by first | exact ⟨.inl rfl, trivial⟩ | exact ⟨.inl rfl, .inl rfl, trivial⟩ | exact ⟨.inl rfl, .inl rfl, .inl rfl, trivial⟩ | simp [argsOk, argOk, sl, sll]) ?_
 simp only [push_cast, simprocAttr, fP, pL]
 refine hfit.quiet' (by simp [argsOk, argOk, sl, sll, fP, pL]) ?_
 simp only [push_cast, simprocAttr, fP, pL]
 refine WK.now ?_
 simp only [push_cast, simprocAttr, fP, pL]
/-! The cluster of the examples -/
def v1 : Pod := (⟨1, 1, false, 0, 0, 3, 7, -1⟩, [3])
def v2 : Pod := (⟨2, 1, false, 0, 1, 3, 7, -1⟩, [4])
def v3 : Pod := (⟨3, 1, false, 0, 2, 3, 7, -1⟩, [3])
def vp : Pod := (⟨9, 5, false, 0, 0, 0, 0, 0⟩, [4])
def vA : Nat → Cl
 | 0 => ⟨1, [], [], [(7, 7, [10], [0])]⟩
 | 1 => ⟨1, [(1, v1)], [1], [(7, 7, [10], [3])]⟩
 | 2 => ⟨1, [(1, v1), (2, v2)], [1, 2], [(7, 7, [10], [7])]⟩
 | _ => ⟨1, [(1, v1), (2, v2), (3, v3)], [1, 2, 3], [(7, 7, [10], [10])]⟩
def vq : Nat → Pod
 | 0 => (⟨1, 1, false, 0, 0, 0, 0, 0⟩, [3])
 | 1 => (⟨2, 1, false, 0, 0, 0, 0, 0⟩, [4])
 | _ => (⟨3, 1, false, 0, 0, 0, 0, 0⟩, [3])
theorem v_add : clAdd ⟨max 1 0, [], [], []⟩ 7 [10] = vA 0 := by
 unfold clAdd naddL addL vA
 have : wrongS [10] (max 1 0) = -1 := by decide
 simp only [this]
 rfl
theorem v_addE : naddE (max 1 0) 1024 [] 7 [10] = none := by
 unfold naddE
 have : wrongS [10] (max 1 0) = -1 := by decide
 rw [this]
 rfl
def vS (i : Nat) : Cl := { vA i with L := (vA i).L ++ [((vq i).1.id, submitP (vq i) (vA i).ids.length)], ids := (vA i).ids ++ [(vq i).1.id] }
theorem v_sub (i : Nat) (hi : i < 3) : clSubmit (vA i) (vq i) = (vS i, none) := by
 have h3 : i = 0 ∨ i = 1 ∨ i = 2 := by omega
 rcases h3 with rfl | rfl | rfl <;> (unfold clSubmit; rw [if_neg (by decide)]; rfl)
theorem lget_in {α : Type} {P : α → Prop} {L : List (Int × α)} (h : ∀ x ∈ L, P x.2) {k : Int} {v : α} (hl : lget L k = some v) : P v := by
 unfold lget at hl
 obtain ⟨x, hx, rfl⟩ := Option.map_eq_some_iff.1 hl
 exact h x (List.mem_of_find?_eq_some hx)
theorem v_clok {d : Int} {L : List (Int × Pod)} {ids : List Int} {u : Int} (hd : d ≤ 1000000) (hL : L.length ≤ 100) (hi : ids.length ≤ 100) (hin : ∀ k ∈ ids, (lget L k).isSome = true)
  (hp : ∀ x ∈ L, x.2.2.length ≤ 100 ∧ ∀ n ∈ x.2.2, 0 ≤ n ∧ n ≤ 100) (hu : 0 ≤ u ∧ u ≤ 100) : ClOk ⟨d, L, ids, [(7, 7, [10], [u])]⟩ := by
 refine ⟨fun k p h => ?_, by unfold Sz; exact Nat.le_trans hi (by omega), hin, fun k e h => ?_, Nat.le_trans hL (by omega), (show (1 : Nat) ≤ 4611686018427387904 by decide), hd, fun k p h => ?_⟩
 ·have := (lget_in (P := fun p => p.2.length ≤ 100 ∧ ∀ n ∈ p.2, 0 ≤ n ∧ n ≤ 100) hp h).1
  unfold Sz; omega
 ·obtain rfl := lget_one h
  refine ⟨inR_of (by simp [I64]), inR_of (fun x hx => ?_), by unfold Sz; simp, by unfold Sz; simp⟩
  simp only [List.mem_singleton] at hx
  subst hx
  unfold I64; omega
 ·have := (lget_in (P := fun p => p.2.length ≤ 100 ∧ ∀ n ∈ p.2, 0 ≤ n ∧ n ≤ 100) hp h).2
  exact inR_of fun x hx => by have := this x hx; unfold I64; omega
theorem v_ok (i : Nat) (hi : i ≤ 3) : ClOk (vA i) := by
 have h3 : i = 0 ∨ i = 1 ∨ i = 2 ∨ i = 3 := by omega
 rcases h3 with rfl | rfl | rfl | rfl <;> exact v_clok (by decide) (by decide) (by decide) (by decide) (by decide) (by decide)
theorem v_okS (i : Nat) (hi : i < 3) : ClOk (vS i) := by
 have h3 : i = 0 ∨ i = 1 ∨ i = 2 := by omega
 rcases h3 with rfl | rfl | rfl <;> exact v_clok (by decide) (by decide) (by decide) (by decide) (by decide) (by decide)
theorem v_held {u r : Int} (h : 0 ≤ u ∧ 0 ≤ r ∧ u + r ≤ 10) : heldS [r] (7, [10], [u]) = some [u + r] := heldS_yes rfl rfl fun k hk => by
 obtain rfl : k = 0 := by simpa using hk
 show _ ≤ u + r ∧ u + r ≤ (10 : Int) ∧ (10 : Int) ≤ _
 omega
theorem v_chgE {u r : Int} (h : 0 ≤ u ∧ 0 ≤ r ∧ u + r ≤ 10) (hw : wrongS [r] 1 = -1) : chgE [(7, 7, [10], [u])] 1 7 [r] (heldS [r]) = none := by
 unfold chgE
 rw [show lget [((7 : Int), ((7 : Int), [(10 : Int)], [u]))] 7 = some (7, [10], [u]) from rfl, hw]
 show (match heldS [r] (7, [10], [u]) with | none => _ | some _ => none) = none
 rw [v_held h]
theorem v_chgL {u r : Int} (h : 0 ≤ u ∧ 0 ≤ r ∧ u + r ≤ 10) (hw : wrongS [r] 1 = -1) : chgL [(7, 7, [10], [u])] 1 7 [r] (heldS [r]) = [(7, 7, [10], [u + r])] := by
 unfold chgL
 rw [show lget [((7 : Int), ((7 : Int), [(10 : Int)], [u]))] 7 = some (7, [10], [u]) from rfl, hw]
 show (match heldS [r] (7, [10], [u]) with | none => _ | some u' => lput [((7 : Int), ((7 : Int), [(10 : Int)], [u]))] 7 (7, [10], u')) = _
 rw [v_held h]
 rfl
theorem v_bind (i : Nat) (hi : i < 3) : (clPlace (vS i) (vq i).1.id 7 1).1 = vA (i + 1) := by
 have h3 : i = 0 ∨ i = 1 ∨ i = 2 := by omega
 rcases h3 with rfl | rfl | rfl
 ·unfold clPlace
  rw [show lget (vS 0).L (vq 0).1.id = some (submitP (vq 0) 0) from rfl, show lget (vS 0).N 7 = some (7, [10], [0]) from rfl]
  dsimp only
  rw [show nextP (submitP (vq 0) 0).1.ph 1 = some 3 from rfl]
  dsimp only
  rw [if_pos rfl]
  have e1 : chgE (vS 0).N (vS 0).d 7 (submitP (vq 0) 0).2 (heldS (submitP (vq 0) 0).2) = none := v_chgE (u := 0) (r := 3) (by decide) (by decide)
  have e2 : chgL (vS 0).N (vS 0).d 7 (submitP (vq 0) 0).2 (heldS (submitP (vq 0) 0).2) = _ := v_chgL (u := 0) (r := 3) (by decide) (by decide)
  rw [e1, e2]
  rfl
 ·unfold clPlace
  rw [show lget (vS 1).L (vq 1).1.id = some (submitP (vq 1) 1) from rfl, show lget (vS 1).N 7 = some (7, [10], [3]) from rfl]
  dsimp only
  rw [show nextP (submitP (vq 1) 1).1.ph 1 = some 3 from rfl]
  dsimp only
  rw [if_pos rfl]
  have e1 : chgE (vS 1).N (vS 1).d 7 (submitP (vq 1) 1).2 (heldS (submitP (vq 1) 1).2) = none := v_chgE (u := 3) (r := 4) (by decide) (by decide)
  have e2 : chgL (vS 1).N (vS 1).d 7 (submitP (vq 1) 1).2 (heldS (submitP (vq 1) 1).2) = _ := v_chgL (u := 3) (r := 4) (by decide) (by decide)
  rw [e1, e2]
  rfl
 ·unfold clPlace
  rw [show lget (vS 2).L (vq 2).1.id = some (submitP (vq 2) 2) from rfl, show lget (vS 2).N 7 = some (7, [10], [7]) from rfl]
  dsimp only
  rw [show nextP (submitP (vq 2) 2).1.ph 1 = some 3 from rfl]
  dsimp only
  rw [if_pos rfl]
  have e1 : chgE (vS 2).N (vS 2).d 7 (submitP (vq 2) 2).2 (heldS (submitP (vq 2) 2).2) = none := v_chgE (u := 7) (r := 3) (by decide) (by decide)
  have e2 : chgL (vS 2).N (vS 2).d 7 (submitP (vq 2) 2).2 (heldS (submitP (vq 2) 2).2) = _ := v_chgL (u := 7) (r := 3) (by decide) (by decide)
  rw [e1, e2]
  rfl
theorem v_seen (n : Int) : seenL (vA 3) vp n = [] := by
 unfold seenL keepL
 rw [List.filter_eq_nil_iff]
 intro q hq
 unfold listed at hq
 obtain ⟨k, hk, rfl⟩ := List.mem_map.1 (List.mem_filter.1 hq).1
 have hk3 : k = 1 ∨ k = 2 ∨ k = 3 := by simpa [vA] using hk
 have : ¬ SeesP vp ((lget (vA 3).L k).getD pz) n := fun h => by rcases hk3 with rfl | rfl | rfl <;> exact absurd h.1 (by decide)
 simp [B_false this]
theorem addS_v1 {l : List (List Int)} (h0 : l ≠ []) (hl : ∀ v ∈ l, v.length = 1) (hr : I64 (colV l 0)) : addS l = some [colV l 0] := by
 rw [addS_rows (d := 1) h0 hl fun k hk => by obtain rfl : k = 0 := by omega
                                             exact hr]
 rfl
def vL (wo : List Int) : Int := (if 1 ∈ wo then 0 else 3) + (if 2 ∈ wo then 0 else 4) + (if 3 ∈ wo then 0 else 3)
theorem v_listed : listed (vA 3).L (onP 7) (vA 3).ids = [v1, v2, v3] := rfl
theorem v_listed8 : listed (vA 3).L (onP 8) (vA 3).ids = [] := rfl
theorem v_load (wo : List Int) : addS (loadR (vA 3) 7 wo [0]) = some [vL wo] := by
 have e : loadR (vA 3) 7 wo [0] = [0] :: [0] :: reqs ([v1, v2, v3].filter (takes wo)) := by
  unfold loadR heldL
  rw [v_listed]
  rfl
 have t1 : takes wo v1 = !decide (1 ∈ wo) := rfl
 have t2 : takes wo v2 = !decide (2 ∈ wo) := rfl
 have t3 : takes wo v3 = !decide (3 ∈ wo) := rfl
 rw [e]
 unfold vL
 by_cases h1 : (1 : Int) ∈ wo <;> by_cases h2 : (2 : Int) ∈ wo <;> by_cases h3 : (3 : Int) ∈ wo <;>
  simp only [List.filter_cons, List.filter_nil, t1, t2, t3, h1, h2, h3, decide_true, decide_false, Bool.not_true, Bool.not_false, Bool.false_eq_true, if_true, if_false] <;>
  (rw [addS_v1 (by simp) (by decide) (by simp [I64, colV, reqs, v1, v2, v3])]; rfl)
theorem vL_bd (wo : List Int) : 0 ≤ vL wo ∧ vL wo ≤ 10 := by
 unfold vL
 split <;> split <;> split <;> omega
theorem v_ld (wo : List Int) (hwo : wo.length ≤ 4611686018427387904) : LdOk (vA 3) vp 7 wo [vL wo] := by
 have hb := vL_bd wo
 refine ⟨v_ok 3 (by omega), by decide, hwo, ⟨[0], ?_, by unfold Sz; decide, inR_of (by simp [I64]), v_load wo⟩, by unfold Sz; simp, inR_of (fun x hx => ?_), fun hn q hq => by cases hn⟩
 ·rw [v_seen]
  rw [addS_v1 (by simp [reqs]) (by decide) (by unfold I64; decide)]
  rfl
 ·simp only [List.mem_singleton] at hx
  subst hx
  unfold I64; omega
def vF (wo : List Int) : Bool := decide (vL wo + 4 ≤ 10)
theorem v_tot (wo : List Int) : fitB (totS (vA 3) vp 7 [vL wo]) = vF wo := by
 have hb := vL_bd wo
 have e : totS (vA 3) vp 7 [vL wo] = some (some [vL wo + 4], [10]) := by
  unfold totS
  rw [show lget (vA 3).N 7 = some (7, [10], [10]) from rfl, show wrongS vp.2 (vA 3).d = -1 by decide]
  show some (addS [[vL wo], [4]], [10]) = _
  rw [addS_v1 (by simp) (by simp) (by simp [I64, colV]; omega)]
  simp [colV]
 rw [e]
 show B (FitsP [vL wo + 4] [10]) = _
 unfold vF
 by_cases h : vL wo + 4 ≤ 10
 ·rw [decide_eq_true h]
  exact B_true ⟨rfl, fun k hk => by
   obtain rfl : k = 0 := by simpa using hk
   exact h⟩
 ·rw [decide_eq_false h]
  exact B_false fun hh => h (hh.2 0 (by simp))
theorem v_vic : VicOk (vA 3) vp 7 vF [v1, v2, v3] := ⟨v_ok 3 (by omega), by decide, v_listed, by decide, fun wo hw => by
 have := fits_ok' (v_ld wo (by omega)) (by unfold Sz; decide)
 rwa [v_tot] at this⟩
theorem v_ld8 (wo : List Int) (hwo : wo.length ≤ 4611686018427387904) : LdOk (vA 3) vp 8 wo [0] := by
 refine ⟨v_ok 3 (by omega), by decide, hwo, ⟨[0], ?_, by unfold Sz; decide, inR_of (by simp [I64]), ?_⟩, by unfold Sz; decide, inR_of (by simp [I64]), fun hn q hq => ?_⟩
 ·rw [v_seen]
  rw [addS_v1 (by simp [reqs]) (by decide) (by unfold I64; decide)]
  rfl
 ·have e : loadR (vA 3) 8 wo [0] = [[0]] := by
   unfold loadR
   rw [show (lget (vA 3).N 8).isSome = false from rfl]
   rfl
  rw [e, addS_v1 (by simp) (by decide) (by simp [I64, colV])]
  rfl
 ·rw [v_listed8] at hq
  cases hq
theorem v_vic8 : VicOk (vA 3) vp 8 (fun _ => false) [] := ⟨v_ok 3 (by omega), by decide, v_listed8, by decide, fun wo hw => fits_ok' (v_ld8 wo (by omega)) (by unfold Sz; decide)⟩
theorem v_low : lowV [v1, v2, v3] vp = [v1, v2, v3] := by
 have e : (keepL (fun q => q.1.ph != 3) [v1, v2, v3]).filter (fun q => decide (q.1.pr < vp.1.pr)) = [v1, v2, v3] := rfl
 unfold lowV
 rw [e]
 exact (srtP_unique (by decide) (.refl _) (by unfold Srt; decide)).symm
theorem v_V : vicV vF [v1, v2, v3] vp = [v2] := by
 unfold vicV
 rw [v_low]
 rfl
theorem v_D : vicD vF [v1, v2, v3] vp = .tup [.slice 9 (pods [v2]), .bool true] := by
 unfold vicD
 rw [v_V, v_low]
 rfl
theorem v_D8 : vicD (fun _ => false) [] vp = .tup [.nils, .bool false] := rfl
end Go.Proofs.YtmeicgbddgeeoaaGreatDoor
end
section
set_option autoImplicit false
set_option linter.unusedVariables false
set_option linter.unusedSimpArgs false
namespace Go.Proofs.YtmeicgbddgeeoaaGreatDoor
open Go.Abs
theorem v_ids2 : idl [v2] = [2] := rfl
theorem v_ids3 : idl [v1, v2, v3] = [1, 2, 3] := rfl
theorem v_min2 : minB vF [2] = true := rfl
theorem v_min3 : minB vF [1, 2, 3] = false := rfl
theorem v_F3 : vF [1, 2, 3] = true := rfl
theorem w0 : IntKind.wrap .i64 0 = 0 := rfl
theorem w1 : IntKind.wrap .i64 1 = 1 := rfl
theorem w2 : IntKind.wrap .i64 2 = 2 := rfl
theorem w3 : IntKind.wrap .i64 3 = 3 := rfl
theorem w4 : IntKind.wrap .i64 4 = 4 := rfl
set_option maxRecDepth 8000 in
set_option maxHeartbeats 1000000 in
theorem awake18_ok : PCall env 12 [] (.bool true) := by
 refine acalls_of envOk Tryz.func12 rfl (by kernel_rfl) (m := 92) rfl ?_
 simp only [push_cast, simprocAttr, fP, pL]
 refine (cnew_ok 1).at [] (by simp [PV, Tb, Ps, Psn, Ns, Cs, Csn, fP, pL, fRc, fE, errD, errF, pgetD, nodeD, sl, pods_length, sbl, ren_none, ren_var, ren_arr, ren_map, ren_mapb, ren_iter, ren_loop, ren_defr, bel_none, bel_var, bel_arr, bel_map, bel_mapb, bel_iter, bel_loop, bel_defr, AV.renL, AV.ren, AV.belL, AV.bel, rn]) (by simp) (by simp [PV, Tb, Ps, Psn, Ns, Cs, Csn, fP, pL, fRc, fE, errD, errF, pgetD, nodeD, sl, pods_length]) (by simp [PV, Tb, Ps, Psn, Ns, Cs, Csn, fP, pL, fRc, fE, errD, errF, pgetD, nodeD, sl, pods_length, AV.ren, AV.renL, rn]) (by simp [AV.belL, AV.bel]) (WK.now ?_)
 simp only [Cs, ints_one, push_cast, simprocAttr, fP, pL]
 refine ACalls.lowA ?_
 simp only [AV.lowA, push_cast, simprocAttr, pods_length, fP, pL]
 refine (cadd_ok ⟨max 1 0, [], [], []⟩ 7 [10] (by decide) (by decide) (by decide)).at [0, 1, 2, 3, 4, 5, 6, 7] (by simp [PV, Tb, Ps, Psn, Ns, Cs, Csn, fP, pL, fRc, fE, errD, errF, pgetD, nodeD, sl, pods_length, sbl, ren_none, ren_var, ren_arr, ren_map, ren_mapb, ren_iter, ren_loop, ren_defr, bel_none, bel_var, bel_arr, bel_map, bel_mapb, bel_iter, bel_loop, bel_defr, AV.renL, AV.ren, AV.belL, AV.bel, rn]) (by simp) (by simp [PV, Tb, Ps, Psn, Ns, Cs, Csn, fP, pL, fRc, fE, errD, errF, pgetD, nodeD, sl, pods_length]) (by simp [PV, Tb, Ps, Psn, Ns, Cs, Csn, fP, pL, fRc, fE, errD, errF, pgetD, nodeD, sl, pods_length, AV.ren, AV.renL, rn]) (by simp [AV.belL, AV.bel]) (WK.now ?_)
 rw [v_add]
 simp only [v_addE, errF, Cs, ints_one, push_cast, simprocAttr, fP, pL]
 refine ALoop.mk (fun k t H ds => ∃ i : Nat, k = 3 - i ∧ i ≤ 3 ∧ t = (.d (.bool false) :: .pvar 7 0 :: .d (.int .i64 ((i + 1 : Nat) : Int)) :: xs89) ∧ H = Cs (vA i) ∧ ds = []) 3
  (WK.fgt (t' := (.d (.bool false) :: .pvar 7 0 :: .d (.int .i64 ((0 + 1 : Nat) : Int)) :: xs89)) (by simp [fgt]) (WK.now ⟨0, by omega, by omega, rfl, rfl, rfl⟩)) ?_
 rintro k t H ds ⟨i, rfl, hi, rfl, rfl, rfl⟩
 simp only [Cs, push_cast, simprocAttr, fP, pL]
 have h4 : i = 0 ∨ i = 1 ∨ i = 2 ∨ i = 3 := by omega
 rcases h4 with rfl | rfl | rfl | rfl
 ·have hsub := csubmit_new (vA 0) (vq 0) (v_ok 0 (by omega)) (by unfold Sz; decide) (by rw [v_sub 0 (by omega)])
  rw [v_sub 0 (by omega)] at hsub
  have hbind := cbind_ok (vS 0) (vq 0).1.id 7 (v_okS 0 (by omega))
  rw [v_bind 0 (by omega)] at hbind
  simp only [w0, w1, w2, cel3_0, push_cast, simprocAttr, fP, pL]
  refine ACalls.lowA ?_
  simp only [AV.lowA, push_cast, simprocAttr, pods_length, fP, pL]
  refine hsub.at [0, 1, 2, 3, 4, 5, 6, 7] (by simp [PV, Tb, Ps, Psn, Ns, Cs, Csn, fP, pL, sbl, ren_none, ren_var, ren_arr, ren_map, ren_mapb, ren_iter, ren_loop, ren_defr, bel_none, bel_var, bel_arr, bel_map, bel_mapb, bel_iter, bel_loop, bel_defr, AV.renL, AV.ren, AV.belL, AV.bel, rn]) (by simp) (by simp [PV, Tb, Ps, Psn, Ns, Cs, Csn, fP, pL]) (by simp [PV, Tb, Ps, Psn, Ns, Cs, Csn, fP, pL, vq, ints, AV.ren, AV.renL, rn]) (by simp [AV.belL, AV.bel]) (WK.now ?_)
  simp only [Csn, push_cast, simprocAttr, fP, pL]
  refine hbind.at [0, 1, 2, 8, 4, 5, 6, 7] (by simp [PV, Tb, Ps, Psn, Ns, Cs, Csn, fP, pL, sbl, ren_none, ren_var, ren_arr, ren_map, ren_mapb, ren_iter, ren_loop, ren_defr, bel_none, bel_var, bel_arr, bel_map, bel_mapb, bel_iter, bel_loop, bel_defr, AV.renL, AV.ren, AV.belL, AV.bel, rn]) (by simp) (by simp [PV, Tb, Ps, Psn, Ns, Cs, Csn, fP, pL]) (by simp [PV, Tb, Ps, Psn, Ns, Cs, Csn, fP, pL, vq, ints, AV.ren, AV.renL, rn]) (by simp [AV.belL, AV.bel]) (WK.now ?_)
  simp only [Cs, w2, push_cast, simprocAttr, fP, pL]
  exact ⟨2, by omega, WK.fgt (t' := (.d (.bool false) :: .pvar 7 0 :: .d (.int .i64 ((1 + 1 : Nat) : Int)) :: xs89)) (by simp [fgt]) (WK.pick [0, 1, 2, 8, 4, 5, 6, 7] (t' := (.d (.bool false) :: .pvar 7 0 :: .d (.int .i64 ((1 + 1 : Nat) : Int)) :: xs89)) (H' := Cs (vA 1)) (by simp [Cs, sbl, ren_none, ren_var, ren_arr, ren_map, ren_mapb, ren_iter, ren_loop, ren_defr, bel_none, bel_var, bel_arr, bel_map, bel_mapb, bel_iter, bel_loop, bel_defr, AV.renL, AV.ren, AV.belL, AV.bel, rn]) (by simp) (by simp) (by simp [tellL, AV.ren, AV.renL, AV.bel, AV.belL, rn]) (by simp) (WK.now ⟨1, by omega, by omega, rfl, rfl, rfl⟩))⟩
 ·have hsub := csubmit_new (vA 1) (vq 1) (v_ok 1 (by omega)) (by unfold Sz; decide) (by rw [v_sub 1 (by omega)])
  rw [v_sub 1 (by omega)] at hsub
  have hbind := cbind_ok (vS 1) (vq 1).1.id 7 (v_okS 1 (by omega))
  rw [v_bind 1 (by omega)] at hbind
  simp only [w0, w1, w2, cel3_1, push_cast, simprocAttr, fP, pL]
  refine ACalls.lowA ?_
  simp only [AV.lowA, push_cast, simprocAttr, pods_length, fP, pL]
  refine hsub.at [0, 1, 2, 3, 4, 5, 6, 7] (by simp [PV, Tb, Ps, Psn, Ns, Cs, Csn, fP, pL, sbl, ren_none, ren_var, ren_arr, ren_map, ren_mapb, ren_iter, ren_loop, ren_defr, bel_none, bel_var, bel_arr, bel_map, bel_mapb, bel_iter, bel_loop, bel_defr, AV.renL, AV.ren, AV.belL, AV.bel, rn]) (by simp) (by simp [PV, Tb, Ps, Psn, Ns, Cs, Csn, fP, pL]) (by simp [PV, Tb, Ps, Psn, Ns, Cs, Csn, fP, pL, vq, ints, AV.ren, AV.renL, rn]) (by simp [AV.belL, AV.bel]) (WK.now ?_)
  simp only [Csn, push_cast, simprocAttr, fP, pL]
  refine hbind.at [0, 1, 2, 8, 4, 5, 6, 7] (by simp [PV, Tb, Ps, Psn, Ns, Cs, Csn, fP, pL, sbl, ren_none, ren_var, ren_arr, ren_map, ren_mapb, ren_iter, ren_loop, ren_defr, bel_none, bel_var, bel_arr, bel_map, bel_mapb, bel_iter, bel_loop, bel_defr, AV.renL, AV.ren, AV.belL, AV.bel, rn]) (by simp) (by simp [PV, Tb, Ps, Psn, Ns, Cs, Csn, fP, pL]) (by simp [PV, Tb, Ps, Psn, Ns, Cs, Csn, fP, pL, vq, ints, AV.ren, AV.renL, rn]) (by simp [AV.belL, AV.bel]) (WK.now ?_)
  simp only [Cs, w3, push_cast, simprocAttr, fP, pL]
  exact ⟨1, by omega, WK.fgt (t' := (.d (.bool false) :: .pvar 7 0 :: .d (.int .i64 ((2 + 1 : Nat) : Int)) :: xs89)) (by simp [fgt]) (WK.pick [0, 1, 2, 8, 4, 5, 6, 7] (t' := (.d (.bool false) :: .pvar 7 0 :: .d (.int .i64 ((2 + 1 : Nat) : Int)) :: xs89)) (H' := Cs (vA 2)) (by simp [Cs, sbl, ren_none, ren_var, ren_arr, ren_map, ren_mapb, ren_iter, ren_loop, ren_defr, bel_none, bel_var, bel_arr, bel_map, bel_mapb, bel_iter, bel_loop, bel_defr, AV.renL, AV.ren, AV.belL, AV.bel, rn]) (by simp) (by simp) (by simp [tellL, AV.ren, AV.renL, AV.bel, AV.belL, rn]) (by simp) (WK.now ⟨2, by omega, by omega, rfl, rfl, rfl⟩))⟩
 ·have hsub := csubmit_new (vA 2) (vq 2) (v_ok 2 (by omega)) (by unfold Sz; decide) (by rw [v_sub 2 (by omega)])
  rw [v_sub 2 (by omega)] at hsub
  have hbind := cbind_ok (vS 2) (vq 2).1.id 7 (v_okS 2 (by omega))
  rw [v_bind 2 (by omega)] at hbind
  simp only [w0, w1, w2, cel3_2, push_cast, simprocAttr, fP, pL]
  refine ACalls.lowA ?_
  simp only [AV.lowA, push_cast, simprocAttr, pods_length, fP, pL]
  refine hsub.at [0, 1, 2, 3, 4, 5, 6, 7] (by simp [PV, Tb, Ps, Psn, Ns, Cs, Csn, fP, pL, sbl, ren_none, ren_var, ren_arr, ren_map, ren_mapb, ren_iter, ren_loop, ren_defr, bel_none, bel_var, bel_arr, bel_map, bel_mapb, bel_iter, bel_loop, bel_defr, AV.renL, AV.ren, AV.belL, AV.bel, rn]) (by simp) (by simp [PV, Tb, Ps, Psn, Ns, Cs, Csn, fP, pL]) (by simp [PV, Tb, Ps, Psn, Ns, Cs, Csn, fP, pL, vq, ints, AV.ren, AV.renL, rn]) (by simp [AV.belL, AV.bel]) (WK.now ?_)
  simp only [Csn, push_cast, simprocAttr, fP, pL]
  refine hbind.at [0, 1, 2, 8, 4, 5, 6, 7] (by simp [PV, Tb, Ps, Psn, Ns, Cs, Csn, fP, pL, sbl, ren_none, ren_var, ren_arr, ren_map, ren_mapb, ren_iter, ren_loop, ren_defr, bel_none, bel_var, bel_arr, bel_map, bel_mapb, bel_iter, bel_loop, bel_defr, AV.renL, AV.ren, AV.belL, AV.bel, rn]) (by simp) (by simp [PV, Tb, Ps, Psn, Ns, Cs, Csn, fP, pL]) (by simp [PV, Tb, Ps, Psn, Ns, Cs, Csn, fP, pL, vq, ints, AV.ren, AV.renL, rn]) (by simp [AV.belL, AV.bel]) (WK.now ?_)
  simp only [Cs, w4, push_cast, simprocAttr, fP, pL]
  exact ⟨0, by omega, WK.fgt (t' := (.d (.bool false) :: .pvar 7 0 :: .d (.int .i64 ((3 + 1 : Nat) : Int)) :: xs89)) (by simp [fgt]) (WK.pick [0, 1, 2, 8, 4, 5, 6, 7] (t' := (.d (.bool false) :: .pvar 7 0 :: .d (.int .i64 ((3 + 1 : Nat) : Int)) :: xs89)) (H' := Cs (vA 3)) (by simp [Cs, sbl, ren_none, ren_var, ren_arr, ren_map, ren_mapb, ren_iter, ren_loop, ren_defr, bel_none, bel_var, bel_arr, bel_map, bel_mapb, bel_iter, bel_loop, bel_defr, AV.renL, AV.ren, AV.belL, AV.bel, rn]) (by simp) (by simp) (by simp [tellL, AV.ren, AV.renL, AV.bel, AV.belL, rn]) (by simp) (WK.now ⟨3, by omega, by omega, rfl, rfl, rfl⟩))⟩
 ·have hlow := vlow_ok v_vic
  have hpos := vposs_ok v_vic
  have hid2 := vids_ok [v2] (by simp)
  have heq := eqi_ok [2] [2] (by simp) (by simp)
  have hm2 := vmin_ok v_vic [v2] (by simp)
  have hm3 := vmin_ok v_vic [v1, v2, v3] (by simp)
  have hnil := vposs_nil vp 7
  rw [v_low] at hlow hpos
  rw [v_ids2] at hid2 hm2
  rw [v_ids3, v_min3] at hm3
  rw [v_min2] at hm2
  rw [v_ids3, v_F3] at hpos
  simp only [decide_true] at heq
  simp only [push_cast, simprocAttr, fP, pL]
  refine ACalls.lowA ?_
  simp only [AV.lowA, push_cast, simprocAttr, pods_length, fP, pL]
  refine (vof_ok v_vic).at [0, 1, 2, 3, 4, 5, 6, 7] (by simp [PV, Tb, Ps, Psn, Ns, Cs, Csn, fP, pL, sbl, ren_none, ren_var, ren_arr, ren_map, ren_mapb, ren_iter, ren_loop, ren_defr, bel_none, bel_var, bel_arr, bel_map, bel_mapb, bel_iter, bel_loop, bel_defr, AV.renL, AV.ren, AV.belL, AV.bel, rn]) (by simp) (by simp [PV, Tb, Ps, Psn, Ns, Cs, Csn, fP, pL]) (by simp [PV, Tb, Ps, Psn, Ns, Cs, Csn, fP, pL, vp, ints, AV.ren, AV.renL, rn]) (by simp [AV.belL, AV.bel]) (WK.svaldat 8 4 rfl rfl (WK.now ?_))
  simp only [Cs, v_D, push_cast, simprocAttr, fP, pL]
  refine (vof_ok v_vic8).at [0, 1, 2, 3, 4, 5, 6, 7] (by simp [PV, Tb, Ps, Psn, Ns, Cs, Csn, fP, pL, sbl, ren_none, ren_var, ren_arr, ren_map, ren_mapb, ren_iter, ren_loop, ren_defr, bel_none, bel_var, bel_arr, bel_map, bel_mapb, bel_iter, bel_loop, bel_defr, AV.renL, AV.ren, AV.belL, AV.bel, rn]) (by simp) (by simp [PV, Tb, Ps, Psn, Ns, Cs, Csn, fP, pL]) (by simp [PV, Tb, Ps, Psn, Ns, Cs, Csn, fP, pL, vp, ints, AV.ren, AV.renL, rn]) (by simp [AV.belL, AV.bel]) (WK.now ?_)
  simp only [Cs, v_D8, push_cast, simprocAttr, fP, pL]
  refine DRegL.det [] [0, 1, 2, 3, 4, 5, 6, 7, 8, 9, 10, 11, 12, 13, 14, 15, 16, 17, 18, 19, 20, 21, 22, 23, 24, 25, 26, 27, 28, 29, 30, 31, 32, 33, 34, 35, 36, 37, 38, 39, 40, 41, 42, 43] [] (by kernel_rfl) (by kernel_rfl) (by kernel_rfl) ?_
  simp only [push_cast, simprocAttr, fP, pL]
  refine hlow.hushAt [0, 1, 2, 3, 4, 5, 6, 7] (by simp [PV, Tb, Ps, Psn, Ns, Cs, Csn, fP, pL, sbl, ren_none, ren_var, ren_arr, ren_map, ren_mapb, ren_iter, ren_loop, ren_defr, bel_none, bel_var, bel_arr, bel_map, bel_mapb, bel_iter, bel_loop, bel_defr, AV.renL, AV.ren, AV.belL, AV.bel, rn]) (by simp) (by simp [PV, Tb, Ps, Psn, Ns, Cs, Csn, fP, pL]) (by simp [PV, Tb, Ps, Psn, Ns, Cs, Csn, fP, pL, vp, ints, AV.ren, AV.renL, rn]) (by simp [AV.belL, AV.bel]) (by simp [lift, putAll, PV, Tb, Ps, Psn, Ns, Cs, Csn, fP, pL, sbl, ren_none, ren_var, ren_arr, ren_map, ren_mapb, ren_iter, ren_loop, ren_defr, AV.renL, AV.ren, rn]) ?_
  simp only [Cs, push_cast, simprocAttr, fP, pL]
  refine hpos.hushAt [0, 1, 2, 3, 4, 5, 6, 7] (by simp [PV, Tb, Ps, Psn, Ns, Cs, Csn, fP, pL, sbl, ren_none, ren_var, ren_arr, ren_map, ren_mapb, ren_iter, ren_loop, ren_defr, bel_none, bel_var, bel_arr, bel_map, bel_mapb, bel_iter, bel_loop, bel_defr, AV.renL, AV.ren, AV.belL, AV.bel, rn]) (by simp) (by simp [PV, Tb, Ps, Psn, Ns, Cs, Csn, fP, pL]) (by simp [PV, Tb, Ps, Psn, Ns, Cs, Csn, fP, pL, vp, ints, AV.ren, AV.renL, rn]) (by simp [AV.belL, AV.bel]) (by simp [lift, putAll, PV, Tb, Ps, Psn, Ns, Cs, Csn, fP, pL, sbl, ren_none, ren_var, ren_arr, ren_map, ren_mapb, ren_iter, ren_loop, ren_defr, AV.renL, AV.ren, rn]) ?_
  simp only [v_F3, Cs, push_cast, simprocAttr, fP, pL]
  refine hid2.quiet' (by simp [argsOk, argOk, sl, sll, vp, fP, pL, ints]) ?_
  simp only [push_cast, simprocAttr, fP, pL]
  refine heq.quiet' (by simp [argsOk, argOk, sl, sll, vp, fP, pL, ints]) ?_
  simp only [push_cast, simprocAttr, fP, pL]
  refine hm2.hushAt [0, 1, 2, 3, 4, 5, 6, 7] (by simp [PV, Tb, Ps, Psn, Ns, Cs, Csn, fP, pL, sbl, ren_none, ren_var, ren_arr, ren_map, ren_mapb, ren_iter, ren_loop, ren_defr, bel_none, bel_var, bel_arr, bel_map, bel_mapb, bel_iter, bel_loop, bel_defr, AV.renL, AV.ren, AV.belL, AV.bel, rn]) (by simp) (by simp [PV, Tb, Ps, Psn, Ns, Cs, Csn, fP, pL]) (by simp [PV, Tb, Ps, Psn, Ns, Cs, Csn, fP, pL, vp, ints, AV.ren, AV.renL, rn]) (by simp [AV.belL, AV.bel]) (by simp [lift, putAll, PV, Tb, Ps, Psn, Ns, Cs, Csn, fP, pL, sbl, ren_none, ren_var, ren_arr, ren_map, ren_mapb, ren_iter, ren_loop, ren_defr, AV.renL, AV.ren, rn]) ?_
  simp only [Cs, push_cast, simprocAttr, fP, pL]
  refine hlow.hushAt [0, 1, 2, 3, 4, 5, 6, 7] (by simp [PV, Tb, Ps, Psn, Ns, Cs, Csn, fP, pL, sbl, ren_none, ren_var, ren_arr, ren_map, ren_mapb, ren_iter, ren_loop, ren_defr, bel_none, bel_var, bel_arr, bel_map, bel_mapb, bel_iter, bel_loop, bel_defr, AV.renL, AV.ren, AV.belL, AV.bel, rn]) (by simp) (by simp [PV, Tb, Ps, Psn, Ns, Cs, Csn, fP, pL]) (by simp [PV, Tb, Ps, Psn, Ns, Cs, Csn, fP, pL, vp, ints, AV.ren, AV.renL, rn]) (by simp [AV.belL, AV.bel]) (by simp [lift, putAll, PV, Tb, Ps, Psn, Ns, Cs, Csn, fP, pL, sbl, ren_none, ren_var, ren_arr, ren_map, ren_mapb, ren_iter, ren_loop, ren_defr, AV.renL, AV.ren, rn]) ?_
  simp only [Cs, push_cast, simprocAttr, fP, pL]
  refine hm3.hushAt [0, 1, 2, 3, 4, 5, 6, 7] (by simp [PV, Tb, Ps, Psn, Ns, Cs, Csn, fP, pL, sbl, ren_none, ren_var, ren_arr, ren_map, ren_mapb, ren_iter, ren_loop, ren_defr, bel_none, bel_var, bel_arr, bel_map, bel_mapb, bel_iter, bel_loop, bel_defr, AV.renL, AV.ren, AV.belL, AV.bel, rn]) (by simp) (by simp [PV, Tb, Ps, Psn, Ns, Cs, Csn, fP, pL]) (by simp [PV, Tb, Ps, Psn, Ns, Cs, Csn, fP, pL, vp, ints, AV.ren, AV.renL, rn]) (by simp [AV.belL, AV.bel]) (by simp [lift, putAll, PV, Tb, Ps, Psn, Ns, Cs, Csn, fP, pL, sbl, ren_none, ren_var, ren_arr, ren_map, ren_mapb, ren_iter, ren_loop, ren_defr, AV.renL, AV.ren, rn]) ?_
  simp only [Cs, push_cast, simprocAttr, fP, pL]
  refine hnil.quiet' (by simp [argsOk, argOk, sl, sll, vp, fP, pL, ints]) ?_
  simp only [push_cast, simprocAttr, fP, pL]
  refine WK.now ?_
  simp only [push_cast, simprocAttr, fP, pL]
end Go.Proofs.YtmeicgbddgeeoaaGreatDoor
end
section
set_option autoImplicit false
set_option linter.unusedVariables false
set_option linter.unusedSimpArgs false
namespace Go.Proofs.YtmeicgbddgeeoaaGreatDoor
open Go.Abs
noncomputable def fitW (w : Rc) (p : Pod) (n : Int) (wo : List Int) : Bool := fitB (match findN w.nodes n with
 | none => none
 | some m => if 0 ≤ wrongS p.2 2 then none else some (some (List.zipWith (· + ·) (loadV w p n wo) p.2), m.2))
theorem RC.fitW {c : Cl} {w : Rc} (h : RC c w) (p : Pod) (n : Int) (wo : List Int) : fitB (totS c p n (loadV w p n wo)) = Go.Proofs.YtmeicgbddgeeoaaGreatDoor.fitW w p n wo := by
 rw [h.tot]
 rfl
theorem RC.ndi {c : Cl} {w : Rc} (h : RC c w) : (w.pods.map pid).Nodup := by
 have := h.ndp
 unfold NoDup kv at this
 rw [List.map_map] at this
 exact this
theorem RC.vic {c : Cl} {w : Rc} (h : RC c w) {p : Pod} (hp : okP p) (n : Int) : VicOk c p n (Go.Proofs.YtmeicgbddgeeoaaGreatDoor.fitW w p n) (w.pods.filter (onP n)) :=
 ⟨h.ok, h.len65, h.listed _, h.ndi.sublist (List.filter_sublist.map pid), fun wo hw => by
  have := fits_ok' (h.ld p n wo (by omega)) (show Sz p.2 by have := hp.2.2; unfold Sz; omega)
  rwa [h.fitW] at this⟩
theorem RC.ref {c : Cl} {w : Rc} (h : RC c w) (hl : w.pods.length ≤ 40) (hpr : PrOk w.pods) {p : Pod} (hp : okP p) (n : Int) : RefOk w p n (Go.Proofs.YtmeicgbddgeeoaaGreatDoor.fitW w p n) :=
 ⟨by omega, hpr, h.ndi, fun wo hw => rfit16_ok w p n wo h.okR (by omega) (by omega) (by have := hp.2.2; omega) (load_bd h p n wo) (load_inR h p n wo)⟩
theorem RC.mono {c : Cl} {w : Rc} (h : RC c w) (p : Pod) (n : Int) {a b : List Int} (hab : ∀ x ∈ a, x ∈ b) (hf : Go.Proofs.YtmeicgbddgeeoaaGreatDoor.fitW w p n a = true) : Go.Proofs.YtmeicgbddgeeoaaGreatDoor.fitW w p n b = true := by
 rw [← h.fitW] at *
 exact fit_mono h (q := p) (load_mono (p := p) (q := p) (n := n) (wo := a) (wo' := b) h.gp (fun _ h => h) hab) (fun hg => ⟨hg, fun k => Int.le_refl _⟩) hf
theorem idl_mem {x : Int} {l : List Pod} : x ∈ idl l ↔ ∃ q ∈ l, q.1.id = x := by unfold idl; rw [List.mem_map]
theorem RC.monoL {c : Cl} {w : Rc} (h : RC c w) (p : Pod) (n : Int) : Mono (fitL (Go.Proofs.YtmeicgbddgeeoaaGreatDoor.fitW w p n)) := fun a b hab hf =>
 h.mono p n (fun x hx => by
  obtain ⟨q, hq, rfl⟩ := idl_mem.1 hx
  exact idl_mem.2 ⟨q, hab q hq, rfl⟩) hf
theorem vicV_sub (F : List Int → Bool) (O : List Pod) (p : Pod) : (vicV F O p).Sublist (lowV O p) := by
 obtain ⟨V, h1, h2⟩ := vic_sub (fit := fitL F) (lowV O p) []
 unfold vicV
 rw [h1]
 exact h2
theorem vicV_len (F : List Int → Bool) (O : List Pod) (p : Pod) : (vicV F O p).length ≤ O.length := Nat.le_trans (vicV_sub F O p).length_le (lowV_len O p)
theorem idl_erase (l : List Pod) (i : Nat) : (idl l).eraseIdx i = idl (l.eraseIdx i) := by
 unfold idl
 rw [List.eraseIdx_eq_take_drop_succ, List.eraseIdx_eq_take_drop_succ, List.map_append, List.map_take, List.map_drop]
theorem vicV_min {F : List Int → Bool} (hm : Mono (fitL F)) (O : List Pod) (p : Pod) {i : Nat} (hi : i < (vicV F O p).length) : F ((idl (vicV F O p)).eraseIdx i) = false := by
 rw [idl_erase]
 exact vic_min hm (lowV O p) [] (vicV F O p) rfl i hi
end Go.Proofs.YtmeicgbddgeeoaaGreatDoor
end
