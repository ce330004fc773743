/-
  The greater elements of two vectors.
  The walks of the package load: what a row contains; the closure of Of.
  The walks of the package load: the load of a node.
  The walks of the package load, continued: what fits, what is left, what is short.
  The reference's functions on reservations: the pods that are seen, and their sum.
  What the load of a node is, in plain words.
  The reference's load, and whether a pod fits.
  The walks of the package load at a cluster that is not there.
  The examples of the chapter on loads.
  ReserveLower, walked.
  LoadRises, walked.
-/
import Derived.Test.YtmeicgbddgeeoaaGreatDoorB0
import Derived.Test.YtmeicgbddgeeoaaGreatDoorB3
import Derived.Test.YtmeicgbddgeeoaaGreatDoorB1
section
set_option autoImplicit false
set_option linter.unusedVariables false
set_option linter.unusedSimpArgs false
namespace Go.Proofs.YtmeicgbddgeeoaaGreatDoor
open Go.Abs
end Go.Proofs.YtmeicgbddgeeoaaGreatDoor
end
section
set_option autoImplicit false
set_option linter.unusedVariables false
set_option linter.unusedSimpArgs false
namespace Go.Proofs.YtmeicgbddgeeoaaGreatDoor
open Go.Abs
def idxV (v : Int) (xs : List Int) : Int := if xs.findIdx (fun x => v == x) < xs.length then xs.findIdx (fun x => v == x) else -1
theorem idxV_at {v : Int} {xs : List Int} {i : Nat} (hi : i < xs.length) (hn : ∀ j, j < i → v ≠ xs.getD j 0) (hy : v = xs.getD i 0) : idxV v xs = i := by
 have e : xs.findIdx (fun x => v == x) = i := by
  rw [List.findIdx_eq hi]
  rw [List.getD_eq_getElem?_getD, List.getElem?_eq_getElem hi, Option.getD_some] at hy
  refine ⟨by simpa using hy, fun j hj => ?_⟩
  have := hn j hj
  rw [List.getD_eq_getElem?_getD, List.getElem?_eq_getElem (by omega), Option.getD_some] at this
  simpa using this
 unfold idxV
 rw [e, if_pos hi]
theorem not_mem_of {v : Int} {xs : List Int} (hn : ∀ j, j < xs.length → v ≠ xs.getD j 0) : v ∉ xs := fun hm => by
 obtain ⟨j, hj, e⟩ := List.getElem_of_mem hm
 have := hn j hj
 rw [List.getD_eq_getElem?_getD, List.getElem?_eq_getElem hj, Option.getD_some] at this
 exact this e.symm
theorem idxV_no {v : Int} {xs : List Int} (hn : ∀ j, j < xs.length → v ≠ xs.getD j 0) : idxV v xs = -1 := by
 unfold idxV
 rw [if_neg]
 rw [List.findIdx_lt_length]
 rintro ⟨x, hx, hh⟩
 exact not_mem_of hn (by have : v = x := by simpa using hh
                         rw [this]; exact hx)
theorem idxV_mem (v : Int) (xs : List Int) : decide (idxV v xs ≥ 0) = decide (v ∈ xs) := by
 refine decide_eq_decide.2 ?_
 unfold idxV
 by_cases h : v ∈ xs
 ·rw [if_pos (List.findIdx_lt_length.2 ⟨v, h, by simp⟩)]
  exact ⟨fun _ => h, fun _ => by omega⟩
 ·rw [if_neg fun hh => by
   obtain ⟨x, hx, hv⟩ := List.findIdx_lt_length.1 hh
   exact h (by have : v = x := by simpa using hv
               rw [this]; exact hx)]
  exact ⟨fun h' => by omega, fun h' => absurd h' h⟩
theorem index_ok' (xs : List Int) (v : Int) (hs : xs.length ≤ 4611686018427387904) : PCall env 67 [.slice 1 (ints xs), .int .i64 v] (.int .i64 (idxV v xs)) := by
 refine acalls_of envOk Tryz.func67 rfl (by kernel_rfl) (m := 17) rfl ?_
 simp only [push_cast, simprocAttr, fP, pL]
 refine ALoop.mk (fun k t H ds => ∃ i : Nat, k = xs.length - i ∧ i ≤ xs.length ∧ (∀ j, j < i → v ≠ xs.getD j 0) ∧ t = (.d (.slice 1 (ints xs)) :: .d (.int .i64 v) :: .x :: .x :: .d (.int .i64 0) :: .x :: .x :: .d (.int .i64 xs.length) :: .d (.int .i64 (i : Nat)) :: xs10) ∧ H = [] ∧ ds = []) xs.length
  (WK.fgt (t' := (.d (.slice 1 (ints xs)) :: .d (.int .i64 v) :: .x :: .x :: .d (.int .i64 0) :: .x :: .x :: .d (.int .i64 xs.length) :: .d (.int .i64 (0 : Nat)) :: xs10)) (by simp [fgt]) (WK.now ⟨0, by omega, by omega, by omega, rfl, rfl, rfl⟩)) ?_
 rintro k t H ds ⟨i, rfl, hi, hp, rfl, rfl, rfl⟩
 simp only [push_cast, simprocAttr, fP, pL]
 refine Kbr.mk (fun c => ?_) (fun c => ?_)
 ·have c2 : i < xs.length := by simpa using c
  simp only [c2, cel_ints, push_cast, simprocAttr, fP, pL]
  refine Kbr.mk (fun c => ?_) (fun c => ?_)
  ·have c3 : v = xs.getD i 0 := by simpa using c
   simp only [push_cast, simprocAttr, fP, pL]
   refine WK.now ?_
   simp only [idxV_at c2 hp c3, push_cast, simprocAttr, pods_length, fP, pL]
  ·have c3 : v ≠ xs.getD i 0 := by simpa using c
   simp only [succ64 c2 hs, push_cast, simprocAttr, pods_length, fP, pL]
   refine ⟨xs.length - (i + 1), by omega, WK.fgt (t' := (.d (.slice 1 (ints xs)) :: .d (.int .i64 v) :: .x :: .x :: .d (.int .i64 0) :: .x :: .x :: .d (.int .i64 xs.length) :: .d (.int .i64 (i + 1 : Nat)) :: xs10)) (by simp [fgt]) (WK.now ⟨i + 1, rfl, by omega, fun j hj => ?_, rfl, rfl, rfl⟩)⟩
   rcases Nat.lt_succ_iff_lt_or_eq.1 hj with hj | rfl
   ·exact hp j hj
   ·exact c3
 ·have c2 : ¬ i < xs.length := by simpa using c
  simp only [push_cast, simprocAttr, fP, pL]
  refine WK.now ?_
  simp only [idxV_no (fun j hj => hp j (by omega)), push_cast, simprocAttr, pods_length, fP, pL]
theorem contains_ok' (xs : List Int) (v : Int) (hs : xs.length ≤ 4611686018427387904) : PCall env 28 [.slice 1 (ints xs), .int .i64 v] (.bool (decide (v ∈ xs))) := by
 refine acalls_of envOk Tryz.func28 rfl (by kernel_rfl) (m := 7) rfl ?_
 simp only [push_cast, simprocAttr, fP, pL]
 refine (index_ok' xs v hs).go (by first | exact ⟨.inl rfl, trivial⟩ | exact ⟨.inl rfl, .inl rfl, trivial⟩ | exact ⟨.inl rfl, .inl rfl, .inl rfl, trivial⟩ | simp [argsOk, argOk, sl, sll]) (WK.now ?_)
 simp only [push_cast, simprocAttr, fP, pL]
 refine WK.now ?_
 simp only [idxV_mem, push_cast, simprocAttr, fP, pL]
theorem has16_ok (xs : List Int) (v : Int) (hs : xs.length ≤ 4611686018427387904) : PCall env 100 [.slice 1 (ints xs), .int .i64 v] (.bool (decide (v ∈ xs))) := by
 refine acalls_of envOk Tryz.func100 rfl (by kernel_rfl) (m := 16) rfl ?_
 simp only [push_cast, simprocAttr, fP, pL]
 refine ALoop.mk (fun k t H ds => ∃ i : Nat, k = xs.length - i ∧ i ≤ xs.length ∧ (∀ j, j < i → v ≠ xs.getD j 0) ∧ t = (.d (.slice 1 (ints xs)) :: .d (.int .i64 v) :: .x :: .x :: .d (.bool false) :: .d (.int .i64 (i : Nat)) :: xs12) ∧ H = [] ∧ ds = []) xs.length
  (WK.fgt (t' := (.d (.slice 1 (ints xs)) :: .d (.int .i64 v) :: .x :: .x :: .d (.bool false) :: .d (.int .i64 (0 : Nat)) :: xs12)) (by simp [fgt]) (WK.now ⟨0, by omega, by omega, by omega, rfl, rfl, rfl⟩)) ?_
 rintro k t H ds ⟨i, rfl, hi, hp, rfl, rfl, rfl⟩
 simp only [push_cast, simprocAttr, fP, pL]
 refine Kbr.mk (fun c => ?_) (fun c => ?_)
 ·have c2 : i < xs.length := by simpa using c
  simp only [c2, cel_ints, push_cast, simprocAttr, fP, pL]
  refine Kbr.mk (fun c => ?_) (fun c => ?_)
  ·have c3 : xs.getD i 0 = v := by simpa using c
   have hm : v ∈ xs := by
    rw [List.getD_eq_getElem?_getD, List.getElem?_eq_getElem c2, Option.getD_some] at c3
    rw [← c3]; exact List.getElem_mem c2
   simp only [push_cast, simprocAttr, fP, pL]
   refine WK.now ?_
   simp only [decide_eq_true hm, push_cast, simprocAttr, pods_length, fP, pL]
  ·have c3 : v ≠ xs.getD i 0 := fun e => (by simpa using c : ¬ xs.getD i 0 = v) e.symm
   simp only [succ64 c2 hs, push_cast, simprocAttr, pods_length, fP, pL]
   refine ⟨xs.length - (i + 1), by omega, WK.fgt (t' := (.d (.slice 1 (ints xs)) :: .d (.int .i64 v) :: .x :: .x :: .d (.bool false) :: .d (.int .i64 (i + 1 : Nat)) :: xs12)) (by simp [fgt]) (WK.now ⟨i + 1, rfl, by omega, fun j hj => ?_, rfl, rfl, rfl⟩)⟩
   rcases Nat.lt_succ_iff_lt_or_eq.1 hj with hj | rfl
   ·exact hp j hj
   ·exact c3
 ·have c2 : ¬ i < xs.length := by simpa using c
  simp only [push_cast, simprocAttr, fP, pL]
  refine WK.now ?_
  simp only [decide_eq_false (not_mem_of fun j hj => hp j (by omega)), push_cast, simprocAttr, pods_length, fP, pL]
def takes (wo : List Int) (q : Pod) : Bool := decide (holdsP q.1.ph) && !decide (q.1.id ∈ wo)
theorem takes_yes {wo : List Int} {q : Pod} (h : takes wo q = true) : decide (q.1.ph = 3 ∨ q.1.ph = 4) = true ∧ decide (q.1.id ∈ wo) = false := by
 unfold takes at h
 rw [Bool.and_eq_true] at h
 exact ⟨h.1, by simpa using h.2⟩
theorem takes_no {wo : List Int} {q : Pod} (h : takes wo q = false) : decide (q.1.ph = 3 ∨ q.1.ph = 4) = false ∨ (decide (q.1.ph = 3 ∨ q.1.ph = 4) = true ∧ decide (q.1.id ∈ wo) = true) := by
 unfold takes at h
 by_cases hh : holdsP q.1.ph
 ·rw [decide_eq_true hh] at h
  exact .inr ⟨decide_eq_true hh, by simpa using h⟩
 ·exact .inl (decide_eq_false hh)
theorem of1_A (q : Pod) (wo : List Int) (rows : List (List D)) (hs : wo.length ≤ 4611686018427387904) (h : takes wo q = false) :
  ACalls env 149 [.d (fP q), .pvar 0 0, .pvar 1 0] [.var [.d (.slice 1 (ints wo))], .var [.svalf 1 rows]] fun r H' => r = .d (.tup []) ∧ H' = [.var [.d (.slice 1 (ints wo))], .var [.svalf 1 rows]] := by
 refine ACalls.cutTo [0, 1] rfl ?_ (fun l => by simp [PV, Tb, Ps, Psn, Ns, Cs, Csn, fP, pL, fE, errD, errF, pgetD, nodeD, sl, pods_length, sbl, ren_none, ren_var, ren_arr, ren_map, ren_mapb, ren_iter, ren_loop, ren_defr, bel_none, bel_var, bel_arr, bel_map, bel_mapb, bel_iter, bel_loop, bel_defr, AV.renL, AV.ren, AV.belL, AV.bel, rn]) (fun m => by simp [tellL, AV.ren, AV.renL, AV.bel, AV.belL, rn])
 refine acalls_of envOk Tryz.func149 rfl (by kernel_rfl) (m := 16) rfl ?_
 simp only [push_cast, simprocAttr, fP, pL]
 refine (holds_ok q.1.ph).go (by first | exact ⟨.inl rfl, trivial⟩ | exact ⟨.inl rfl, .inl rfl, trivial⟩ | exact ⟨.inl rfl, .inl rfl, .inl rfl, trivial⟩ | simp [argsOk, argOk, sl, sll]) (WK.now ?_)
 rcases takes_no h with e1 | ⟨e1, e2⟩
 ·simp only [e1, push_cast, simprocAttr, fP, pL]
  refine WK.now ?_
  simp only [push_cast, simprocAttr, fP, pL]
  first | done | exact ⟨_, rfl⟩ | exact ⟨rfl, _, rfl⟩
 ·simp only [e1, push_cast, simprocAttr, fP, pL]
  refine (contains_ok' wo q.1.id hs).go (by first | exact ⟨.inl rfl, trivial⟩ | exact ⟨.inl rfl, .inl rfl, trivial⟩ | exact ⟨.inl rfl, .inl rfl, .inl rfl, trivial⟩ | simp [argsOk, argOk, sl, sll]) (WK.now ?_)
  simp only [e2, push_cast, simprocAttr, fP, pL]
  refine WK.now ?_
  simp only [push_cast, simprocAttr, fP, pL]
  first | done | exact ⟨_, rfl⟩ | exact ⟨rfl, _, rfl⟩
theorem of1_no (q : Pod) (wo : List Int) (rows : List (List Int)) (hs : wo.length ≤ 4611686018427387904) (h : takes wo q = false) :
  ACalls env 149 [.d (fP q), .pvar 0 0, .pvar 1 0] [.var [.d (.slice 1 (ints wo))], .var [.sfull 2], .arr 24 1 (intss rows)] fun r H' => r = .d (.tup []) ∧
   H' = [.var [.d (.slice 1 (ints wo))], .var [.sfull 2], .arr 24 1 (intss rows)] := by
 refine ACalls.cutTo [0, 1, 2] rfl ?_ (fun l => by simp [PV, Tb, Ps, Psn, Ns, Cs, Csn, fP, pL, fE, errD, errF, pgetD, nodeD, sl, pods_length, sbl, ren_none, ren_var, ren_arr, ren_map, ren_mapb, ren_iter, ren_loop, ren_defr, bel_none, bel_var, bel_arr, bel_map, bel_mapb, bel_iter, bel_loop, bel_defr, AV.renL, AV.ren, AV.belL, AV.bel, rn]) (fun m => by simp [tellL, AV.ren, AV.renL, AV.bel, AV.belL, rn])
 refine acalls_of envOk Tryz.func149 rfl (by kernel_rfl) (m := 16) rfl ?_
 simp only [push_cast, simprocAttr, fP, pL]
 refine (holds_ok q.1.ph).go (by first | exact ⟨.inl rfl, trivial⟩ | exact ⟨.inl rfl, .inl rfl, trivial⟩ | exact ⟨.inl rfl, .inl rfl, .inl rfl, trivial⟩ | simp [argsOk, argOk, sl, sll]) (WK.now ?_)
 rcases takes_no h with e1 | ⟨e1, e2⟩
 ·simp only [e1, push_cast, simprocAttr, fP, pL]
  refine WK.now ?_
  simp only [push_cast, simprocAttr, fP, pL]
  first | done | exact ⟨_, rfl⟩ | exact ⟨rfl, _, rfl⟩
 ·simp only [e1, push_cast, simprocAttr, fP, pL]
  refine (contains_ok' wo q.1.id hs).go (by first | exact ⟨.inl rfl, trivial⟩ | exact ⟨.inl rfl, .inl rfl, trivial⟩ | exact ⟨.inl rfl, .inl rfl, .inl rfl, trivial⟩ | simp [argsOk, argOk, sl, sll]) (WK.now ?_)
  simp only [e2, push_cast, simprocAttr, fP, pL]
  refine WK.now ?_
  simp only [push_cast, simprocAttr, fP, pL]
  first | done | exact ⟨_, rfl⟩ | exact ⟨rfl, _, rfl⟩
theorem of1_yes (q : Pod) (wo : List Int) (rows : List (List Int)) (hs : wo.length ≤ 4611686018427387904) (hr : rows.length ≤ 1000000) (h : takes wo q = true) :
  ACalls env 149 [.d (fP q), .pvar 0 0, .pvar 1 0] [.var [.d (.slice 1 (ints wo))], .var [.sfull 2], .arr 24 1 (intss rows)] fun r H' => r = .d (.tup []) ∧
   H' = [.var [.d (.slice 1 (ints wo))], .var [.sfull 4], .none, .none, .arr 24 1 (intss (rows ++ [q.2]))] := by
 obtain ⟨e1, e2⟩ := takes_yes h
 have raw : ACalls env 149 [.d (fP q), .pvar 0 0, .pvar 1 0] [.var [.d (.slice 1 (ints wo))], .var [.sfull 2], .arr 24 1 (intss rows)] fun r H' => r = .d (.tup []) ∧
   ∃ o, H' = [.var [.d (.slice 1 (ints wo))], .var [.sfull 4], .none, o, .arr 24 1 (intss (rows ++ [q.2]))] := by
  refine acalls_of envOk Tryz.func149 rfl (by kernel_rfl) (m := 16) rfl ?_
  simp only [push_cast, simprocAttr, fP, pL]
  refine (holds_ok q.1.ph).go (by first | exact ⟨.inl rfl, trivial⟩ | exact ⟨.inl rfl, .inl rfl, trivial⟩ | exact ⟨.inl rfl, .inl rfl, .inl rfl, trivial⟩ | simp [argsOk, argOk, sl, sll]) (WK.now ?_)
  simp only [e1, push_cast, simprocAttr, fP, pL]
  refine (contains_ok' wo q.1.id hs).go (by first | exact ⟨.inl rfl, trivial⟩ | exact ⟨.inl rfl, .inl rfl, trivial⟩ | exact ⟨.inl rfl, .inl rfl, .inl rfl, trivial⟩ | simp [argsOk, argOk, sl, sll]) (WK.now ?_)
  simp only [e2, intss_snoc, push_cast, simprocAttr, fP, pL]
  refine ⟨room_of (by simp [intss_length]; omega) (by omega), WK.now ?_⟩
  simp only [push_cast, simprocAttr, fP, pL]
  first | done | exact ⟨_, rfl⟩ | exact ⟨rfl, _, rfl⟩
 exact raw.retell (by
  rintro r H' ⟨rfl, o, rfl⟩
  exact WK.pick [0, 1, 2, 3, 4] (t' := [.d (.tup [])]) (H' := [.var [.d (.slice 1 (ints wo))], .var [.sfull 4], .none, .none, .arr 24 1 (intss (rows ++ [q.2]))]) (by simp [sbl, ren_none, ren_var, ren_arr, bel_none, bel_var, bel_arr, AV.renL, AV.ren, AV.belL, AV.bel, rn]) (by simp) (by simp) (by simp [tellL, AV.ren, AV.renL, AV.bel, AV.belL, rn]) (show ∀ id, id < 3 → ([0, 1, 2, 3, 4] : List Nat)[id]? = some id by decide) (WK.now ⟨_, rfl, rfl, rfl⟩))
end Go.Proofs.YtmeicgbddgeeoaaGreatDoor
end
section
set_option autoImplicit false
set_option linter.unusedVariables false
set_option linter.unusedSimpArgs false
namespace Go.Proofs.YtmeicgbddgeeoaaGreatDoor
open Go.Abs
def heldL (c : Cl) (n : Int) (wo : List Int) : List Pod := (listed c.L (onP n) c.ids).filter (takes wo)
noncomputable def loadR (c : Cl) (n : Int) (wo : List Int) (sv : List Int) : List (List Int) := if (lget c.N n).isSome then zrow c.d :: sv :: reqs (heldL c n wo) else [zrow c.d]
theorem filt_snoc (f : Pod → Bool) {l : List Pod} {i : Nat} (h : i < l.length) : (l.take (i + 1)).filter f = (l.take i).filter f ++ if f (l.getD i pz) then [l.getD i pz] else [] := by
 rw [List.take_add_one, List.filter_append, List.getElem?_eq_getElem h, List.getD_eq_getElem?_getD, List.getElem?_eq_getElem h, Option.toList_some, Option.getD_some]
 cases hf : f l[i] <;> simp [hf]
theorem getD_mem {l : List Pod} {i : Nat} (h : i < l.length) : l.getD i pz ∈ l := by
 rw [List.getD_eq_getElem?_getD, List.getElem?_eq_getElem h]
 exact List.getElem_mem h
theorem rows_ok2 {c : Cl} (h : ClOk c) {sv : List Int} (h1 : Sz sv) (h2 : InR sv) {l : List Pod} (hl : ∀ q ∈ l, ∃ k, lget c.L k = some q) :
  (∀ j, Sz ((zrow c.d :: sv :: reqs l).getD j [])) ∧ InRs (zrow c.d :: sv :: reqs l) := by
 obtain ⟨k1, k2⟩ := rows_ok h hl
 exact ⟨fun j => match j with
  | 0 => k1 0
  | 1 => h1
  | j + 2 => k1 (j + 1), fun j => match j with
  | 0 => k2 0
  | 1 => h2
  | j + 2 => k2 (j + 1)⟩
noncomputable def He (c : Cl) (p : Pod) (wo : List Int) (e : Ent) (l : List Pod) (rows : List (List Int)) : List AObj :=
 Cs c ++ [PV p, .var [.d (.slice 1 (ints wo))], .var [.sfull 12], .var [.d (.int .i64 e.1), .d (.slice 1 (ints e.2.1))], .arr 24 1 (intss rows), .arr 26 9 (pods l)]
noncomputable def Hn (c : Cl) (p : Pod) (wo : List Int) (l : List Pod) : List AObj :=
 Cs c ++ [PV p, .var [.d (.slice 1 (ints wo))], .var [.svalf 1 (intss [zrow c.d])], .var [.d (.int .i64 0), .d (.slice 1 [])], .arr 26 9 (pods l)]
set_option maxRecDepth 8000 in
set_option maxHeartbeats 1000000 in
theorem lof_ok (c : Cl) (p : Pod) (n : Int) (wo : List Int) (h : ClOk c) (h65 : c.ids.length ≤ 65536) (hwo : wo.length ≤ 4611686018427387904) (sv : List Int) (hsum : addS (zrow c.d :: reqs (seenL c p n)) = some sv)
  (hsz : Sz sv) (hin : InR sv) (h0 : lget c.N n = none → ∀ q ∈ listed c.L (onP n) c.ids, takes wo q = false) :
  ACalls env 105 [.pvar 7 0, .d (fP p), .d (.int .i64 n), .d (.slice 1 (ints wo))] (Cs c) fun r H' => r = .d (sumR (addS (loadR c n wo sv))) ∧ H' = Cs c := by
 obtain ⟨l, hl⟩ : ∃ l, l = listed c.L (onP n) c.ids := ⟨_, rfl⟩
 have hmem : ∀ q ∈ l, ∃ k, lget c.L k = some q := fun q hq => mem_listed h (by rw [← hl]; exact hq)
 have hll : l.length ≤ 65536 := by
  have h1 := listed_len c.L (onP n) c.ids
  rw [hl]; omega
 have hd := h.d
 have hcon := con_ok c n h.sees
 have hss := ssum_ok c p n h h65
 rw [hsum] at hss
 rw [← hl] at hcon h0
 have hz := zero_ok c.d hd
 rw [← show zrow c.d = List.replicate (max c.d 0).toNat 0 from rfl] at hz
 unfold Cs
 refine ACalls.cutTo [0, 1, 2, 3, 4, 5, 6, 7] rfl ?_ (fun l => by simp [PV, Tb, Ps, Psn, Ns, Cs, Csn, fP, pL, fE, errD, errF, pgetD, nodeD, sl, pods_length, intss_length, sbl, ren_none, ren_var, ren_arr, ren_map, ren_mapb, ren_iter, ren_loop, ren_defr, bel_none, bel_var, bel_arr, bel_map, bel_mapb, bel_iter, bel_loop, bel_defr, AV.renL, AV.ren, AV.belL, AV.bel, rn]) (fun m => by simp [tellL, AV.ren, AV.renL, AV.bel, AV.belL, rn])
 refine acalls_of envOk Tryz.func105 rfl (by kernel_rfl) (m := 50) rfl ?_
 simp only [push_cast, simprocAttr, fP, pL]
 refine (cdims_ok c).at [0, 1, 2, 3, 4, 5, 6, 7] (by simp [PV, Tb, Ps, Psn, Ns, Cs, Csn, fP, pL, fE, errD, errF, pgetD, nodeD, sl, pods_length, intss_length, sbl, ren_none, ren_var, ren_arr, ren_map, ren_mapb, ren_iter, ren_loop, ren_defr, bel_none, bel_var, bel_arr, bel_map, bel_mapb, bel_iter, bel_loop, bel_defr, AV.renL, AV.ren, AV.belL, AV.bel, rn]) (by simp) (by simp [PV, Tb, Ps, Psn, Ns, Cs, Csn, fP, pL, fE, errD, errF, pgetD, nodeD, sl, pods_length, intss_length]) (by simp [PV, Tb, Ps, Psn, Ns, Cs, Csn, fP, pL, fE, errD, errF, pgetD, nodeD, sl, pods_length, intss_length, AV.ren, AV.renL, rn]) (by simp [AV.belL, AV.bel]) (WK.now ?_)
 simp only [Cs, push_cast, simprocAttr, fP, pL]
 refine hz.go (by first | exact ⟨.inl rfl, trivial⟩ | exact ⟨.inl rfl, .inl rfl, trivial⟩ | exact ⟨.inl rfl, .inl rfl, .inl rfl, trivial⟩ | simp [argsOk, argOk, sl, sll]) (WK.now ?_)
 simp only [push_cast, simprocAttr, fP, pL]
 refine (cnode_ok c n h.N).at [0, 1, 2, 3, 4, 5, 6, 7] (by simp [PV, Tb, Ps, Psn, Ns, Cs, Csn, fP, pL, fE, errD, errF, pgetD, nodeD, sl, pods_length, intss_length, sbl, ren_none, ren_var, ren_arr, ren_map, ren_mapb, ren_iter, ren_loop, ren_defr, bel_none, bel_var, bel_arr, bel_map, bel_mapb, bel_iter, bel_loop, bel_defr, AV.renL, AV.ren, AV.belL, AV.bel, rn]) (by simp) (by simp [PV, Tb, Ps, Psn, Ns, Cs, Csn, fP, pL, fE, errD, errF, pgetD, nodeD, sl, pods_length, intss_length]) (by simp [PV, Tb, Ps, Psn, Ns, Cs, Csn, fP, pL, fE, errD, errF, pgetD, nodeD, sl, pods_length, intss_length, AV.ren, AV.renL, rn]) (by simp [AV.belL, AV.bel]) (WK.now ?_)
 cases hn : lget c.N n with
 | none =>
  simp only [Cs, nodeD, push_cast, simprocAttr, fP, pL]
  refine hcon.at [0, 1, 2, 3, 4, 5, 6, 7] (by simp [PV, Tb, Ps, Psn, Ns, Cs, Csn, fP, pL, fE, errD, errF, pgetD, nodeD, sl, pods_length, intss_length, sbl, ren_none, ren_var, ren_arr, ren_map, ren_mapb, ren_iter, ren_loop, ren_defr, bel_none, bel_var, bel_arr, bel_map, bel_mapb, bel_iter, bel_loop, bel_defr, AV.renL, AV.ren, AV.belL, AV.bel, rn]) (by simp) (by simp [PV, Tb, Ps, Psn, Ns, Cs, Csn, fP, pL, fE, errD, errF, pgetD, nodeD, sl, pods_length, intss_length]) (by simp [PV, Tb, Ps, Psn, Ns, Cs, Csn, fP, pL, fE, errD, errF, pgetD, nodeD, sl, pods_length, intss_length, AV.ren, AV.renL, rn]) (by simp [AV.belL, AV.bel]) (WK.now ?_)
  simp only [Cs, push_cast, simprocAttr, fP, pL]
  refine ALoop.mk (fun k t H ds => ∃ i : Nat, k = l.length - i ∧ i ≤ l.length ∧ t = (.x :: .x :: .x :: .x :: .x :: .x :: .x :: .x :: .x :: .pvar 10 0 :: .x :: .x :: .func 149 [.pvar 9 0, .pvar 10 0] :: .x :: .x :: .x :: .x :: .x :: .x :: .x :: .x :: .x :: .x :: .x :: .x :: .x :: .x :: .x :: .x :: .x :: .x :: .x :: .x :: .x :: .x :: .x :: .x :: .x :: .sfull 12 :: .d (.int .i64 l.length) :: .d (.int .i64 (i : Nat)) :: xs13) ∧ H = Hn c p wo l ∧ ds = []) l.length
   (WK.fgt (t' := (.x :: .x :: .x :: .x :: .x :: .x :: .x :: .x :: .x :: .pvar 10 0 :: .x :: .x :: .func 149 [.pvar 9 0, .pvar 10 0] :: .x :: .x :: .x :: .x :: .x :: .x :: .x :: .x :: .x :: .x :: .x :: .x :: .x :: .x :: .x :: .x :: .x :: .x :: .x :: .x :: .x :: .x :: .x :: .x :: .x :: .sfull 12 :: .d (.int .i64 l.length) :: .d (.int .i64 (0 : Nat)) :: xs13)) (by simp [fgt]) (WK.now ⟨0, by omega, by omega, rfl, rfl, rfl⟩)) ?_
  rintro k t H ds ⟨i, rfl, hi, rfl, rfl, rfl⟩
  simp only [Hn, Cs, PV, push_cast, simprocAttr, fP, pL]
  refine Kbr.mk (fun b => ?_) (fun b => ?_)
  ·have c2 : i < l.length := by simpa using b
   have si := succ64 c2 (show l.length ≤ 4611686018427387904 by omega)
   simp only [c2, seg_pods, push_cast, simprocAttr, fP, pL]
   refine (of1_A (l.getD i pz) wo (intss [zrow c.d]) hwo (h0 hn _ (getD_mem c2))).at [9, 10] (by simp [PV, Tb, Ps, Psn, Ns, Cs, Csn, fP, pL, fE, errD, errF, pgetD, nodeD, sl, pods_length, intss_length, sbl, ren_none, ren_var, ren_arr, ren_map, ren_mapb, ren_iter, ren_loop, ren_defr, bel_none, bel_var, bel_arr, bel_map, bel_mapb, bel_iter, bel_loop, bel_defr, AV.renL, AV.ren, AV.belL, AV.bel, rn]) (by simp) (by simp [PV, Tb, Ps, Psn, Ns, Cs, Csn, fP, pL, fE, errD, errF, pgetD, nodeD, sl, pods_length, intss_length]) (by simp [PV, Tb, Ps, Psn, Ns, Cs, Csn, fP, pL, fE, errD, errF, pgetD, nodeD, sl, pods_length, intss_length, AV.ren, AV.renL, rn]) (by simp [AV.belL, AV.bel]) (WK.now ?_)
   simp only [si, push_cast, simprocAttr, fP, pL]
   exact ⟨l.length - (i + 1), by omega, WK.fgt (t' := (.x :: .x :: .x :: .x :: .x :: .x :: .x :: .x :: .x :: .pvar 10 0 :: .x :: .x :: .func 149 [.pvar 9 0, .pvar 10 0] :: .x :: .x :: .x :: .x :: .x :: .x :: .x :: .x :: .x :: .x :: .x :: .x :: .x :: .x :: .x :: .x :: .x :: .x :: .x :: .x :: .x :: .x :: .x :: .x :: .x :: .sfull 12 :: .d (.int .i64 l.length) :: .d (.int .i64 (i + 1 : Nat)) :: xs13)) (by simp [fgt]) (WK.pick [0, 1, 2, 3, 4, 5, 6, 7, 8, 9, 10, 11, 12] (t' := (.x :: .x :: .x :: .x :: .x :: .x :: .x :: .x :: .x :: .pvar 10 0 :: .x :: .x :: .func 149 [.pvar 9 0, .pvar 10 0] :: .x :: .x :: .x :: .x :: .x :: .x :: .x :: .x :: .x :: .x :: .x :: .x :: .x :: .x :: .x :: .x :: .x :: .x :: .x :: .x :: .x :: .x :: .x :: .x :: .x :: .sfull 12 :: .d (.int .i64 l.length) :: .d (.int .i64 (i + 1 : Nat)) :: xs13)) (H' := Hn c p wo l) (by simp [Hn, Cs, PV, pL, intss, sl, sbl, ren_none, ren_var, ren_arr, ren_map, bel_none, bel_var, bel_arr, bel_map, AV.renL, AV.ren, AV.belL, AV.bel, rn]) (by simp) (by simp) (by simp [tellL, AV.ren, AV.renL, AV.bel, AV.belL, rn]) (by decide) (WK.now ⟨i + 1, rfl, by omega, rfl, rfl, rfl⟩))⟩
  ·simp only [push_cast, simprocAttr, fP, pL]
   have hr : loadR c n wo sv = [zrow c.d] := by unfold loadR; rw [hn]; rfl
   obtain ⟨k1, k2⟩ := rows_ok h (l := []) (by simp)
   rw [hr]
   refine (vadd_ok [zrow c.d] (by unfold Sz; simp) k1 k2).go (by simp [argsOk, argOk, sll]) (WK.now ?_)
   cases ha : addS [zrow c.d] with
   | none =>
    simp only [resS, push_cast, simprocAttr, fP, pL]
    refine WK.now ?_
    simp only [sumR, push_cast, simprocAttr, fP, pL]
    first | done | exact ⟨_, rfl⟩ | exact ⟨rfl, _, rfl⟩
   | some v =>
    simp only [resS, push_cast, simprocAttr, fP, pL]
    refine WK.now ?_
    simp only [sumR, push_cast, simprocAttr, fP, pL]
    first | done | exact ⟨_, rfl⟩ | exact ⟨rfl, _, rfl⟩
 | some e =>
  simp only [Cs, nodeD, push_cast, simprocAttr, fP, pL]
  refine DRegL.det [6, 7] [0, 1, 2, 3, 4, 5] [(6, [], []), (7, [], [])] (by kernel_rfl) (by kernel_rfl) (by kernel_rfl) ?_
  simp only [push_cast, simprocAttr, fP, pL]
  refine hss.hushAt [0, 1, 2, 3, 4, 5, 6, 7] (by simp [PV, Tb, Ps, Psn, Ns, Cs, Csn, fP, pL, fE, errD, errF, pgetD, nodeD, sl, pods_length, intss_length, sbl, ren_none, ren_var, ren_arr, ren_map, ren_mapb, ren_iter, ren_loop, ren_defr, bel_none, bel_var, bel_arr, bel_map, bel_mapb, bel_iter, bel_loop, bel_defr, AV.renL, AV.ren, AV.belL, AV.bel, rn]) (by simp) (by simp [PV, Tb, Ps, Psn, Ns, Cs, Csn, fP, pL, fE, errD, errF, pgetD, nodeD, sl, pods_length, intss_length]) (by simp [PV, Tb, Ps, Psn, Ns, Cs, Csn, fP, pL, fE, errD, errF, pgetD, nodeD, sl, pods_length, intss_length, AV.ren, AV.renL, rn]) (by simp [AV.belL, AV.bel]) (by simp [lift, putAll, PV, Tb, Ps, Psn, Ns, Cs, Csn, fP, pL, fE, errD, errF, pgetD, nodeD, sl, pods_length, intss_length, sbl, ren_none, ren_var, ren_arr, ren_map, ren_mapb, ren_iter, ren_loop, ren_defr, AV.renL, AV.ren, rn]) ?_
  simp only [sumR, push_cast, simprocAttr, fP, pL]
  refine ⟨.inl trivial, room_of (by omega) (by omega), ?_⟩
  refine hcon.at [0, 1, 2, 3, 4, 5, 6, 7] (by simp [PV, Tb, Ps, Psn, Ns, Cs, Csn, fP, pL, fE, errD, errF, pgetD, nodeD, sl, pods_length, intss_length, sbl, ren_none, ren_var, ren_arr, ren_map, ren_mapb, ren_iter, ren_loop, ren_defr, bel_none, bel_var, bel_arr, bel_map, bel_mapb, bel_iter, bel_loop, bel_defr, AV.renL, AV.ren, AV.belL, AV.bel, rn]) (by simp) (by simp [PV, Tb, Ps, Psn, Ns, Cs, Csn, fP, pL, fE, errD, errF, pgetD, nodeD, sl, pods_length, intss_length]) (by simp [PV, Tb, Ps, Psn, Ns, Cs, Csn, fP, pL, fE, errD, errF, pgetD, nodeD, sl, pods_length, intss_length, AV.ren, AV.renL, rn]) (by simp [AV.belL, AV.bel]) (WK.now ?_)
  simp only [Cs, push_cast, simprocAttr, fP, pL]
  refine ALoop.mk (fun k t H ds => ∃ i : Nat, k = l.length - i ∧ i ≤ l.length ∧ t = (.x :: .x :: .x :: .x :: .x :: .x :: .x :: .x :: .x :: .pvar 10 0 :: .x :: .x :: .func 149 [.pvar 9 0, .pvar 10 0] :: .x :: .x :: .x :: .x :: .x :: .x :: .x :: .x :: .x :: .x :: .x :: .x :: .x :: .x :: .x :: .x :: .x :: .x :: .x :: .x :: .x :: .x :: .x :: .x :: .x :: .sfull 13 :: .d (.int .i64 l.length) :: .d (.int .i64 (i : Nat)) :: xs13) ∧ H = He c p wo e l (zrow c.d :: sv :: reqs ((l.take i).filter (takes wo))) ∧ ds = []) l.length
   (WK.fgt (t' := (.x :: .x :: .x :: .x :: .x :: .x :: .x :: .x :: .x :: .pvar 10 0 :: .x :: .x :: .func 149 [.pvar 9 0, .pvar 10 0] :: .x :: .x :: .x :: .x :: .x :: .x :: .x :: .x :: .x :: .x :: .x :: .x :: .x :: .x :: .x :: .x :: .x :: .x :: .x :: .x :: .x :: .x :: .x :: .x :: .x :: .sfull 13 :: .d (.int .i64 l.length) :: .d (.int .i64 (0 : Nat)) :: xs13)) (by simp [fgt]) (WK.now ⟨0, by omega, by omega, rfl, rfl, rfl⟩)) ?_
  rintro k t H ds ⟨i, rfl, hi, rfl, rfl, rfl⟩
  simp only [He, Cs, PV, push_cast, simprocAttr, fP, pL]
  refine Kbr.mk (fun b => ?_) (fun b => ?_)
  ·have c2 : i < l.length := by simpa using b
   have si := succ64 c2 (show l.length ≤ 4611686018427387904 by omega)
   have hf := filt_snoc (takes wo) c2
   have hfl : ((l.take i).filter (takes wo)).length ≤ 65536 := by
    refine Nat.le_trans (List.length_filter_le _ _) ?_
    simp; omega
   simp only [c2, seg_pods, push_cast, simprocAttr, fP, pL]
   cases ht : takes wo (l.getD i pz) with
   | false =>
    rw [ht, if_neg (by simp), List.append_nil] at hf
    refine (of1_no (l.getD i pz) wo (zrow c.d :: sv :: reqs ((l.take i).filter (takes wo))) hwo ht).at [9, 10, 12] (by simp [PV, Tb, Ps, Psn, Ns, Cs, Csn, fP, pL, fE, errD, errF, pgetD, nodeD, sl, pods_length, intss_length, sbl, ren_none, ren_var, ren_arr, ren_map, ren_mapb, ren_iter, ren_loop, ren_defr, bel_none, bel_var, bel_arr, bel_map, bel_mapb, bel_iter, bel_loop, bel_defr, AV.renL, AV.ren, AV.belL, AV.bel, rn]) (by simp) (by simp [PV, Tb, Ps, Psn, Ns, Cs, Csn, fP, pL, fE, errD, errF, pgetD, nodeD, sl, pods_length, intss_length]) (by simp [PV, Tb, Ps, Psn, Ns, Cs, Csn, fP, pL, fE, errD, errF, pgetD, nodeD, sl, pods_length, intss_length, AV.ren, AV.renL, rn]) (by simp [AV.belL, AV.bel]) (WK.now ?_)
    simp only [si, push_cast, simprocAttr, fP, pL]
    exact ⟨l.length - (i + 1), by omega, WK.fgt (t' := (.x :: .x :: .x :: .x :: .x :: .x :: .x :: .x :: .x :: .pvar 10 0 :: .x :: .x :: .func 149 [.pvar 9 0, .pvar 10 0] :: .x :: .x :: .x :: .x :: .x :: .x :: .x :: .x :: .x :: .x :: .x :: .x :: .x :: .x :: .x :: .x :: .x :: .x :: .x :: .x :: .x :: .x :: .x :: .x :: .x :: .sfull 13 :: .d (.int .i64 l.length) :: .d (.int .i64 (i + 1 : Nat)) :: xs13)) (by simp [fgt]) (WK.pick [0, 1, 2, 3, 4, 5, 6, 7, 8, 9, 10, 11, 12, 13] (t' := (.x :: .x :: .x :: .x :: .x :: .x :: .x :: .x :: .x :: .pvar 10 0 :: .x :: .x :: .func 149 [.pvar 9 0, .pvar 10 0] :: .x :: .x :: .x :: .x :: .x :: .x :: .x :: .x :: .x :: .x :: .x :: .x :: .x :: .x :: .x :: .x :: .x :: .x :: .x :: .x :: .x :: .x :: .x :: .x :: .x :: .sfull 13 :: .d (.int .i64 l.length) :: .d (.int .i64 (i + 1 : Nat)) :: xs13)) (H' := He c p wo e l (zrow c.d :: sv :: reqs ((l.take i).filter (takes wo)))) (by simp [He, Cs, PV, pL, sbl, ren_none, ren_var, ren_arr, ren_map, bel_none, bel_var, bel_arr, bel_map, AV.renL, AV.ren, AV.belL, AV.bel, rn]) (by simp) (by simp) (by simp [tellL, AV.ren, AV.renL, AV.bel, AV.belL, rn]) (by decide) (WK.now ⟨i + 1, rfl, by omega, rfl, by rw [hf]; rfl, rfl⟩))⟩
   | true =>
    rw [ht, if_pos rfl] at hf
    refine (of1_yes (l.getD i pz) wo (zrow c.d :: sv :: reqs ((l.take i).filter (takes wo))) hwo (by simp only [List.length_cons, reqs_length]; omega) ht).at [9, 10, 12] (by simp [PV, Tb, Ps, Psn, Ns, Cs, Csn, fP, pL, fE, errD, errF, pgetD, nodeD, sl, pods_length, intss_length, sbl, ren_none, ren_var, ren_arr, ren_map, ren_mapb, ren_iter, ren_loop, ren_defr, bel_none, bel_var, bel_arr, bel_map, bel_mapb, bel_iter, bel_loop, bel_defr, AV.renL, AV.ren, AV.belL, AV.bel, rn]) (by simp) (by simp [PV, Tb, Ps, Psn, Ns, Cs, Csn, fP, pL, fE, errD, errF, pgetD, nodeD, sl, pods_length, intss_length]) (by simp [PV, Tb, Ps, Psn, Ns, Cs, Csn, fP, pL, fE, errD, errF, pgetD, nodeD, sl, pods_length, intss_length, AV.ren, AV.renL, rn]) (by simp [AV.belL, AV.bel]) (WK.now ?_)
    simp only [si, push_cast, simprocAttr, fP, pL]
    exact ⟨l.length - (i + 1), by omega, WK.fgt (t' := (.x :: .x :: .x :: .x :: .x :: .x :: .x :: .x :: .x :: .pvar 10 0 :: .x :: .x :: .func 149 [.pvar 9 0, .pvar 10 0] :: .x :: .x :: .x :: .x :: .x :: .x :: .x :: .x :: .x :: .x :: .x :: .x :: .x :: .x :: .x :: .x :: .x :: .x :: .x :: .x :: .x :: .x :: .x :: .x :: .x :: .sfull 13 :: .d (.int .i64 l.length) :: .d (.int .i64 (i + 1 : Nat)) :: xs13)) (by simp [fgt]) (WK.pick [0, 1, 2, 3, 4, 5, 6, 7, 8, 9, 10, 11, 16, 13] (t' := (.x :: .x :: .x :: .x :: .x :: .x :: .x :: .x :: .x :: .pvar 10 0 :: .x :: .x :: .func 149 [.pvar 9 0, .pvar 10 0] :: .x :: .x :: .x :: .x :: .x :: .x :: .x :: .x :: .x :: .x :: .x :: .x :: .x :: .x :: .x :: .x :: .x :: .x :: .x :: .x :: .x :: .x :: .x :: .x :: .x :: .sfull 13 :: .d (.int .i64 l.length) :: .d (.int .i64 (i + 1 : Nat)) :: xs13)) (H' := He c p wo e l (zrow c.d :: sv :: reqs ((l.take i).filter (takes wo)) ++ [(l.getD i pz).2])) (by simp [He, Cs, PV, pL, sbl, ren_none, ren_var, ren_arr, ren_map, bel_none, bel_var, bel_arr, bel_map, AV.renL, AV.ren, AV.belL, AV.bel, rn]) (by simp) (by simp) (by simp [tellL, AV.ren, AV.renL, AV.bel, AV.belL, rn]) (by decide) (WK.now ⟨i + 1, rfl, by omega, rfl, by rw [hf, show reqs ((l.take i).filter (takes wo) ++ [l.getD i pz]) = reqs ((l.take i).filter (takes wo)) ++ [(l.getD i pz).2] by simp [reqs]]; rfl, rfl⟩))⟩
  ·have hti : l.take i = l := List.take_of_length_le (by have : ¬ i < l.length := by simpa using b
                                                         omega)
   rw [hti]
   simp only [push_cast, simprocAttr, fP, pL]
   have hr : loadR c n wo sv = zrow c.d :: sv :: reqs (l.filter (takes wo)) := by unfold loadR heldL; rw [hn, ← hl]; rfl
   obtain ⟨k1, k2⟩ := rows_ok2 h hsz hin (l := l.filter (takes wo)) (fun q hq => hmem q (List.mem_filter.1 hq).1)
   have hfl : (l.filter (takes wo)).length ≤ 65536 := Nat.le_trans (List.length_filter_le _ _) hll
   rw [hr]
   refine (vadd_ok _ (by unfold Sz; simp [reqs_length]; omega) k1 k2).frzgo 12 rfl (by simp [AV.frzL, AV.frz, argsOk, argOk, sll]) (WK.now ?_)
   cases ha : addS (zrow c.d :: sv :: reqs (l.filter (takes wo))) with
   | none =>
    simp only [resS, push_cast, simprocAttr, fP, pL]
    refine WK.now ?_
    simp only [sumR, push_cast, simprocAttr, fP, pL]
    first | done | exact ⟨_, rfl⟩ | exact ⟨rfl, _, rfl⟩
   | some v =>
    simp only [resS, push_cast, simprocAttr, fP, pL]
    refine WK.now ?_
    simp only [sumR, push_cast, simprocAttr, fP, pL]
    first | done | exact ⟨_, rfl⟩ | exact ⟨rfl, _, rfl⟩
end Go.Proofs.YtmeicgbddgeeoaaGreatDoor
end
section
set_option autoImplicit false
set_option linter.unusedVariables false
set_option linter.unusedSimpArgs false
namespace Go.Proofs.YtmeicgbddgeeoaaGreatDoor
open Go.Abs
structure LdOk (c : Cl) (p : Pod) (n : Int) (wo lv : List Int) : Prop where
 ok : ClOk c
 len : c.ids.length ≤ 65536
 hwo : wo.length ≤ 4611686018427387904
 sum : ∃ sv, addS (zrow c.d :: reqs (seenL c p n)) = some sv ∧ Sz sv ∧ InR sv ∧ addS (loadR c n wo sv) = some lv
 sz : Sz lv
 inr : InR lv
 out : lget c.N n = none → ∀ q ∈ listed c.L (onP n) c.ids, takes wo q = false
theorem of_go {c : Cl} {p : Pod} {n : Int} {wo lv : List Int} (h : LdOk c p n wo lv) :
  ACalls env 105 [.pvar 7 0, .d (fP p), .d (.int .i64 n), .d (.slice 1 (ints wo))] (Cs c) fun r H' => r = .d (sl lv) ∧ H' = Cs c := by
 obtain ⟨sv, h1, h2, h3, h4⟩ := h.sum
 have := lof_ok c p n wo h.ok h.len h.hwo sv h1 h2 h3 h.out
 rw [h4] at this
 exact this
noncomputable def totS (c : Cl) (p : Pod) (n : Int) (lv : List Int) : Option (Option (List Int) × List Int) :=
 match lget c.N n with
 | none => none
 | some e => if 0 ≤ wrongS p.2 c.d then none else some (addS [lv, p.2], e.2.1)
def totD : Option (Option (List Int) × List Int) → D
 | none => .tup [.nils, .nils, .bool false]
 | some (s, cap) => .tup [sumR s, sl cap, .bool s.isSome]
theorem two_rows2 (u v : List Int) : [[D.slice 1 (ints u)], [D.slice 1 (ints v)]] = intss [u, v] := rfl
theorem ok_len {v : List Int} {d : Int} (h : ¬ 0 ≤ wrongS v d) (hd : d ≤ 1000000) : Sz v ∧ InR v := by
 obtain ⟨h1, h2⟩ := wrongS_neg h
 exact ⟨by unfold Sz; omega, inR_of fun x hx => by have := h2 x hx; unfold I64; omega⟩
set_option maxRecDepth 8000 in
theorem total_ok {c : Cl} {p : Pod} {n : Int} {wo lv : List Int} (h : LdOk c p n wo lv) (hp : Sz p.2) :
  ACalls env 65 [.pvar 7 0, .d (fP p), .d (.int .i64 n), .d (.slice 1 (ints wo))] (Cs c) fun r H' => r = .d (totD (totS c p n lv)) ∧ H' = Cs c := by
 have hof := of_go h
 have hd := h.ok.d
 unfold Cs
 refine ACalls.cutTo [0, 1, 2, 3, 4, 5, 6, 7] rfl ?_ (fun l => by simp [PV, Tb, Ps, Psn, Ns, Cs, Csn, fP, pL, fE, errD, errF, pgetD, nodeD, sl, pods_length, intss_length, sbl, ren_none, ren_var, ren_arr, ren_map, ren_mapb, ren_iter, ren_loop, ren_defr, bel_none, bel_var, bel_arr, bel_map, bel_mapb, bel_iter, bel_loop, bel_defr, AV.renL, AV.ren, AV.belL, AV.bel, rn]) (fun m => by simp [tellL, AV.ren, AV.renL, AV.bel, AV.belL, rn])
 refine acalls_of envOk Tryz.func65 rfl (by kernel_rfl) (m := 40) rfl ?_
 simp only [push_cast, simprocAttr, fP, pL]
 refine (cnode_ok c n h.ok.N).at [0, 1, 2, 3, 4, 5, 6, 7] (by simp [PV, Tb, Ps, Psn, Ns, Cs, Csn, fP, pL, fE, errD, errF, pgetD, nodeD, sl, pods_length, intss_length, sbl, ren_none, ren_var, ren_arr, ren_map, ren_mapb, ren_iter, ren_loop, ren_defr, bel_none, bel_var, bel_arr, bel_map, bel_mapb, bel_iter, bel_loop, bel_defr, AV.renL, AV.ren, AV.belL, AV.bel, rn]) (by simp) (by simp [PV, Tb, Ps, Psn, Ns, Cs, Csn, fP, pL, fE, errD, errF, pgetD, nodeD, sl, pods_length, intss_length]) (by simp [PV, Tb, Ps, Psn, Ns, Cs, Csn, fP, pL, fE, errD, errF, pgetD, nodeD, sl, pods_length, intss_length, AV.ren, AV.renL, rn]) (by simp [AV.belL, AV.bel]) (WK.now ?_)
 cases hn : lget c.N n with
 | none =>
  simp only [Cs, nodeD, push_cast, simprocAttr, fP, pL]
  refine DRegL.det [] [0, 1, 2, 3, 4, 5, 6, 7, 8, 9] [] (by kernel_rfl) (by kernel_rfl) (by kernel_rfl) ?_
  simp only [push_cast, simprocAttr, fP, pL]
  refine WK.now ?_
  simp only [totS, totD, hn, push_cast, simprocAttr, fP, pL]
  first | done | exact ⟨_, rfl⟩ | exact ⟨rfl, _, rfl⟩
 | some e =>
  simp only [Cs, nodeD, push_cast, simprocAttr, fP, pL]
  refine DRegL.det [] [0, 1, 2, 3, 4, 5, 6, 7, 8, 9] [] (by kernel_rfl) (by kernel_rfl) (by kernel_rfl) ?_
  simp only [push_cast, simprocAttr, fP, pL]
  refine (cdims_ok c).hushAt [0, 1, 2, 3, 4, 5, 6, 7] (by simp [PV, Tb, Ps, Psn, Ns, Cs, Csn, fP, pL, fE, errD, errF, pgetD, nodeD, sl, pods_length, intss_length, sbl, ren_none, ren_var, ren_arr, ren_map, ren_mapb, ren_iter, ren_loop, ren_defr, bel_none, bel_var, bel_arr, bel_map, bel_mapb, bel_iter, bel_loop, bel_defr, AV.renL, AV.ren, AV.belL, AV.bel, rn]) (by simp) (by simp [PV, Tb, Ps, Psn, Ns, Cs, Csn, fP, pL, fE, errD, errF, pgetD, nodeD, sl, pods_length, intss_length]) (by simp [PV, Tb, Ps, Psn, Ns, Cs, Csn, fP, pL, fE, errD, errF, pgetD, nodeD, sl, pods_length, intss_length, AV.ren, AV.renL, rn]) (by simp [AV.belL, AV.bel]) (by simp [lift, putAll, PV, Tb, Ps, Psn, Ns, Cs, Csn, fP, pL, fE, errD, errF, pgetD, nodeD, sl, pods_length, intss_length, sbl, ren_none, ren_var, ren_arr, ren_map, ren_mapb, ren_iter, ren_loop, ren_defr, AV.renL, AV.ren, rn]) ?_
  simp only [push_cast, simprocAttr, fP, pL]
  refine (vwrong_ok p.2 c.d (Nat.le_trans hp (by omega))).quiet' (by first | exact ⟨.inl rfl, trivial⟩ | exact ⟨.inl rfl, .inl rfl, trivial⟩ | exact ⟨.inl rfl, .inl rfl, .inl rfl, trivial⟩ | simp [argsOk, argOk, sl, sll]) ?_
  by_cases hw : 0 ≤ wrongS p.2 c.d
  ·have hb : decide (wrongS p.2 c.d ≥ 0) = true := decide_eq_true hw
   simp only [hb, push_cast, simprocAttr, fP, pL]
   refine WK.now ?_
   simp only [totS, totD, hn, hw, push_cast, simprocAttr, fP, pL]
   first | done | exact ⟨_, rfl⟩ | exact ⟨rfl, _, rfl⟩
  ·have hb : decide (wrongS p.2 c.d ≥ 0) = false := decide_eq_false hw
   obtain ⟨g1, g2⟩ := ok_len hw hd
   simp only [hb, push_cast, simprocAttr, fP, pL]
   refine DRegL.det [] [0, 1, 2, 3, 4, 5, 6, 7, 8, 9, 10, 11, 12, 13] [] (by kernel_rfl) (by kernel_rfl) (by kernel_rfl) ?_
   simp only [push_cast, simprocAttr, fP, pL]
   refine hof.hushAt [0, 1, 2, 3, 4, 5, 6, 7] (by simp [PV, Tb, Ps, Psn, Ns, Cs, Csn, fP, pL, fE, errD, errF, pgetD, nodeD, sl, pods_length, intss_length, sbl, ren_none, ren_var, ren_arr, ren_map, ren_mapb, ren_iter, ren_loop, ren_defr, bel_none, bel_var, bel_arr, bel_map, bel_mapb, bel_iter, bel_loop, bel_defr, AV.renL, AV.ren, AV.belL, AV.bel, rn]) (by simp) (by simp [PV, Tb, Ps, Psn, Ns, Cs, Csn, fP, pL, fE, errD, errF, pgetD, nodeD, sl, pods_length, intss_length]) (by simp [PV, Tb, Ps, Psn, Ns, Cs, Csn, fP, pL, fE, errD, errF, pgetD, nodeD, sl, pods_length, intss_length, AV.ren, AV.renL, rn]) (by simp [AV.belL, AV.bel]) (by simp [lift, putAll, PV, Tb, Ps, Psn, Ns, Cs, Csn, fP, pL, fE, errD, errF, pgetD, nodeD, sl, pods_length, intss_length, sbl, ren_none, ren_var, ren_arr, ren_map, ren_mapb, ren_iter, ren_loop, ren_defr, AV.renL, AV.ren, rn]) ?_
   simp only [two_rows2, push_cast, simprocAttr, fP, pL]
   refine (vadd_ok [lv, p.2] (by unfold Sz; simp) (rows2 h.sz g1) (rows2 h.inr g2)).quiet' (by first | exact ⟨.inl rfl, trivial⟩ | exact ⟨.inl rfl, .inl rfl, trivial⟩ | exact ⟨.inl rfl, .inl rfl, .inl rfl, trivial⟩ | simp [argsOk, argOk, sl, sll]) ?_
   cases ha : addS [lv, p.2] with
   | none =>
    simp only [resS, push_cast, simprocAttr, fP, pL]
    refine DRegL.det [] [0, 1, 2, 3, 4, 5, 6] [] (by kernel_rfl) (by kernel_rfl) (by kernel_rfl) ?_
    simp only [push_cast, simprocAttr, fP, pL]
    refine WK.now ?_
    simp only [totS, totD, hn, hw, ha, sumR, push_cast, simprocAttr, fP, pL]
    first | done | exact ⟨_, rfl⟩ | exact ⟨rfl, _, rfl⟩
   | some v =>
    simp only [resS, push_cast, simprocAttr, fP, pL]
    refine DRegL.det [] [0, 1, 2, 3, 4, 5, 6] [] (by kernel_rfl) (by kernel_rfl) (by kernel_rfl) ?_
    simp only [push_cast, simprocAttr, fP, pL]
    refine WK.now ?_
    simp only [totS, totD, hn, hw, ha, sumR, push_cast, simprocAttr, fP, pL]
    first | done | exact ⟨_, rfl⟩ | exact ⟨rfl, _, rfl⟩
noncomputable def fitB : Option (Option (List Int) × List Int) → Bool
 | some (some s, cap) => B (FitsP s cap)
 | _ => false
theorem tot_good {c : Cl} {p : Pod} {n : Int} {wo lv s cap : List Int} (h : LdOk c p n wo lv) (e : totS c p n lv = some (some s, cap)) : Sz s ∧ InR s ∧ Sz cap ∧ InR cap := by
 unfold totS at e
 cases hn : lget c.N n with
 | none => rw [hn] at e; cases e
 | some x =>
  rw [hn] at e
  dsimp only at e
  by_cases hw : 0 ≤ wrongS p.2 c.d
  ·rw [if_pos hw] at e; cases e
  ·rw [if_neg hw] at e
   obtain ⟨g1, g2⟩ := ok_len hw h.ok.d
   have e' := Option.some.inj e
   have e1 : addS [lv, p.2] = some s := congrArg Prod.fst e'
   have e2 : x.2.1 = cap := congrArg Prod.snd e'
   obtain ⟨k1, k2, k3, k4⟩ := h.ok.N n x hn
   rw [← e2]
   exact ⟨addS_sz e1 (rows2 h.sz g1), addS_inR e1, k3, k1⟩
set_option maxRecDepth 8000 in
theorem fits_ok' {c : Cl} {p : Pod} {n : Int} {wo lv : List Int} (h : LdOk c p n wo lv) (hp : Sz p.2) :
  ACalls env 27 [.pvar 7 0, .d (fP p), .d (.int .i64 n), .d (.slice 1 (ints wo))] (Cs c) fun r H' => r = .d (.bool (fitB (totS c p n lv))) ∧ H' = Cs c := by
 have htot := total_ok h hp
 unfold Cs
 refine ACalls.cutTo [0, 1, 2, 3, 4, 5, 6, 7] rfl ?_ (fun l => by simp [PV, Tb, Ps, Psn, Ns, Cs, Csn, fP, pL, fE, errD, errF, pgetD, nodeD, sl, pods_length, intss_length, sbl, ren_none, ren_var, ren_arr, ren_map, ren_mapb, ren_iter, ren_loop, ren_defr, bel_none, bel_var, bel_arr, bel_map, bel_mapb, bel_iter, bel_loop, bel_defr, AV.renL, AV.ren, AV.belL, AV.bel, rn]) (fun m => by simp [tellL, AV.ren, AV.renL, AV.bel, AV.belL, rn])
 refine acalls_of envOk Tryz.func27 rfl (by kernel_rfl) (m := 23) rfl ?_
 simp only [push_cast, simprocAttr, fP, pL]
 refine htot.at [0, 1, 2, 3, 4, 5, 6, 7] (by simp [PV, Tb, Ps, Psn, Ns, Cs, Csn, fP, pL, fE, errD, errF, pgetD, nodeD, sl, pods_length, intss_length, sbl, ren_none, ren_var, ren_arr, ren_map, ren_mapb, ren_iter, ren_loop, ren_defr, bel_none, bel_var, bel_arr, bel_map, bel_mapb, bel_iter, bel_loop, bel_defr, AV.renL, AV.ren, AV.belL, AV.bel, rn]) (by simp) (by simp [PV, Tb, Ps, Psn, Ns, Cs, Csn, fP, pL, fE, errD, errF, pgetD, nodeD, sl, pods_length, intss_length]) (by simp [PV, Tb, Ps, Psn, Ns, Cs, Csn, fP, pL, fE, errD, errF, pgetD, nodeD, sl, pods_length, intss_length, AV.ren, AV.renL, rn]) (by simp [AV.belL, AV.bel]) (WK.now ?_)
 cases ht : totS c p n lv with
 | none =>
  simp only [Cs, totD, push_cast, simprocAttr, fP, pL]
  refine WK.now ?_
  simp only [fitB, push_cast, simprocAttr, fP, pL]
  first | done | exact ⟨_, rfl⟩ | exact ⟨rfl, _, rfl⟩
 | some x =>
  obtain ⟨o, cap⟩ := x
  cases o with
  | none =>
   simp only [Cs, totD, sumR, push_cast, simprocAttr, fP, pL]
   refine WK.now ?_
   simp only [fitB, push_cast, simprocAttr, fP, pL]
   first | done | exact ⟨_, rfl⟩ | exact ⟨rfl, _, rfl⟩
  | some s =>
   obtain ⟨g1, g2, g3, g4⟩ := tot_good h ht
   simp only [Cs, totD, sumR, push_cast, simprocAttr, fP, pL]
   refine (vfits_ok s cap g1 g2 g4).go (by first | exact ⟨.inl rfl, trivial⟩ | exact ⟨.inl rfl, .inl rfl, trivial⟩ | exact ⟨.inl rfl, .inl rfl, .inl rfl, trivial⟩ | simp [argsOk, argOk, sl, sll]) (WK.now ?_)
   simp only [push_cast, simprocAttr, fP, pL]
   refine WK.now ?_
   simp only [fitB, push_cast, simprocAttr, fP, pL]
   first | done | exact ⟨_, rfl⟩ | exact ⟨rfl, _, rfl⟩
end Go.Proofs.YtmeicgbddgeeoaaGreatDoor
end
section
set_option autoImplicit false
set_option linter.unusedVariables false
set_option linter.unusedSimpArgs false
namespace Go.Proofs.YtmeicgbddgeeoaaGreatDoor
open Go.Abs
theorem rsees15_ok (p q : Pod) (n : Int) : PCall env 173 [fP p, fP q, .int .i64 n] (.bool (B (SeesP p q n))) := by
 refine acalls_of envOk Tryz.func173 rfl (by kernel_rfl) (m := 25) rfl ?_
 by_cases h1 : q.1.ph = 2
 ·have e1 : (q.1.ph != 2) = false := by simpa using h1
  by_cases h2 : q.1.nd = n
  ·have e2 : (q.1.nd != n) = false := by simpa using h2
   by_cases h3 : p.1.id = q.1.id
   ·have e3 : (p.1.id != q.1.id) = false := by simpa using h3
    simp only [e1, e2, e3, push_cast, simprocAttr, fP, pL]
    refine WK.now ?_
    simp only [push_cast, simprocAttr, fP, pL]
    rw [B_false fun h => h.2.2.1 h3.symm]
   ·have e3 : (p.1.id != q.1.id) = true := by simpa using h3
    simp only [e1, e2, e3, push_cast, simprocAttr, fP, pL]
    refine WK.now ?_
    simp only [push_cast, simprocAttr, fP, pL]
    by_cases h4 : p.1.pr ≤ q.1.pr
    ·rw [B_true ⟨h1, h2, fun e => h3 e.symm, h4⟩, decide_eq_true h4]
    ·rw [B_false fun h => h4 h.2.2.2, decide_eq_false h4]
  ·have e2 : (q.1.nd != n) = true := by simpa using h2
   simp only [e1, e2, push_cast, simprocAttr, fP, pL]
   refine WK.now ?_
   simp only [push_cast, simprocAttr, fP, pL]
   rw [B_false fun h => h2 h.2.1]
 ·have e1 : (q.1.ph != 2) = true := by simpa using h1
  simp only [e1, push_cast, simprocAttr, fP, pL]
  refine WK.now ?_
  simp only [push_cast, simprocAttr, fP, pL]
  rw [B_false fun h => h1 h.1]
noncomputable def seenP (P : List Pod) (p : Pod) (n : Int) : List Pod := P.filter fun q => B (SeesP p q n)
theorem seen_snoc (p : Pod) (n : Int) {P : List Pod} {i : Nat} (h : i < P.length) : seenP (P.take (i + 1)) p n = seenP (P.take i) p n ++ (if B (SeesP p (P.getD i pz) n) = true then [P.getD i pz] else []) := by
 unfold seenP
 rw [List.take_add_one, List.filter_append, List.getElem?_eq_getElem h, List.getD_eq_getElem?_getD, List.getElem?_eq_getElem h, Option.toList_some, Option.getD_some]
 cases hf : B (SeesP p P[i] n) <;> simp [hf]
noncomputable def Rv (w : Rc) : AObj := .var [.d (.int .i64 w.d), .d (.slice 2 (nds w.nodes)), .d (.slice 9 (pods w.pods))]
set_option maxRecDepth 8000 in
theorem rpods15_ok (w : Rc) (p : Pod) (n : Int) (hl : w.pods.length ≤ 65536) : PCall env 144 [fRc w, fP p, .int .i64 n] (.slice 9 (pods (seenP w.pods p n))) := by
 unfold fRc
 refine acalls_of envOk Tryz.func144 rfl (by kernel_rfl) (m := 30) rfl ?_
 simp only [push_cast, simprocAttr, fP, pL]
 refine ALoop.mk (fun k t H ds => ∃ i : Nat, k = w.pods.length - i ∧ i ≤ w.pods.length ∧ t = (.x :: .x :: .d (.int .i64 n) :: .pvar 0 0 :: .pvar 1 0 :: .x :: .x :: .sfull 2 :: .d (.int .i64 (i : Nat)) :: xs24) ∧ H = [Rv w, PV p, .arr 26 9 (pods (seenP (w.pods.take i) p n))] ∧ ds = []) w.pods.length
  (WK.nil 7 26 9 rfl (WK.fgt (t' := (.x :: .x :: .d (.int .i64 n) :: .pvar 0 0 :: .pvar 1 0 :: .x :: .x :: .sfull 2 :: .d (.int .i64 (0 : Nat)) :: xs24)) (by simp [fgt]) (WK.now ⟨0, by omega, by omega, rfl, by simp [seenP, Rv, PV, pL, pods], rfl⟩))) ?_
 rintro k t H ds ⟨i, rfl, hi, rfl, rfl, rfl⟩
 simp only [Rv, PV, push_cast, simprocAttr, fP, pL]
 refine Kbr.mk (fun c => ?_) (fun c => ?_)
 ·have c2 : i < w.pods.length := by simpa using c
  have hsn := seen_snoc p n c2
  have si := succ64 c2 (show w.pods.length ≤ 4611686018427387904 by omega)
  have hsl : (seenP (w.pods.take i) p n).length ≤ 65536 := by
   refine Nat.le_trans (List.length_filter_le _ _) ?_
   simp; omega
  simp only [c2, push_cast, simprocAttr, fP, pL]
  refine DRegL.det [] [0, 1, 2, 3, 4, 5, 6, 7] [] (by kernel_rfl) (by kernel_rfl) (by kernel_rfl) ?_
  simp only [c2, seg_pods, push_cast, simprocAttr, fP, pL]
  refine (rsees15_ok p (w.pods.getD i pz) n).quiet' (by first | exact ⟨.inl rfl, trivial⟩ | exact ⟨.inl rfl, .inl rfl, trivial⟩ | exact ⟨.inl rfl, .inl rfl, .inl rfl, trivial⟩ | simp [argsOk, argOk, sl, sll]) ?_
  cases hb : B (SeesP p (w.pods.getD i pz) n) with
  | false =>
   rw [hb, if_neg (by simp), List.append_nil] at hsn
   simp only [si, push_cast, simprocAttr, fP, pL]
   exact ⟨w.pods.length - (i + 1), by omega, WK.fgt (t' := (.x :: .x :: .d (.int .i64 n) :: .pvar 0 0 :: .pvar 1 0 :: .x :: .x :: .sfull 2 :: .d (.int .i64 (i + 1 : Nat)) :: xs24)) (by simp [fgt]) (WK.now ⟨i + 1, rfl, by omega, rfl, by rw [hsn], rfl⟩)⟩
  | true =>
   rw [hb, if_pos rfl] at hsn
   simp only [c2, seg_pods, si, push_cast, simprocAttr, fP, pL]
   refine ⟨room_of (by simp [pods_length]; omega) (by omega), w.pods.length - (i + 1), by omega, WK.fgt (t' := (.x :: .x :: .d (.int .i64 n) :: .pvar 0 0 :: .pvar 1 0 :: .x :: .x :: .sfull 3 :: .d (.int .i64 (i + 1 : Nat)) :: xs24)) (by simp [fgt]) (WK.pick [0, 1, 3] (t' := (.x :: .x :: .d (.int .i64 n) :: .pvar 0 0 :: .pvar 1 0 :: .x :: .x :: .sfull 2 :: .d (.int .i64 (i + 1 : Nat)) :: xs24)) (H' := [Rv w, PV p, .arr 26 9 (pods (seenP (w.pods.take i) p n) ++ [pL (w.pods.getD i pz)])])
    (by simp [Rv, PV, pL, sbl, ren_none, ren_var, ren_arr, bel_none, bel_var, bel_arr, AV.renL, AV.ren, AV.belL, AV.bel, rn]) (by simp) (by simp) (by simp [tellL, AV.ren, AV.renL, AV.bel, AV.belL, rn]) (by simp) (WK.now ⟨i + 1, rfl, by omega, rfl, by rw [hsn, ← pods_snoc]; rfl, rfl⟩))⟩
 ·have c2 : ¬ i < w.pods.length := by simpa using c
  have e : w.pods.take i = w.pods := List.take_of_length_le (by omega)
  rw [e]
  simp only [push_cast, simprocAttr, fP, pL]
  refine WK.frz 2 rfl (WK.now ?_)
  simp only [push_cast, simprocAttr, fP, pL]
def reqV (l : List Pod) (k : Nat) : Int := (l.map fun q => q.2.getD k 0).sum
theorem reqV_col (l : List Pod) (k : Nat) : colV (reqs l) k = reqV l k := by
 unfold colV reqs reqV
 rw [List.map_map]
 rfl
theorem reqV_snoc (l : List Pod) (q : Pod) (k : Nat) : reqV (l ++ [q]) k = reqV l k + q.2.getD k 0 := by simp [reqV, List.sum_append]
theorem reqV_take {l : List Pod} {i : Nat} (k : Nat) (h : i < l.length) : reqV (l.take (i + 1)) k = reqV (l.take i) k + (l.getD i pz).2.getD k 0 := by
 rw [List.take_add_one, List.getElem?_eq_getElem h, Option.toList_some, reqV_snoc, List.getD_eq_getElem?_getD (l := l), List.getElem?_eq_getElem h]; rfl
theorem reqV_bd (k : Nat) : ∀ (l : List Pod), (∀ q ∈ l, GoodV q.2) → 0 ≤ reqV l k ∧ reqV l k ≤ 1099511627776 * (l.length : Int)
 | [], _ => by simp [reqV]
 | q :: l, h => by
  have h1 := reqV_bd k l fun x hx => h x (by simp [hx])
  have h2 := (h q (by simp)).at k
  simp only [reqV, List.map_cons, List.sum_cons, List.length_cons] at h1 ⊢
  omega
def two (l : List Pod) : List Int := [reqV l 0, reqV l 1]
set_option maxRecDepth 8000 in
theorem rsum15_ok (w : Rc) (p : Pod) (n : Int) (h : RcOk w) (hl : w.pods.length ≤ 65536) : PCall env 102 [fRc w, fP p, .int .i64 n] (sl (two (seenP w.pods p n))) := by
 have hpods := rpods15_ok w p n hl
 obtain ⟨d, nodes, P⟩ := w
 obtain rfl : d = 2 := h.d
 have hgl : ∀ q ∈ seenP P p n, GoodV q.2 := fun q hq => h.gp q (List.mem_filter.1 hq).1
 have hll : (seenP P p n).length ≤ 65536 := Nat.le_trans (List.length_filter_le _ _) hl
 obtain ⟨l, hl'⟩ : ∃ l, l = seenP P p n := ⟨_, rfl⟩
 have hpods : PCall env 144 [fRc ⟨2, nodes, P⟩, fP p, .int .i64 n] (.slice 9 (pods l)) := by rw [hl']; exact hpods
 show PCall env 102 _ (sl (two (seenP P p n)))
 rw [← hl'] at hgl hll ⊢
 unfold fRc at hpods ⊢
 refine acalls_of envOk Tryz.func102 rfl (by kernel_rfl) (m := 45) rfl ?_
 simp only [push_cast, simprocAttr, fP, pL]
 refine ⟨by omega, room_of (by omega) (by omega), ?_⟩
 refine hpods.go (by first | exact ⟨.inl rfl, trivial⟩ | exact ⟨.inl rfl, .inl rfl, trivial⟩ | exact ⟨.inl rfl, .inl rfl, .inl rfl, trivial⟩ | simp [argsOk, argOk, sl, sll]) (WK.now ?_)
 simp only [push_cast, simprocAttr, fP, pL]
 refine ALoop.mk (fun k t H ds => ∃ i : Nat, k = l.length - i ∧ i ≤ l.length ∧ t = (.x :: .x :: .x :: .x :: .x :: .x :: .x :: .sfull 2 :: .d (.slice 9 (pods l)) :: .d (.int .i64 (i : Nat)) :: xs38) ∧ H = [Rv ⟨2, nodes, P⟩, PV p, .arr 2 1 (ints (two (l.take i)))] ∧ ds = []) l.length
  (WK.fgt (t' := (.x :: .x :: .x :: .x :: .x :: .x :: .x :: .sfull 2 :: .d (.slice 9 (pods l)) :: .d (.int .i64 (0 : Nat)) :: xs38)) (by simp [fgt]) (WK.now ⟨0, by omega, by omega, rfl, by simp [two, reqV, ints, Rv, PV, pL]; rfl, rfl⟩)) ?_
 rintro k t H ds ⟨i, rfl, hi, rfl, rfl, rfl⟩
 simp only [Rv, PV, push_cast, simprocAttr, fP, pL]
 refine Kbr.mk (fun c => ?_) (fun c => ?_)
 ·have c2 : i < l.length := by simpa using c
  obtain ⟨q, hq⟩ : ∃ q, q = l.getD i pz := ⟨_, rfl⟩
  have hgi : GoodV q.2 := hgl _ (by rw [hq]; rw [List.getD_eq_getElem?_getD, List.getElem?_eq_getElem c2]; exact List.getElem_mem c2)
  have b0 := reqV_bd 0 (l.take i) fun q hq => hgl q (List.mem_of_mem_take hq)
  have b1 := reqV_bd 1 (l.take i) fun q hq => hgl q (List.mem_of_mem_take hq)
  have tl : (l.take i).length ≤ 65536 := by rw [List.length_take]; omega
  simp only [c2, push_cast, simprocAttr, fP, pL]
  refine ALoop.mk (fun k t H ds => ∃ m : Nat, k = 2 - m ∧ m ≤ 2 ∧ t = (.x :: .x :: .x :: .x :: .x :: .x :: .x :: .sfull 2 :: .d (.slice 9 (pods l)) :: .d (.int .i64 (i : Nat)) :: .d (.int .i64 (m : Nat)) :: xs37) ∧ H = [Rv ⟨2, nodes, P⟩, PV p, .arr 2 1 (ints (part (reqV (l.take i) 0) (reqV (l.take i) 1) q.2 m))] ∧ ds = []) 2
   (WK.fgt (t' := (.x :: .x :: .x :: .x :: .x :: .x :: .x :: .sfull 2 :: .d (.slice 9 (pods l)) :: .d (.int .i64 (i : Nat)) :: .d (.int .i64 (0 : Nat)) :: xs37)) (by simp [fgt]) (WK.now ⟨0, by omega, by omega, rfl, by simp [part, two, Rv, PV, pL], rfl⟩)) ?_
  rintro k t H ds ⟨m, rfl, hm, rfl, rfl, rfl⟩
  have h3 : m = 0 ∨ m = 1 ∨ m = 2 := by omega
  have hq2 := hgi.1
  have l0 := hgi.at 0
  have l1 := hgi.at 1
  have hpl : (part (reqV (l.take i) 0) (reqV (l.take i) 1) q.2 m).length = 2 := rfl
  rcases h3 with rfl | rfl | rfl
  ·have w0 : IntKind.wrap .i64 ((part (reqV (l.take i) 0) (reqV (l.take i) 1) q.2 0).getD 0 0 + q.2.getD 0 0) = (part (reqV (l.take i) 0) (reqV (l.take i) 1) q.2 0).getD 0 0 + q.2.getD 0 0 := by
    have e : (part (reqV (l.take i) 0) (reqV (l.take i) 1) q.2 0).getD 0 0 = reqV (l.take i) 0 := by simp [part]
    rw [e, wrapi (by omega) (by omega)]
   have w1 : IntKind.wrap .i64 1 = ((1 : Nat) : Int) := rfl
   simp only [Rv, PV, hpl, hq2, push_cast, simprocAttr, fP, pL]
   refine DRegL.det [16] [0, 1, 2, 3, 4, 5, 6, 7, 8, 9, 10, 11, 12, 13, 14, 15] [(16, [], [])] (by kernel_rfl) (by kernel_rfl) (by kernel_rfl) ?_
   simp only [c2, cel_req, ← hq, hpl, hq2, cel_ints, w0, w1, part_step0, push_cast, simprocAttr, pods_length, nds_length, fP, pL]
   exact ⟨1, by omega, WK.fgt (t' := (.x :: .x :: .x :: .x :: .x :: .x :: .x :: .sfull 2 :: .d (.slice 9 (pods l)) :: .d (.int .i64 (i : Nat)) :: .d (.int .i64 (1 : Nat)) :: xs37)) (by simp [fgt]) (WK.now ⟨1, by omega, by omega, rfl, rfl, rfl⟩)⟩
  ·have w0 : IntKind.wrap .i64 ((part (reqV (l.take i) 0) (reqV (l.take i) 1) q.2 1).getD 1 0 + q.2.getD 1 0) = (part (reqV (l.take i) 0) (reqV (l.take i) 1) q.2 1).getD 1 0 + q.2.getD 1 0 := by
    have e : (part (reqV (l.take i) 0) (reqV (l.take i) 1) q.2 1).getD 1 0 = reqV (l.take i) 1 := by simp [part]
    rw [e, wrapi (by omega) (by omega)]
   have w1 : IntKind.wrap .i64 2 = ((2 : Nat) : Int) := rfl
   simp only [Rv, PV, hpl, hq2, push_cast, simprocAttr, fP, pL]
   refine DRegL.det [16] [0, 1, 2, 3, 4, 5, 6, 7, 8, 9, 10, 11, 12, 13, 14, 15] [(16, [], [])] (by kernel_rfl) (by kernel_rfl) (by kernel_rfl) ?_
   simp only [c2, cel_req, ← hq, hpl, hq2, cel_ints, w0, w1, part_step1, push_cast, simprocAttr, pods_length, nds_length, fP, pL]
   exact ⟨0, by omega, WK.fgt (t' := (.x :: .x :: .x :: .x :: .x :: .x :: .x :: .sfull 2 :: .d (.slice 9 (pods l)) :: .d (.int .i64 (i : Nat)) :: .d (.int .i64 (2 : Nat)) :: xs37)) (by simp [fgt]) (WK.now ⟨2, by omega, by omega, rfl, rfl, rfl⟩)⟩
  ·simp only [Rv, PV, hpl, hq2, succ64 c2 (show l.length ≤ 4611686018427387904 by omega), push_cast, simprocAttr, pods_length, nds_length, fP, pL]
   have hfin : part (reqV (l.take i) 0) (reqV (l.take i) 1) q.2 2 = two (l.take (i + 1)) := by
    unfold two
    rw [reqV_take 0 c2, reqV_take 1 c2, ← hq]; simp [part]
   exact ⟨l.length - (i + 1), by omega, WK.fgt (t' := (.x :: .x :: .x :: .x :: .x :: .x :: .x :: .sfull 2 :: .d (.slice 9 (pods l)) :: .d (.int .i64 (i + 1 : Nat)) :: xs38)) (by simp [fgt]) (WK.now ⟨i + 1, rfl, by omega, rfl, by rw [hfin], rfl⟩)⟩
 ·have c2 : ¬ i < l.length := by simpa using c
  have e : l.take i = l := List.take_of_length_le (by omega)
  rw [e]
  simp only [push_cast, simprocAttr, fP, pL]
  refine WK.frz 2 rfl (WK.now ?_)
  simp only [push_cast, simprocAttr, fP, pL]
end Go.Proofs.YtmeicgbddgeeoaaGreatDoor
end
section
set_option autoImplicit false
set_option linter.unusedVariables false
set_option linter.unusedSimpArgs false
namespace Go.Proofs.YtmeicgbddgeeoaaGreatDoor
open Go.Abs
def heldP (P : List Pod) (n : Int) (wo : List Int) : List Pod := (P.filter (onP n)).filter (takes wo)
noncomputable def loadV (w : Rc) (p : Pod) (n : Int) (wo : List Int) : List Int :=
 if (findN w.nodes n).isSome then [reqV (seenP w.pods p n) 0 + reqV (heldP w.pods n wo) 0, reqV (seenP w.pods p n) 1 + reqV (heldP w.pods n wo) 1] else [0, 0]
theorem reqV_filter (f : Pod → Bool) (k : Nat) : ∀ l : List Pod, reqV (l.filter f) k = (l.map fun q => if f q = true then q.2.getD k 0 else 0).sum
 | [] => rfl
 | q :: l => by
  have ih := reqV_filter f k l
  rw [List.filter_cons]
  cases hf : f q with
  | true => simp only [reqV, hf, if_true, List.map_cons, List.sum_cons] at ih ⊢; rw [ih]
  | false =>
   rw [if_neg (by simp), ih, List.map_cons, List.sum_cons, hf]
   simp
theorem held_iff {n : Int} {wo : List Int} {q : Pod} : (takes wo q && onP n q) = true ↔ q.1.nd = n ∧ holdsP q.1.ph ∧ q.1.id ∉ wo := by
 rw [Bool.and_eq_true, onP_iff]
 unfold takes
 rw [Bool.and_eq_true, decide_eq_true_iff]
 constructor
 ·rintro ⟨⟨h1, h2⟩, h3, h4⟩
  exact ⟨h3, h1, by simpa using h2⟩
 ·rintro ⟨h1, h2, h3⟩
  exact ⟨⟨h2, by simpa using h3⟩, h1, .inr h2⟩
theorem heldV_sum (P : List Pod) (n : Int) (wo : List Int) (k : Nat) : reqV (heldP P n wo) k = (P.map fun q => if q.1.nd = n ∧ holdsP q.1.ph ∧ q.1.id ∉ wo then q.2.getD k 0 else 0).sum := by
 unfold heldP
 rw [List.filter_filter, reqV_filter]
 congr 1
 refine List.map_congr_left fun q _ => ?_
 by_cases h : q.1.nd = n ∧ holdsP q.1.ph ∧ q.1.id ∉ wo
 ·rw [if_pos h, if_pos (held_iff.2 h)]
 ·rw [if_neg h, if_neg fun h' => h (held_iff.1 h')]
theorem use_held (k : Nat) (n : Int) (wo : List Int) : ∀ P : List Pod, useAt k (P.filter fun q => !decide (q.1.id ∈ wo)) n = reqV (heldP P n wo) k := fun P => by
 rw [heldV_sum]
 induction P with
 | nil => rfl
 | cons q P ih =>
  rw [List.filter_cons, List.map_cons, List.sum_cons, ← ih]
  by_cases hm : q.1.id ∈ wo
  ·rw [decide_eq_true hm, if_neg (by simp), if_neg fun h => h.2.2 hm]; omega
  ·rw [decide_eq_false hm, if_pos (by simp)]
   show ((List.map _ (q :: _)).sum : Int) = _
   rw [List.map_cons, List.sum_cons]
   unfold share
   by_cases h : q.1.nd = n ∧ holdsP q.1.ph
   ·rw [if_pos h, if_pos ⟨h.1, h.2, hm⟩]; rfl
   ·rw [if_neg h, if_neg fun h' => h ⟨h'.1, h'.2.1⟩]; rfl
theorem zrow_two : zrow 2 = [0, 0] := rfl
section
variable {c : Cl} {w : Rc}
theorem seen_bd (h : RC c w) (p : Pod) (n : Int) (k : Nat) : 0 ≤ reqV (seenP w.pods p n) k ∧ reqV (seenP w.pods p n) k ≤ 72057594037927936 := by
 have h1 := reqV_bd k (seenP w.pods p n) fun q hq => h.gp q (List.mem_filter.1 hq).1
 have h2 : (seenP w.pods p n).length ≤ w.pods.length := List.length_filter_le _ _
 have := h.len
 omega
theorem held_bd (h : RC c w) (n : Int) (wo : List Int) (k : Nat) : 0 ≤ reqV (heldP w.pods n wo) k ∧ reqV (heldP w.pods n wo) k ≤ 72057594037927936 := by
 have h1 := reqV_bd k (heldP w.pods n wo) fun q hq => h.gp q (List.mem_filter.1 (List.mem_filter.1 hq).1).1
 have h2 : (heldP w.pods n wo).length ≤ w.pods.length := Nat.le_trans (List.length_filter_le _ _) (List.length_filter_le _ _)
 have := h.len
 omega
theorem load_bd (h : RC c w) (p : Pod) (n : Int) (wo : List Int) (k : Nat) : 0 ≤ (loadV w p n wo).getD k 0 ∧ (loadV w p n wo).getD k 0 ≤ 144115188075855872 := by
 unfold loadV
 have a0 := seen_bd h p n 0
 have a1 := seen_bd h p n 1
 have b0 := held_bd h n wo 0
 have b1 := held_bd h n wo 1
 split
 ·match k with
  | 0 => show 0 ≤ reqV _ 0 + _ ∧ reqV _ 0 + _ ≤ _; omega
  | 1 => show 0 ≤ reqV _ 1 + _ ∧ reqV _ 1 + _ ≤ _; omega
  | k + 2 => simp
 ·match k with
  | 0 => simp
  | 1 => simp
  | k + 2 => simp
theorem load_len (w : Rc) (p : Pod) (n : Int) (wo : List Int) : (loadV w p n wo).length = 2 := by
 unfold loadV
 split <;> rfl
theorem load_inR (h : RC c w) (p : Pod) (n : Int) (wo : List Int) : InR (loadV w p n wo) := fun k => by
 have := load_bd h p n wo k
 unfold I64; omega
theorem RC.ld (h : RC c w) (p : Pod) (n : Int) (wo : List Int) (hwo : wo.length ≤ 4611686018427387904) : LdOk c p n wo (loadV w p n wo) := by
 have hd := h.d1
 have hgs : ∀ q ∈ seenP w.pods p n, GoodV q.2 := fun q hq => h.gp q (List.mem_filter.1 hq).1
 have hgh : ∀ q ∈ heldP w.pods n wo, GoodV q.2 := fun q hq => h.gp q (List.mem_filter.1 (List.mem_filter.1 hq).1).1
 have a := seen_bd h p n
 have b := held_bd h n wo
 have hsum : addS (zrow c.d :: reqs (seenL c p n)) = some (two (seenP w.pods p n)) := by
  rw [hd, zrow_two, h.seen]
  rw [addS_rows (d := 2) (by simp) (fun v hv => by
   rcases List.mem_cons.1 hv with rfl | hv
   ·rfl
   ·obtain ⟨q, hq, rfl⟩ := List.mem_map.1 hv
    exact (hgs q hq).1) (fun k hk => by
   rw [colV_cons, reqV_col]
   have e : ([0, 0] : List Int).getD k 0 = 0 := colV_zero 2 k
   have := a k
   unfold seenP at this
   rw [e]; unfold I64; omega)]
  show some [colV _ 0, colV _ 1] = _
  rw [colV_cons, colV_cons, reqV_col, reqV_col]
  show some [0 + reqV (seenP w.pods p n) 0, 0 + reqV (seenP w.pods p n) 1] = _
  rw [Int.zero_add, Int.zero_add]
  rfl
 have hnode : (lget c.N n).isSome = (findN w.nodes n).isSome := by rw [h.getN]; cases findN w.nodes n <;> rfl
 refine ⟨h.ok, h.len65, hwo, ⟨two (seenP w.pods p n), hsum, by unfold Sz two; simp, inR_of fun x hx => ?_, ?_⟩, by unfold Sz; rw [load_len]; omega, load_inR h p n wo, fun hn q hq => ?_⟩
 ·have a0 := a 0
  have a1 := a 1
  unfold two at hx
  simp only [List.mem_cons, List.not_mem_nil, or_false] at hx
  rcases hx with rfl | rfl <;> unfold I64 <;> omega
 ·unfold loadR loadV
  rw [hnode]
  cases (findN w.nodes n).isSome with
  | false =>
   simp only [Bool.false_eq_true, if_false]
   rw [hd, zrow_two, addS_rows (d := 2) (by simp) (fun v hv => by rw [List.mem_singleton.1 hv]; rfl) (fun k hk => by
    rw [colV_cons, colV_nil, show ([0, 0] : List Int).getD k 0 = 0 from colV_zero 2 k]; unfold I64; omega)]
   rfl
  | true =>
   simp only [if_true]
   have hh : heldL c n wo = heldP w.pods n wo := by unfold heldL heldP; rw [h.listed]
   rw [hh, hd, zrow_two, addS_rows (d := 2) (by simp) (fun v hv => by
    rcases List.mem_cons.1 hv with rfl | hv
    ·rfl
    ·rcases List.mem_cons.1 hv with rfl | hv
     ·rfl
     ·obtain ⟨q, hq, rfl⟩ := List.mem_map.1 hv
      exact (hgh q hq).1) (fun k hk => by
    rw [colV_cons, colV_cons, reqV_col, show ([0, 0] : List Int).getD k 0 = 0 from colV_zero 2 k]
    have hk2 : k = 0 ∨ k = 1 := by omega
    have a0 := a 0
    have a1 := a 1
    have b0 := b 0
    have b1 := b 1
    rcases hk2 with rfl | rfl
    ·show I64 (0 + (reqV _ 0 + _)); unfold I64; omega
    ·show I64 (0 + (reqV _ 1 + _)); unfold I64; omega)]
   show some [colV _ 0, colV _ 1] = _
   rw [colV_cons, colV_cons, reqV_col, colV_cons, colV_cons, reqV_col]
   show some [0 + (reqV (seenP w.pods p n) 0 + _), 0 + (reqV (seenP w.pods p n) 1 + _)] = _
   rw [Int.zero_add, Int.zero_add]
 ·rw [h.listed] at hq
  obtain ⟨hq, ho⟩ := List.mem_filter.1 hq
  have ho := onP_iff.1 ho
  cases ht : takes wo q with
  | false => rfl
  | true =>
   have hh := takes_yes ht
   have hh1 : holdsP q.1.ph := of_decide_eq_true hh.1
   have hm := h.at_ q hq hh1
   rw [ho.1] at hm
   obtain ⟨m, hm1, hm2⟩ := List.mem_map.1 hm
   have : (lget c.N n).isSome = true := by
    rw [hnode]
    unfold findN
    rw [List.find?_isSome]
    exact ⟨m, hm1, by simpa using hm2⟩
   rw [hn] at this
   cases this
theorem RC.tot (h : RC c w) (p : Pod) (n : Int) (wo : List Int) : totS c p n (loadV w p n wo) = match findN w.nodes n with
  | none => none
  | some m => if 0 ≤ wrongS p.2 2 then none else some (some (List.zipWith (· + ·) (loadV w p n wo) p.2), m.2) := by
 unfold totS
 rw [h.getN, h.d1]
 cases hf : findN w.nodes n with
 | none => rfl
 | some m =>
  dsimp only [Option.map_some]
  by_cases hw : 0 ≤ wrongS p.2 2
  ·rw [if_pos hw, if_pos hw]
  ·rw [if_neg hw, if_neg hw]
   have hg := goodV_of hw
   rw [addS_two (by rw [load_len, hg.1]) (fun k hk => by
    have a := load_bd h p n wo k
    have b := hg.at k
    unfold I64; omega)]
end
end Go.Proofs.YtmeicgbddgeeoaaGreatDoor
end
section
set_option autoImplicit false
set_option linter.unusedVariables false
set_option linter.unusedSimpArgs false
namespace Go.Proofs.YtmeicgbddgeeoaaGreatDoor
open Go.Abs
def wof (wo : List Int) (q : Pod) : Bool := !decide (q.1.id ∈ wo)
noncomputable def Ro (w : Rc) (p : Pod) (l : List Pod) : List AObj := [Rv w, PV p, .var [.d (.int .i64 w.d), .d (.slice 2 (nds w.nodes)), .sfull 3], .arr 26 9 (pods l)]
set_option maxRecDepth 8000 in
set_option maxHeartbeats 1000000 in
theorem rof16_ok (w : Rc) (p : Pod) (n : Int) (wo : List Int) (h : RcOk w) (hl : w.pods.length ≤ 65536) (hwo : wo.length ≤ 4611686018427387904) :
  PCall env 63 [fRc w, fP p, .int .i64 n, .slice 1 (ints wo)] (sl (loadV w p n wo)) := by
 have hfind := find14_ok w n h.nn
 have hd := h.d
 have hused := used14_ok { w with pods := w.pods.filter (wof wo) } n h.d (by have := List.length_filter_le (wof wo) w.pods; show (w.pods.filter (wof wo)).length ≤ 1000000; omega) (fun q hq => h.gp q (List.mem_filter.1 hq).1)
 have hsum := rsum15_ok w p n h hl
 unfold fRc at hfind hused hsum ⊢
 refine acalls_of envOk Tryz.func63 rfl (by kernel_rfl) (m := 58) rfl ?_
 simp only [push_cast, simprocAttr, fP, pL]
 refine ALoop.mk (fun k t H ds => ∃ i : Nat, k = w.pods.length - i ∧ i ≤ w.pods.length ∧ t = (.x :: .x :: .d (.int .i64 n) :: .d (.slice 1 (ints wo)) :: .pvar 0 0 :: .pvar 1 0 :: .x :: .x :: .x :: .pvar 2 0 :: .d (.int .i64 (i : Nat)) :: xs51) ∧ H = Ro w p ((w.pods.take i).filter (wof wo)) ∧ ds = []) w.pods.length
  (WK.nilfld 2 2 26 9 rfl rfl (WK.fgt (t' := (.x :: .x :: .d (.int .i64 n) :: .d (.slice 1 (ints wo)) :: .pvar 0 0 :: .pvar 1 0 :: .x :: .x :: .x :: .pvar 2 0 :: .d (.int .i64 (0 : Nat)) :: xs51)) (by simp [fgt]) (WK.now ⟨0, by omega, by omega, rfl, by simp [Ro, Rv, PV, pL, pods], rfl⟩))) ?_
 rintro k t H ds ⟨i, rfl, hi, rfl, rfl, rfl⟩
 simp only [Ro, Rv, PV, push_cast, simprocAttr, fP, pL]
 refine Kbr.mk (fun c => ?_) (fun c => ?_)
 ·have c2 : i < w.pods.length := by simpa using c
  have hsn := filt_snoc (wof wo) c2
  have si := succ64 c2 (show w.pods.length ≤ 4611686018427387904 by omega)
  have hsl : ((w.pods.take i).filter (wof wo)).length ≤ 65536 := by
   refine Nat.le_trans (List.length_filter_le _ _) ?_
   simp; omega
  simp only [c2, cel_id, push_cast, simprocAttr, fP, pL]
  refine (has16_ok wo (w.pods.getD i pz).1.id hwo).go (by first | exact ⟨.inl rfl, trivial⟩ | exact ⟨.inl rfl, .inl rfl, trivial⟩ | exact ⟨.inl rfl, .inl rfl, .inl rfl, trivial⟩ | simp [argsOk, argOk, sl, sll]) (WK.now ?_)
  cases hb : decide ((w.pods.getD i pz).1.id ∈ wo) with
  | true =>
   have hwf : wof wo (w.pods.getD i pz) = false := by unfold wof; rw [hb]; rfl
   rw [hwf, if_neg (by simp), List.append_nil] at hsn
   simp only [si, push_cast, simprocAttr, fP, pL]
   exact ⟨w.pods.length - (i + 1), by omega, WK.fgt (t' := (.x :: .x :: .d (.int .i64 n) :: .d (.slice 1 (ints wo)) :: .pvar 0 0 :: .pvar 1 0 :: .x :: .x :: .x :: .pvar 2 0 :: .d (.int .i64 (i + 1 : Nat)) :: xs51)) (by simp [fgt]) (WK.now ⟨i + 1, rfl, by omega, rfl, by rw [hsn], rfl⟩)⟩
  | false =>
   have hwf : wof wo (w.pods.getD i pz) = true := by unfold wof; rw [hb]; rfl
   rw [hwf, if_pos rfl] at hsn
   simp only [push_cast, simprocAttr, fP, pL]
   refine DRegL.det [8, 10] [0, 1, 2, 3, 4, 5, 6, 7] [(8, [], [9]), (10, [], [])] (by kernel_rfl) (by kernel_rfl) (by kernel_rfl) ?_
   simp only [c2, seg_pods, si, push_cast, simprocAttr, fP, pL]
   refine ⟨room_of (by simp [pods_length]; omega) (by omega), w.pods.length - (i + 1), by omega, WK.fgt (t' := (.x :: .x :: .d (.int .i64 n) :: .d (.slice 1 (ints wo)) :: .pvar 0 0 :: .pvar 1 0 :: .x :: .x :: .x :: .pvar 2 0 :: .d (.int .i64 (i + 1 : Nat)) :: xs51)) (by simp [fgt]) (WK.pick [0, 1, 2, 4] (t' := (.x :: .x :: .d (.int .i64 n) :: .d (.slice 1 (ints wo)) :: .pvar 0 0 :: .pvar 1 0 :: .x :: .x :: .x :: .pvar 2 0 :: .d (.int .i64 (i + 1 : Nat)) :: xs51)) (H' := Ro w p ((w.pods.take i).filter (wof wo) ++ [w.pods.getD i pz]))
    (by simp [Ro, Rv, PV, pL, ← pods_snoc, sbl, ren_none, ren_var, ren_arr, bel_none, bel_var, bel_arr, AV.renL, AV.ren, AV.belL, AV.bel, rn]) (by simp) (by simp) (by simp [tellL, AV.ren, AV.renL, AV.bel, AV.belL, rn]) (by simp) (WK.now ⟨i + 1, rfl, by omega, rfl, by rw [hsn]; rfl, rfl⟩))⟩
 ·have c2 : ¬ i < w.pods.length := by simpa using c
  have e : w.pods.take i = w.pods := List.take_of_length_le (by omega)
  rw [e]
  simp only [push_cast, simprocAttr, fP, pL]
  refine hfind.go (by first | exact ⟨.inl rfl, trivial⟩ | exact ⟨.inl rfl, .inl rfl, trivial⟩ | exact ⟨.inl rfl, .inl rfl, .inl rfl, trivial⟩ | simp [argsOk, argOk, sl, sll]) (WK.frz 3 rfl (WK.now ?_))
  rcases findN_idx w.nodes n with ⟨hn, hx⟩ | ⟨j, hj, hjl, hn⟩
  ·simp only [hx, hd, show decide ((-1 : Int) < 0) = true from rfl, push_cast, simprocAttr, pods_length, nds_length, fP, pL]
   refine ⟨by omega, room_of (by omega) (by omega), ?_⟩
   refine WK.frz 4 rfl (WK.now ?_)
   simp only [loadV, hn, Option.isSome_none, push_cast, simprocAttr, pods_length, nds_length, fP, pL]
   rfl
  ·have hb : decide ((j : Int) < 0) = false := decide_eq_false (by omega)
   simp only [hj, hb, push_cast, simprocAttr, fP, pL]
   refine DRegL.det [] [0, 1, 2, 3, 4, 5, 6, 7, 8, 9, 10, 11, 12, 13] [] (by kernel_rfl) (by kernel_rfl) (by kernel_rfl) ?_
   simp only [push_cast, simprocAttr, fP, pL]
   refine hused.quiet' (by first | exact ⟨.inl rfl, trivial⟩ | exact ⟨.inl rfl, .inl rfl, trivial⟩ | exact ⟨.inl rfl, .inl rfl, .inl rfl, trivial⟩ | simp [argsOk, argOk, sl, sll]) ?_
   simp only [push_cast, simprocAttr, fP, pL]
   refine hsum.quiet' (by first | exact ⟨.inl rfl, trivial⟩ | exact ⟨.inl rfl, .inl rfl, trivial⟩ | exact ⟨.inl rfl, .inl rfl, .inl rfl, trivial⟩ | simp [argsOk, argOk, sl, sll]) ?_
   have hsl : (seenP w.pods p n).length ≤ w.pods.length := List.length_filter_le _ _
   have a := fun k => reqV_bd k (seenP w.pods p n) fun q hq => h.gp q (List.mem_filter.1 hq).1
   have hu := fun k => use_held k n wo w.pods
   have b := fun k => reqV_bd k (heldP w.pods n wo) fun q hq => h.gp q (List.mem_filter.1 (List.mem_filter.1 hq).1).1
   have hhl : (heldP w.pods n wo).length ≤ w.pods.length := Nat.le_trans (List.length_filter_le _ _) (List.length_filter_le _ _)
   have a0 := a 0
   have a1 := a 1
   have b0 := b 0
   have b1 := b 1
   have hadd : addS [useOf (w.pods.filter (wof wo)) n, two (seenP w.pods p n)] = some (loadV w p n wo) := by
    have hu0 : useAt 0 (w.pods.filter (wof wo)) n = reqV (heldP w.pods n wo) 0 := hu 0
    have hu1 : useAt 1 (w.pods.filter (wof wo)) n = reqV (heldP w.pods n wo) 1 := hu 1
    rw [addS_two (u := useOf (w.pods.filter (wof wo)) n) (v := two (seenP w.pods p n)) rfl (fun k hk => by
     have hk2 : k = 0 ∨ k = 1 := by have : k < 2 := hk; omega
     rcases hk2 with rfl | rfl
     ·show I64 (useAt 0 _ n + reqV _ 0); rw [hu0]; unfold I64; omega
     ·show I64 (useAt 1 _ n + reqV _ 1); rw [hu1]; unfold I64; omega)]
    unfold loadV
    rw [hn]
    show some [useAt 0 _ n + reqV _ 0, useAt 1 _ n + reqV _ 1] = some [_, _]
    rw [hu0, hu1, Int.add_comm, Int.add_comm (reqV (heldP w.pods n wo) 1)]
   have hra := radd_ok [useOf (w.pods.filter (wof wo)) n, two (seenP w.pods p n)] (by unfold Sz; simp) (rows2 (by unfold Sz useOf; simp) (by unfold Sz two; simp)) (rows2 (inR_of (by
    intro x hx
    have hu0 : useAt 0 (w.pods.filter (wof wo)) n = reqV (heldP w.pods n wo) 0 := hu 0
    have hu1 : useAt 1 (w.pods.filter (wof wo)) n = reqV (heldP w.pods n wo) 1 := hu 1
    simp only [useOf, List.mem_cons, List.not_mem_nil, or_false] at hx
    rcases hx with rfl | rfl
    ·rw [hu0]; unfold I64; omega
    ·rw [hu1]; unfold I64; omega)) (inR_of (by
    intro x hx
    simp only [two, List.mem_cons, List.not_mem_nil, or_false] at hx
    rcases hx with rfl | rfl <;> unfold I64 <;> omega)))
   rw [hadd] at hra
   simp only [two_rows2, push_cast, simprocAttr, fP, pL]
   refine hra.quiet' (by first | exact ⟨.inl rfl, trivial⟩ | exact ⟨.inl rfl, .inl rfl, trivial⟩ | exact ⟨.inl rfl, .inl rfl, .inl rfl, trivial⟩ | simp [argsOk, argOk, sl, sll]) ?_
   simp only [resS, push_cast, simprocAttr, fP, pL]
   refine WK.now ?_
   simp only [push_cast, simprocAttr, fP, pL]
set_option maxRecDepth 8000 in
set_option maxHeartbeats 1000000 in
theorem rfit16_ok (w : Rc) (p : Pod) (n : Int) (wo : List Int) (h : RcOk w) (hl : w.pods.length ≤ 65536) (hwo : wo.length ≤ 4611686018427387904) (hp : p.2.length ≤ 9223372036854775807)
  (hload : ∀ k, 0 ≤ (loadV w p n wo).getD k 0 ∧ (loadV w p n wo).getD k 0 ≤ 144115188075855872) (hin : InR (loadV w p n wo)) :
  PCall env 24 [fRc w, fP p, .int .i64 n, .slice 1 (ints wo)] (.bool (fitB (match findN w.nodes n with
   | none => none
   | some m => if 0 ≤ wrongS p.2 2 then none else some (some (List.zipWith (· + ·) (loadV w p n wo) p.2), m.2)))) := by
 have hfind := find14_ok w n h.nn
 have hd := h.d
 have hof := rof16_ok w p n wo h hl hwo
 unfold fRc at hfind hof ⊢
 refine acalls_of envOk Tryz.func24 rfl (by kernel_rfl) (m := 42) rfl ?_
 simp only [push_cast, simprocAttr, fP, pL]
 refine hfind.go (by first | exact ⟨.inl rfl, trivial⟩ | exact ⟨.inl rfl, .inl rfl, trivial⟩ | exact ⟨.inl rfl, .inl rfl, .inl rfl, trivial⟩ | simp [argsOk, argOk, sl, sll]) (WK.now ?_)
 rcases findN_idx w.nodes n with ⟨hn, hx⟩ | ⟨j, hj, hjl, hn⟩
 ·simp only [hx, show decide ((-1 : Int) < 0) = true from rfl, push_cast, simprocAttr, pods_length, nds_length, fP, pL]
  refine WK.now ?_
  simp only [hn, fitB, push_cast, simprocAttr, fP, pL]
 ·have hb : decide ((j : Int) < 0) = false := decide_eq_false (by omega)
  rw [hn]
  simp only [hj, hb, hd, show max (2 : Int) 0 = 2 from rfl, push_cast, simprocAttr, pods_length, nds_length, fP, pL]
  refine (rwrong_ok p.2 2 hp).go (by first | exact ⟨.inl rfl, trivial⟩ | exact ⟨.inl rfl, .inl rfl, trivial⟩ | exact ⟨.inl rfl, .inl rfl, .inl rfl, trivial⟩ | simp [argsOk, argOk, sl, sll]) (WK.now ?_)
  by_cases hw : 0 ≤ wrongS p.2 2
  ·simp only [show decide (wrongS p.2 2 ≥ 0) = true from decide_eq_true hw, push_cast, simprocAttr, pods_length, nds_length, fP, pL]
   refine WK.now ?_
   simp only [hw, fitB, push_cast, simprocAttr, fP, pL]
  ·have hg := goodV_of hw
   have hadd : addS [loadV w p n wo, p.2] = some (List.zipWith (· + ·) (loadV w p n wo) p.2) := addS_two (by rw [load_len, hg.1]) (fun k hk => by
    have a := hload k
    have b := hg.at k
    unfold I64; omega)
   have hgn : GoodV (w.nodes.getD j nz).2 := h.gn _ (by rw [List.getD_eq_getElem?_getD, List.getElem?_eq_getElem hjl]; exact List.getElem_mem hjl)
   have hra := radd_ok [loadV w p n wo, p.2] (by unfold Sz; simp) (rows2 (by unfold Sz; rw [load_len]; omega) hg.sz) (rows2 hin hg.inR)
   rw [hadd] at hra
   simp only [show decide (wrongS p.2 2 ≥ 0) = false from decide_eq_false hw, push_cast, simprocAttr, pods_length, nds_length, fP, pL]
   refine DRegL.det [] [0, 1, 2, 3, 4, 5, 6, 7, 8, 9, 10, 11, 12, 13] [] (by kernel_rfl) (by kernel_rfl) (by kernel_rfl) ?_
   simp only [push_cast, simprocAttr, fP, pL]
   rw [hd] at hof
   refine hof.quiet' ⟨.inl rfl, .inl rfl, .inl rfl, .inl rfl, trivial⟩ ?_
   simp only [two_rows2, push_cast, simprocAttr, fP, pL]
   refine hra.quiet' (by first | exact ⟨.inl rfl, trivial⟩ | exact ⟨.inl rfl, .inl rfl, trivial⟩ | exact ⟨.inl rfl, .inl rfl, .inl rfl, trivial⟩ | simp [argsOk, argOk, sl, sll]) ?_
   simp only [resS, hjl, cel_nds1, push_cast, simprocAttr, fP, pL]
   refine (rfits_ok (List.zipWith (· + ·) (loadV w p n wo) p.2) (w.nodes.getD j nz).2 (by unfold Sz; simp [load_len, hg.1])).go (by first | exact ⟨.inl rfl, trivial⟩ | exact ⟨.inl rfl, .inl rfl, trivial⟩ | exact ⟨.inl rfl, .inl rfl, .inl rfl, trivial⟩ | simp [argsOk, argOk, sl, sll]) (WK.now ?_)
   simp only [push_cast, simprocAttr, fP, pL]
   refine WK.now ?_
   simp only [hw, fitB, push_cast, simprocAttr, fP, pL]
end Go.Proofs.YtmeicgbddgeeoaaGreatDoor
end
section
set_option autoImplicit false
set_option linter.unusedVariables false
set_option linter.unusedSimpArgs false
namespace Go.Proofs.YtmeicgbddgeeoaaGreatDoor
open Go.Abs
theorem nodes_nil : PCall env 150 [.nilp] .nilp := by
 refine acalls_of envOk Tryz.func150 rfl (by kernel_rfl) (m := 8) rfl ?_
 simp only [push_cast, simprocAttr, QasgL_normal, fP, pL]
 refine WK.now ?_
 simp only [push_cast, simprocAttr, QasgL_normal, fP, pL]
theorem nget_nil (k : Int) : PCall env 133 [.nilp, .int .i64 k] (nodeD none) := by
 refine acalls_of envOk Tryz.func133 rfl (by kernel_rfl) (m := 22) rfl ?_
 simp only [push_cast, simprocAttr, QasgL_normal, fP, pL]
 refine nodes_nil.go (by first | exact ⟨.inl rfl, trivial⟩ | exact ⟨.inl rfl, .inl rfl, trivial⟩ | exact ⟨.inl rfl, .inl rfl, .inl rfl, trivial⟩ | simp [argsOk, argOk, sl, sll]) (WK.now ?_)
 simp only [push_cast, simprocAttr, QasgL_normal, fP, pL]
 refine (getE_nil k).go (by first | exact ⟨.inl rfl, trivial⟩ | exact ⟨.inl rfl, .inl rfl, trivial⟩ | exact ⟨.inl rfl, .inl rfl, .inl rfl, trivial⟩ | simp [argsOk, argOk, sl, sll]) (WK.now ?_)
 simp only [push_cast, simprocAttr, QasgL_normal, fP, pL]
 refine DRegL.two [0, 1, 2, 3, 4, 5, 8] [6, 7, 9, 10] (by unfold Draw2; kernel_rfl) (by kernel_rfl) (by kernel_rfl) ?_
 simp only [push_cast, simprocAttr, QasgL_normal, fP, pL]
 refine clone_nil.at [] (by simp [PV, Tb, Ps, Psn, Ns, Cs, Csn, fP, pL, fE, errD, errF, pgetD, nodeD, sl, pods_length, sbl, ren_none, ren_var, ren_arr, ren_map, ren_mapb, ren_iter, ren_loop, ren_defr, bel_none, bel_var, bel_arr, bel_map, bel_mapb, bel_iter, bel_loop, bel_defr, AV.renL, AV.ren, AV.belL, AV.bel, rn]) (by simp) (by simp [PV, Tb, Ps, Psn, Ns, Cs, Csn, fP, pL, fE, errD, errF, pgetD, nodeD, sl, pods_length]) (by simp [PV, Tb, Ps, Psn, Ns, Cs, Csn, fP, pL, fE, errD, errF, pgetD, nodeD, sl, pods_length, AV.ren, AV.renL, rn]) (by simp [AV.belL, AV.bel]) ?_
 simp only [push_cast, simprocAttr, QasgL_normal, fP, pL]
 refine WK.frz 2 rfl (WK.now ?_)
 simp only [nodeD, ints_nil, push_cast, simprocAttr, QasgL_normal, fP, pL]
theorem cnode_nil (k : Int) : PCall env 103 [.nilp, .int .i64 k] (nodeD none) := by
 refine acalls_of envOk Tryz.func103 rfl (by kernel_rfl) (m := 11) rfl ?_
 simp only [push_cast, simprocAttr, QasgL_normal, fP, pL]
 refine cstate_nil.go (by first | exact ⟨.inl rfl, trivial⟩ | exact ⟨.inl rfl, .inl rfl, trivial⟩ | exact ⟨.inl rfl, .inl rfl, .inl rfl, trivial⟩ | simp [argsOk, argOk, sl, sll]) (WK.now ?_)
 simp only [push_cast, simprocAttr, QasgL_normal, fP, pL]
 refine (nget_nil k).go (by first | exact ⟨.inl rfl, trivial⟩ | exact ⟨.inl rfl, .inl rfl, trivial⟩ | exact ⟨.inl rfl, .inl rfl, .inl rfl, trivial⟩ | simp [argsOk, argOk, sl, sll]) (WK.now ?_)
 simp only [nodeD, push_cast, simprocAttr, QasgL_normal, fP, pL]
 refine WK.now ?_
 simp only [push_cast, simprocAttr, QasgL_normal, fP, pL]
end Go.Proofs.YtmeicgbddgeeoaaGreatDoor
end
section
set_option autoImplicit false
set_option linter.unusedVariables false
set_option linter.unusedSimpArgs false
namespace Go.Proofs.YtmeicgbddgeeoaaGreatDoor
open Go.Abs
end Go.Proofs.YtmeicgbddgeeoaaGreatDoor
end
section
set_option autoImplicit false
set_option linter.unusedVariables false
set_option linter.unusedSimpArgs false
namespace Go.Proofs.YtmeicgbddgeeoaaGreatDoor
open Go.Abs
theorem fewP_one (p : Pod) : FewP [p] ↔ okP p := by
 constructor
 ·intro h; exact h.1 0 (by simp)
 ·intro h
  refine ⟨fun j hj => ?_, by simp⟩
  obtain rfl : j = 0 := by simpa using hj
  exact h
def idl (l : List Pod) : List Int := l.map (·.1.id)
end Go.Proofs.YtmeicgbddgeeoaaGreatDoor
end
section
set_option autoImplicit false
set_option linter.unusedVariables false
set_option linter.unusedSimpArgs false
namespace Go.Proofs.YtmeicgbddgeeoaaGreatDoor
open Go.Abs
theorem reqV_mono {f g : Pod → Bool} (k : Nat) : ∀ {l : List Pod}, (∀ q ∈ l, GoodV q.2) → (∀ q ∈ l, f q = true → g q = true) → reqV (l.filter f) k ≤ reqV (l.filter g) k
 | [], _, _ => by simp [reqV]
 | q :: l, h, hfg => by
  have ih := reqV_mono k (l := l) (fun x hx => h x (by simp [hx])) (fun x hx => hfg x (by simp [hx]))
  have hq := ((h q (by simp)).at k).1
  have hi := hfg q (by simp)
  rw [List.filter_cons, List.filter_cons]
  cases hf : f q with
  | true =>
   rw [hi hf]
   simp only [reqV, if_true, List.map_cons, List.sum_cons] at ih ⊢
   omega
  | false =>
   cases hg : g q with
   | false => simp only [Bool.false_eq_true, if_false]; exact ih
   | true =>
    simp only [Bool.false_eq_true, if_false, if_true]
    simp only [reqV, List.map_cons, List.sum_cons] at ih ⊢
    omega
theorem heldP_eq (P : List Pod) (n : Int) (wo : List Int) : heldP P n wo = P.filter fun q => takes wo q && onP n q := by
 unfold heldP
 rw [List.filter_filter]
theorem load_mono {w : Rc} {p q : Pod} {n : Int} {wo wo' : List Int} (hg : ∀ x ∈ w.pods, GoodV x.2) (hs : ∀ x, SeesP q x n → SeesP p x n) (hw : ∀ id, id ∈ wo → id ∈ wo') (k : Nat) :
  (loadV w q n wo').getD k 0 ≤ (loadV w p n wo).getD k 0 := by
 have h1 : ∀ k, reqV (seenP w.pods q n) k ≤ reqV (seenP w.pods p n) k := fun k => reqV_mono k hg fun x _ hx => B_true (hs x (B_iff.1 hx))
 have h2 : ∀ k, reqV (heldP w.pods n wo') k ≤ reqV (heldP w.pods n wo) k := fun k => by
  rw [heldP_eq, heldP_eq]
  refine reqV_mono k hg fun x _ hx => ?_
  obtain ⟨a, b, c⟩ := held_iff.1 hx
  exact held_iff.2 ⟨a, b, fun hm => c (hw _ hm)⟩
 unfold loadV
 split
 ·match k with
  | 0 => exact Int.add_le_add (h1 0) (h2 0)
  | 1 => exact Int.add_le_add (h1 1) (h2 1)
  | k + 2 => simp
 ·exact Int.le_refl _
theorem zipA_get {u v : List Int} (hu : u.length = 2) (hv : v.length = 2) {k : Nat} (hk : k < 2) : (List.zipWith (· + ·) u v).getD k 0 = u.getD k 0 + v.getD k 0 := by
 have e1 : u[k]? = some u[k] := List.getElem?_eq_getElem (by omega)
 have e2 : v[k]? = some v[k] := List.getElem?_eq_getElem (by omega)
 simp only [List.getD_eq_getElem?_getD, List.getElem?_zipWith, e1, e2, Option.getD_some]
theorem fit_mono {c : Cl} {w : Rc} (h : RC c w) {p q : Pod} {n : Int} {wo wo' : List Int} (hl : ∀ k, (loadV w q n wo').getD k 0 ≤ (loadV w p n wo).getD k 0)
  (hq : GoodV p.2 → GoodV q.2 ∧ ∀ k, q.2.getD k 0 ≤ p.2.getD k 0) (hf : fitB (totS c p n (loadV w p n wo)) = true) : fitB (totS c q n (loadV w q n wo')) = true := by
 rw [h.tot] at hf ⊢
 cases hn : findN w.nodes n with
 | none => rw [hn] at hf; exact hf
 | some m =>
  rw [hn] at hf
  dsimp only at hf ⊢
  by_cases hw : 0 ≤ wrongS p.2 2
  ·rw [if_pos hw] at hf; cases hf
  ·have hg := goodV_of hw
   obtain ⟨hg2, hle⟩ := hq hg
   rw [if_neg hw] at hf
   rw [if_neg hg2.ok]
   have hF : FitsP _ m.2 := B_iff.1 hf
   refine B_true ⟨by simp [load_len, hg2.1]; have := hF.1; simp [load_len, hg.1] at this; omega, fun k hk => ?_⟩
   have hk2 : k < 2 := by simp [load_len, hg2.1] at hk; omega
   have := hF.2 k (by simp [load_len, hg.1]; omega)
   rw [zipA_get (load_len _ _ _ _) hg.1 hk2] at this
   rw [zipA_get (load_len _ _ _ _) hg2.1 hk2]
   have a := hl k
   have b := hle k
   omega
end Go.Proofs.YtmeicgbddgeeoaaGreatDoor
end
