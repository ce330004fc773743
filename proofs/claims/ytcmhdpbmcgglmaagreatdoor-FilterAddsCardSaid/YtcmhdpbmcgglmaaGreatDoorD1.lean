/-
  The greater elements of two vectors.
  The walks of the package load: what a row contains; the closure of Of.
  The walks of the package load: the load of a node.
  The walks of the package load, continued: what fits, what is left, what is short.
  The reference's functions on reservations: the pods that are seen, and their sum.
  What the load of a node is, in plain words.
  The reference's load, and whether a pod fits.
  The walks of the package load at a cluster that is not there.
  The examples of the chapter on loads.
  ReserveLower, walked.
  LoadRises, walked.
  LoadBinds, walked.
  LoadFewer, walked.
-/
import Derived.Test.YtcmhdpbmcgglmaaGreatDoorB0
import Derived.Test.YtcmhdpbmcgglmaaGreatDoorB3
import Derived.Test.YtcmhdpbmcgglmaaGreatDoorB1
section
set_option autoImplicit false
set_option linter.unusedVariables false
set_option linter.unusedSimpArgs false
namespace Go.Proofs.YtcmhdpbmcgglmaaGreatDoor
open Go.Abs
theorem most1_ok (a b : Int) : PCall env 158 [.int .i64 a, .int .i64 b] (.tup [.int .i64 (max a b), .bool true]) := by
  refine acalls_of envOk Tryz.func158 rfl (by kernel_rfl) (m := 7) rfl ?_
  simp only [push_cast, simprocAttr]
  refine WK.now ?_
  simp only [push_cast, simprocAttr]
theorem vmost_ok (a b : List Int) (ha : Sz a) (ra : InR a) (rb : InR b) : PCall env 148 [sl a, sl b] (resS (bothS (fun x y => max x y) (fun x y => true) a b)) := by
  refine acalls_of envOk Tryz.func148 rfl (by kernel_rfl) (m := 9) rfl ?_
  simp only [push_cast, simprocAttr]
  refine (both_ok 158 rfl _ _ (fun x y hx hy => most1_ok x y) a b ha ra rb).go (by first | exact ⟨.inl rfl, trivial⟩ | exact ⟨.inl rfl, .inl rfl, trivial⟩ | exact ⟨.inl rfl, .inl rfl, .inl rfl, trivial⟩ | simp [argsOk, argOk, sl, sll]) (WK.now ?_)
  generalize bothS _ _ a b = r
  cases r with
  | none => simp only [resS, push_cast, simprocAttr]; refine WK.now ?_; simp only [push_cast, simprocAttr]
  | some xs => simp only [resS, push_cast, simprocAttr]; refine WK.now ?_; simp only [push_cast, simprocAttr]
end Go.Proofs.YtcmhdpbmcgglmaaGreatDoor
end
section
set_option autoImplicit false
set_option linter.unusedVariables false
set_option linter.unusedSimpArgs false
namespace Go.Proofs.YtcmhdpbmcgglmaaGreatDoor
open Go.Abs
def idxV (v : Int) (xs : List Int) : Int := if xs.findIdx (fun x => v == x) < xs.length then xs.findIdx (fun x => v == x) else -1
theorem idxV_at {v : Int} {xs : List Int} {i : Nat} (hi : i < xs.length) (hn : ∀ j, j < i → v ≠ xs.getD j 0) (hy : v = xs.getD i 0) : idxV v xs = i := by
  have e : xs.findIdx (fun x => v == x) = i := by
    rw [List.findIdx_eq hi]
    rw [List.getD_eq_getElem?_getD, List.getElem?_eq_getElem hi, Option.getD_some] at hy
    refine ⟨by simpa using hy, fun j hj => ?_⟩
    have := hn j hj
    rw [List.getD_eq_getElem?_getD, List.getElem?_eq_getElem (by omega), Option.getD_some] at this
    simpa using this
  unfold idxV
  rw [e, if_pos hi]
theorem not_mem_of {v : Int} {xs : List Int} (hn : ∀ j, j < xs.length → v ≠ xs.getD j 0) : v ∉ xs := fun hm => by
  obtain ⟨j, hj, e⟩ := List.getElem_of_mem hm
  have := hn j hj
  rw [List.getD_eq_getElem?_getD, List.getElem?_eq_getElem hj, Option.getD_some] at this
  exact this e.symm
theorem idxV_no {v : Int} {xs : List Int} (hn : ∀ j, j < xs.length → v ≠ xs.getD j 0) : idxV v xs = -1 := by
  unfold idxV
  rw [if_neg]
  rw [List.findIdx_lt_length]
  rintro ⟨x, hx, hh⟩
  exact not_mem_of hn (by have : v = x := by simpa using hh
                          rw [this]; exact hx)
theorem idxV_mem (v : Int) (xs : List Int) : decide (idxV v xs ≥ 0) = decide (v ∈ xs) := by
  refine decide_eq_decide.2 ?_
  unfold idxV
  by_cases h : v ∈ xs
  · rw [if_pos (List.findIdx_lt_length.2 ⟨v, h, by simp⟩)]
    exact ⟨fun _ => h, fun _ => by omega⟩
  · rw [if_neg fun hh => by
      obtain ⟨x, hx, hv⟩ := List.findIdx_lt_length.1 hh
      exact h (by have : v = x := by simpa using hv
                  rw [this]; exact hx)]
    exact ⟨fun h' => by omega, fun h' => absurd h' h⟩
theorem index_ok' (xs : List Int) (v : Int) (hs : xs.length ≤ 4611686018427387904) : PCall env 44 [.slice 1 (ints xs), .int .i64 v] (.int .i64 (idxV v xs)) := by
  refine acalls_of envOk Tryz.func44 rfl (by kernel_rfl) (m := 17) rfl ?_
  simp only [push_cast, simprocAttr, pods_length, fP, pL]
  refine ALoop.mk (fun k t H ds => ∃ i : Nat, k = xs.length - i ∧ i ≤ xs.length ∧ (∀ j, j < i → v ≠ xs.getD j 0) ∧ t = [.d (.slice 1 (ints xs)), .d (.int .i64 v), .dead, .dead, .d (.int .i64 0), .dead, .dead, .d (.int .i64 xs.length), .d (.int .i64 (i : Nat)), .dead, .dead, .dead, .dead, .dead, .dead, .dead, .dead, .dead, .dead] ∧ H = [] ∧ ds = []) xs.length
    (WK.fgt (t' := [.d (.slice 1 (ints xs)), .d (.int .i64 v), .dead, .dead, .d (.int .i64 0), .dead, .dead, .d (.int .i64 xs.length), .d (.int .i64 (0 : Nat)), .dead, .dead, .dead, .dead, .dead, .dead, .dead, .dead, .dead, .dead]) (by simp [fgt]) (WK.now ⟨0, by omega, by omega, by omega, rfl, rfl, rfl⟩)) ?_
  rintro k t H ds ⟨i, rfl, hi, hp, rfl, rfl, rfl⟩
  simp only [push_cast, simprocAttr, pods_length, fP, pL]
  refine Kbr.mk (fun c => ?_) (fun c => ?_)
  · have c2 : i < xs.length := by simpa using c
    simp only [c2, cel_ints, push_cast, simprocAttr, pods_length, fP, pL]
    refine Kbr.mk (fun c => ?_) (fun c => ?_)
    · have c3 : v = xs.getD i 0 := by simpa using c
      simp only [push_cast, simprocAttr, pods_length, fP, pL]
      refine WK.now ?_
      simp only [idxV_at c2 hp c3, push_cast, simprocAttr, pods_length, fP, pL]
    · have c3 : v ≠ xs.getD i 0 := by simpa using c
      simp only [succ64 c2 hs, push_cast, simprocAttr, pods_length, fP, pL]
      refine ⟨xs.length - (i + 1), by omega, WK.fgt (t' := [.d (.slice 1 (ints xs)), .d (.int .i64 v), .dead, .dead, .d (.int .i64 0), .dead, .dead, .d (.int .i64 xs.length), .d (.int .i64 (i + 1 : Nat)), .dead, .dead, .dead, .dead, .dead, .dead, .dead, .dead, .dead, .dead]) (by simp [fgt]) (WK.now ⟨i + 1, rfl, by omega, fun j hj => ?_, rfl, rfl, rfl⟩)⟩
      rcases Nat.lt_succ_iff_lt_or_eq.1 hj with hj | rfl
      · exact hp j hj
      · exact c3
  · have c2 : ¬ i < xs.length := by simpa using c
    simp only [push_cast, simprocAttr, pods_length, fP, pL]
    refine WK.now ?_
    simp only [idxV_no (fun j hj => hp j (by omega)), push_cast, simprocAttr, pods_length, fP, pL]
theorem contains_ok' (xs : List Int) (v : Int) (hs : xs.length ≤ 4611686018427387904) : PCall env 41 [.slice 1 (ints xs), .int .i64 v] (.bool (decide (v ∈ xs))) := by
  refine acalls_of envOk Tryz.func41 rfl (by kernel_rfl) (m := 7) rfl ?_
  simp only [push_cast, simprocAttr, pods_length, fP, pL]
  refine (index_ok' xs v hs).go (by first | exact ⟨.inl rfl, trivial⟩ | exact ⟨.inl rfl, .inl rfl, trivial⟩ | exact ⟨.inl rfl, .inl rfl, .inl rfl, trivial⟩ | simp [argsOk, argOk, sl, sll]) (WK.now ?_)
  simp only [push_cast, simprocAttr, pods_length, fP, pL]
  refine WK.now ?_
  simp only [idxV_mem, push_cast, simprocAttr, pods_length, fP, pL]
def takes (wo : List Int) (q : Pod) : Bool := decide (holdsP q.1.ph) && !decide (q.1.id ∈ wo)
theorem takes_yes {wo : List Int} {q : Pod} (h : takes wo q = true) : decide (q.1.ph = 3 ∨ q.1.ph = 4) = true ∧ decide (q.1.id ∈ wo) = false := by
  unfold takes at h
  rw [Bool.and_eq_true] at h
  exact ⟨h.1, by simpa using h.2⟩
theorem takes_no {wo : List Int} {q : Pod} (h : takes wo q = false) : decide (q.1.ph = 3 ∨ q.1.ph = 4) = false ∨ (decide (q.1.ph = 3 ∨ q.1.ph = 4) = true ∧ decide (q.1.id ∈ wo) = true) := by
  unfold takes at h
  by_cases hh : holdsP q.1.ph
  · rw [decide_eq_true hh] at h
    exact .inr ⟨decide_eq_true hh, by simpa using h⟩
  · exact .inl (decide_eq_false hh)
theorem of1_A (q : Pod) (wo : List Int) (rows : List (List D)) (hs : wo.length ≤ 4611686018427387904) (h : takes wo q = false) :
    ACalls env 174 [.d (fP q), .pvar 0 0, .pvar 1 0] [.var [.d (.slice 1 (ints wo))], .var [.svalf 1 rows]] fun r H' => r = .d (.tup []) ∧ H' = [.var [.d (.slice 1 (ints wo))], .var [.svalf 1 rows]] := by
  refine ACalls.cutTo [0, 1] rfl ?_ (fun l => by simp [PV, Tb, Ps, Psn, Ns, Cs, Csn, fP, pL, fE, errD, errF, pgetD, nodeD, sl, pods_length, sbl, ren_none, ren_var, ren_arr, ren_map, ren_mapb, ren_iter, ren_loop, ren_defr, bel_none, bel_var, bel_arr, bel_map, bel_mapb, bel_iter, bel_loop, bel_defr, AV.renL, AV.ren, AV.belL, AV.bel, rn]) (fun m => by simp [tellL, AV.ren, AV.renL, AV.bel, AV.belL, rn])
  refine acalls_of envOk Tryz.func174 rfl (by kernel_rfl) (m := 16) rfl ?_
  simp only [push_cast, simprocAttr, pods_length, fP, pL]
  refine (holds_ok q.1.ph).go (by first | exact ⟨.inl rfl, trivial⟩ | exact ⟨.inl rfl, .inl rfl, trivial⟩ | exact ⟨.inl rfl, .inl rfl, .inl rfl, trivial⟩ | simp [argsOk, argOk, sl, sll]) (WK.now ?_)
  rcases takes_no h with e1 | ⟨e1, e2⟩
  · simp only [e1, push_cast, simprocAttr, pods_length, fP, pL]
    refine WK.now ?_
    simp only [push_cast, simprocAttr, pods_length, fP, pL]
    first | done | exact ⟨_, rfl⟩ | exact ⟨rfl, _, rfl⟩
  · simp only [e1, push_cast, simprocAttr, pods_length, fP, pL]
    refine (contains_ok' wo q.1.id hs).go (by first | exact ⟨.inl rfl, trivial⟩ | exact ⟨.inl rfl, .inl rfl, trivial⟩ | exact ⟨.inl rfl, .inl rfl, .inl rfl, trivial⟩ | simp [argsOk, argOk, sl, sll]) (WK.now ?_)
    simp only [e2, push_cast, simprocAttr, pods_length, fP, pL]
    refine WK.now ?_
    simp only [push_cast, simprocAttr, pods_length, fP, pL]
    first | done | exact ⟨_, rfl⟩ | exact ⟨rfl, _, rfl⟩
theorem of1_no (q : Pod) (wo : List Int) (rows : List (List Int)) (hs : wo.length ≤ 4611686018427387904) (h : takes wo q = false) :
    ACalls env 174 [.d (fP q), .pvar 0 0, .pvar 1 0] [.var [.d (.slice 1 (ints wo))], .var [.sfull 2], .arr 33 1 (intss rows)] fun r H' => r = .d (.tup []) ∧
      H' = [.var [.d (.slice 1 (ints wo))], .var [.sfull 2], .arr 33 1 (intss rows)] := by
  refine ACalls.cutTo [0, 1, 2] rfl ?_ (fun l => by simp [PV, Tb, Ps, Psn, Ns, Cs, Csn, fP, pL, fE, errD, errF, pgetD, nodeD, sl, pods_length, sbl, ren_none, ren_var, ren_arr, ren_map, ren_mapb, ren_iter, ren_loop, ren_defr, bel_none, bel_var, bel_arr, bel_map, bel_mapb, bel_iter, bel_loop, bel_defr, AV.renL, AV.ren, AV.belL, AV.bel, rn]) (fun m => by simp [tellL, AV.ren, AV.renL, AV.bel, AV.belL, rn])
  refine acalls_of envOk Tryz.func174 rfl (by kernel_rfl) (m := 16) rfl ?_
  simp only [push_cast, simprocAttr, pods_length, fP, pL]
  refine (holds_ok q.1.ph).go (by first | exact ⟨.inl rfl, trivial⟩ | exact ⟨.inl rfl, .inl rfl, trivial⟩ | exact ⟨.inl rfl, .inl rfl, .inl rfl, trivial⟩ | simp [argsOk, argOk, sl, sll]) (WK.now ?_)
  rcases takes_no h with e1 | ⟨e1, e2⟩
  · simp only [e1, push_cast, simprocAttr, pods_length, fP, pL]
    refine WK.now ?_
    simp only [push_cast, simprocAttr, pods_length, fP, pL]
    first | done | exact ⟨_, rfl⟩ | exact ⟨rfl, _, rfl⟩
  · simp only [e1, push_cast, simprocAttr, pods_length, fP, pL]
    refine (contains_ok' wo q.1.id hs).go (by first | exact ⟨.inl rfl, trivial⟩ | exact ⟨.inl rfl, .inl rfl, trivial⟩ | exact ⟨.inl rfl, .inl rfl, .inl rfl, trivial⟩ | simp [argsOk, argOk, sl, sll]) (WK.now ?_)
    simp only [e2, push_cast, simprocAttr, pods_length, fP, pL]
    refine WK.now ?_
    simp only [push_cast, simprocAttr, pods_length, fP, pL]
    first | done | exact ⟨_, rfl⟩ | exact ⟨rfl, _, rfl⟩
theorem of1_yes (q : Pod) (wo : List Int) (rows : List (List Int)) (hs : wo.length ≤ 4611686018427387904) (hr : rows.length ≤ 1000000) (h : takes wo q = true) :
    ACalls env 174 [.d (fP q), .pvar 0 0, .pvar 1 0] [.var [.d (.slice 1 (ints wo))], .var [.sfull 2], .arr 33 1 (intss rows)] fun r H' => r = .d (.tup []) ∧
      H' = [.var [.d (.slice 1 (ints wo))], .var [.sfull 4], .none, .none, .arr 33 1 (intss (rows ++ [q.2]))] := by
  obtain ⟨e1, e2⟩ := takes_yes h
  have raw : ACalls env 174 [.d (fP q), .pvar 0 0, .pvar 1 0] [.var [.d (.slice 1 (ints wo))], .var [.sfull 2], .arr 33 1 (intss rows)] fun r H' => r = .d (.tup []) ∧
      ∃ o, H' = [.var [.d (.slice 1 (ints wo))], .var [.sfull 4], .none, o, .arr 33 1 (intss (rows ++ [q.2]))] := by
    refine acalls_of envOk Tryz.func174 rfl (by kernel_rfl) (m := 16) rfl ?_
    simp only [push_cast, simprocAttr, pods_length, fP, pL]
    refine (holds_ok q.1.ph).go (by first | exact ⟨.inl rfl, trivial⟩ | exact ⟨.inl rfl, .inl rfl, trivial⟩ | exact ⟨.inl rfl, .inl rfl, .inl rfl, trivial⟩ | simp [argsOk, argOk, sl, sll]) (WK.now ?_)
    simp only [e1, push_cast, simprocAttr, pods_length, fP, pL]
    refine (contains_ok' wo q.1.id hs).go (by first | exact ⟨.inl rfl, trivial⟩ | exact ⟨.inl rfl, .inl rfl, trivial⟩ | exact ⟨.inl rfl, .inl rfl, .inl rfl, trivial⟩ | simp [argsOk, argOk, sl, sll]) (WK.now ?_)
    simp only [e2, intss_snoc, push_cast, simprocAttr, pods_length, fP, pL]
    refine ⟨room_of (by simp [intss_length]; omega) (by omega), WK.now ?_⟩
    simp only [push_cast, simprocAttr, pods_length, fP, pL]
    first | done | exact ⟨_, rfl⟩ | exact ⟨rfl, _, rfl⟩
  exact raw.retell (by
    rintro r H' ⟨rfl, o, rfl⟩
    exact WK.pick [0, 1, 2, 3, 4] (t' := [.d (.tup [])]) (H' := [.var [.d (.slice 1 (ints wo))], .var [.sfull 4], .none, .none, .arr 33 1 (intss (rows ++ [q.2]))]) (by simp [sbl, ren_none, ren_var, ren_arr, bel_none, bel_var, bel_arr, AV.renL, AV.ren, AV.belL, AV.bel, rn]) (by simp) (by simp) (by simp [tellL, AV.ren, AV.renL, AV.bel, AV.belL, rn]) (show ∀ id, id < 3 → ([0, 1, 2, 3, 4] : List Nat)[id]? = some id by decide) (WK.now ⟨_, rfl, rfl, rfl⟩))
end Go.Proofs.YtcmhdpbmcgglmaaGreatDoor
end
section
set_option autoImplicit false
set_option linter.unusedVariables false
set_option linter.unusedSimpArgs false
namespace Go.Proofs.YtcmhdpbmcgglmaaGreatDoor
open Go.Abs
def heldL (c : Cl) (n : Int) (wo : List Int) : List Pod := (listed c.L (onP n) c.ids).filter (takes wo)
noncomputable def loadR (c : Cl) (n : Int) (wo : List Int) (sv : List Int) : List (List Int) := if (lget c.N n).isSome then zrow c.d :: sv :: reqs (heldL c n wo) else [zrow c.d]
theorem filt_snoc (f : Pod → Bool) {l : List Pod} {i : Nat} (h : i < l.length) : (l.take (i + 1)).filter f = (l.take i).filter f ++ if f (l.getD i pz) then [l.getD i pz] else [] := by
  rw [List.take_add_one, List.filter_append, List.getElem?_eq_getElem h, List.getD_eq_getElem?_getD, List.getElem?_eq_getElem h, Option.toList_some, Option.getD_some]
  cases hf : f l[i] <;> simp [hf]
theorem getD_mem {l : List Pod} {i : Nat} (h : i < l.length) : l.getD i pz ∈ l := by
  rw [List.getD_eq_getElem?_getD, List.getElem?_eq_getElem h]
  exact List.getElem_mem h
theorem rows_ok2 {c : Cl} (h : ClOk c) {sv : List Int} (h1 : Sz sv) (h2 : InR sv) {l : List Pod} (hl : ∀ q ∈ l, ∃ k, lget c.L k = some q) :
    (∀ j, Sz ((zrow c.d :: sv :: reqs l).getD j [])) ∧ InRs (zrow c.d :: sv :: reqs l) := by
  obtain ⟨k1, k2⟩ := rows_ok h hl
  exact ⟨fun j => match j with
    | 0 => k1 0
    | 1 => h1
    | j + 2 => k1 (j + 1), fun j => match j with
    | 0 => k2 0
    | 1 => h2
    | j + 2 => k2 (j + 1)⟩
noncomputable def He (c : Cl) (p : Pod) (wo : List Int) (e : Ent) (l : List Pod) (rows : List (List Int)) : List AObj :=
  Cs c ++ [PV p, .var [.d (.slice 1 (ints wo))], .var [.sfull 12], .var [.d (.int .i64 e.1), .d (.slice 1 (ints e.2.1))], .arr 33 1 (intss rows), .arr 35 9 (pods l)]
noncomputable def Hn (c : Cl) (p : Pod) (wo : List Int) (l : List Pod) : List AObj :=
  Cs c ++ [PV p, .var [.d (.slice 1 (ints wo))], .var [.svalf 1 (intss [zrow c.d])], .var [.d (.int .i64 0), .d (.slice 1 [])], .arr 35 9 (pods l)]
set_option maxRecDepth 8000 in
set_option maxHeartbeats 1000000 in
theorem lof_ok (c : Cl) (p : Pod) (n : Int) (wo : List Int) (h : ClOk c) (h65 : c.ids.length ≤ 65536) (hwo : wo.length ≤ 4611686018427387904) (sv : List Int) (hsum : addS (zrow c.d :: reqs (seenL c p n)) = some sv)
    (hsz : Sz sv) (hin : InR sv) (h0 : lget c.N n = none → ∀ q ∈ listed c.L (onP n) c.ids, takes wo q = false) :
    ACalls env 157 [.pvar 7 0, .d (fP p), .d (.int .i64 n), .d (.slice 1 (ints wo))] (Cs c) fun r H' => r = .d (sumR (addS (loadR c n wo sv))) ∧ H' = Cs c := by
  obtain ⟨l, hl⟩ : ∃ l, l = listed c.L (onP n) c.ids := ⟨_, rfl⟩
  have hmem : ∀ q ∈ l, ∃ k, lget c.L k = some q := fun q hq => mem_listed h (by rw [← hl]; exact hq)
  have hll : l.length ≤ 65536 := by
    have h1 := listed_len c.L (onP n) c.ids
    rw [hl]; omega
  have hd := h.d
  have hcon := con_ok c n h.sees
  have hss := ssum_ok c p n h h65
  rw [hsum] at hss
  rw [← hl] at hcon h0
  have hz := zero_ok c.d hd
  rw [← show zrow c.d = List.replicate (max c.d 0).toNat 0 from rfl] at hz
  unfold Cs
  refine ACalls.cutTo [0, 1, 2, 3, 4, 5, 6, 7] rfl ?_ (fun l => by simp [PV, Tb, Ps, Psn, Ns, Cs, Csn, fP, pL, fE, errD, errF, pgetD, nodeD, sl, pods_length, intss_length, sbl, ren_none, ren_var, ren_arr, ren_map, ren_mapb, ren_iter, ren_loop, ren_defr, bel_none, bel_var, bel_arr, bel_map, bel_mapb, bel_iter, bel_loop, bel_defr, AV.renL, AV.ren, AV.belL, AV.bel, rn]) (fun m => by simp [tellL, AV.ren, AV.renL, AV.bel, AV.belL, rn])
  refine acalls_of envOk Tryz.func157 rfl (by kernel_rfl) (m := 50) rfl ?_
  simp only [push_cast, simprocAttr, pods_length, fP, pL]
  refine (cdims_ok c).at [0, 1, 2, 3, 4, 5, 6, 7] (by simp [PV, Tb, Ps, Psn, Ns, Cs, Csn, fP, pL, fE, errD, errF, pgetD, nodeD, sl, pods_length, intss_length, sbl, ren_none, ren_var, ren_arr, ren_map, ren_mapb, ren_iter, ren_loop, ren_defr, bel_none, bel_var, bel_arr, bel_map, bel_mapb, bel_iter, bel_loop, bel_defr, AV.renL, AV.ren, AV.belL, AV.bel, rn]) (by simp) (by simp [PV, Tb, Ps, Psn, Ns, Cs, Csn, fP, pL, fE, errD, errF, pgetD, nodeD, sl, pods_length, intss_length]) (by simp [PV, Tb, Ps, Psn, Ns, Cs, Csn, fP, pL, fE, errD, errF, pgetD, nodeD, sl, pods_length, intss_length, AV.ren, AV.renL, rn]) (by simp [AV.belL, AV.bel]) (WK.now ?_)
  simp only [Cs, push_cast, simprocAttr, pods_length, fP, pL]
  refine hz.go (by first | exact ⟨.inl rfl, trivial⟩ | exact ⟨.inl rfl, .inl rfl, trivial⟩ | exact ⟨.inl rfl, .inl rfl, .inl rfl, trivial⟩ | simp [argsOk, argOk, sl, sll]) (WK.now ?_)
  simp only [push_cast, simprocAttr, pods_length, fP, pL]
  refine (cnode_ok c n h.N).at [0, 1, 2, 3, 4, 5, 6, 7] (by simp [PV, Tb, Ps, Psn, Ns, Cs, Csn, fP, pL, fE, errD, errF, pgetD, nodeD, sl, pods_length, intss_length, sbl, ren_none, ren_var, ren_arr, ren_map, ren_mapb, ren_iter, ren_loop, ren_defr, bel_none, bel_var, bel_arr, bel_map, bel_mapb, bel_iter, bel_loop, bel_defr, AV.renL, AV.ren, AV.belL, AV.bel, rn]) (by simp) (by simp [PV, Tb, Ps, Psn, Ns, Cs, Csn, fP, pL, fE, errD, errF, pgetD, nodeD, sl, pods_length, intss_length]) (by simp [PV, Tb, Ps, Psn, Ns, Cs, Csn, fP, pL, fE, errD, errF, pgetD, nodeD, sl, pods_length, intss_length, AV.ren, AV.renL, rn]) (by simp [AV.belL, AV.bel]) (WK.now ?_)
  cases hn : lget c.N n with
  | none =>
    simp only [Cs, nodeD, push_cast, simprocAttr, pods_length, fP, pL]
    refine hcon.at [0, 1, 2, 3, 4, 5, 6, 7] (by simp [PV, Tb, Ps, Psn, Ns, Cs, Csn, fP, pL, fE, errD, errF, pgetD, nodeD, sl, pods_length, intss_length, sbl, ren_none, ren_var, ren_arr, ren_map, ren_mapb, ren_iter, ren_loop, ren_defr, bel_none, bel_var, bel_arr, bel_map, bel_mapb, bel_iter, bel_loop, bel_defr, AV.renL, AV.ren, AV.belL, AV.bel, rn]) (by simp) (by simp [PV, Tb, Ps, Psn, Ns, Cs, Csn, fP, pL, fE, errD, errF, pgetD, nodeD, sl, pods_length, intss_length]) (by simp [PV, Tb, Ps, Psn, Ns, Cs, Csn, fP, pL, fE, errD, errF, pgetD, nodeD, sl, pods_length, intss_length, AV.ren, AV.renL, rn]) (by simp [AV.belL, AV.bel]) (WK.now ?_)
    simp only [Cs, push_cast, simprocAttr, pods_length, fP, pL]
    refine ALoop.mk (fun k t H ds => ∃ i : Nat, k = l.length - i ∧ i ≤ l.length ∧ t = [.dead, .dead, .dead, .dead, .dead, .dead, .dead, .dead, .dead, .pvar 10 0, .dead, .dead, .func 174 [.pvar 9 0, .pvar 10 0], .dead, .dead, .dead, .dead, .dead, .dead, .dead, .dead, .dead, .dead, .dead, .dead, .dead, .dead, .dead, .dead, .dead, .dead, .dead, .dead, .dead, .dead, .dead, .dead, .dead, .sfull 12, .d (.int .i64 l.length), .d (.int .i64 (i : Nat)), .dead, .dead, .dead, .dead, .dead, .dead, .dead, .dead, .dead, .dead, .dead, .dead, .dead] ∧ H = Hn c p wo l ∧ ds = []) l.length
      (WK.fgt (t' := [.dead, .dead, .dead, .dead, .dead, .dead, .dead, .dead, .dead, .pvar 10 0, .dead, .dead, .func 174 [.pvar 9 0, .pvar 10 0], .dead, .dead, .dead, .dead, .dead, .dead, .dead, .dead, .dead, .dead, .dead, .dead, .dead, .dead, .dead, .dead, .dead, .dead, .dead, .dead, .dead, .dead, .dead, .dead, .dead, .sfull 12, .d (.int .i64 l.length), .d (.int .i64 (0 : Nat)), .dead, .dead, .dead, .dead, .dead, .dead, .dead, .dead, .dead, .dead, .dead, .dead, .dead]) (by simp [fgt]) (WK.now ⟨0, by omega, by omega, rfl, rfl, rfl⟩)) ?_
    rintro k t H ds ⟨i, rfl, hi, rfl, rfl, rfl⟩
    simp only [Hn, Cs, PV, push_cast, simprocAttr, pods_length, fP, pL]
    refine Kbr.mk (fun b => ?_) (fun b => ?_)
    · have c2 : i < l.length := by simpa using b
      have si := succ64 c2 (show l.length ≤ 4611686018427387904 by omega)
      simp only [c2, seg_pods, push_cast, simprocAttr, pods_length, fP, pL]
      refine (of1_A (l.getD i pz) wo (intss [zrow c.d]) hwo (h0 hn _ (getD_mem c2))).at [9, 10] (by simp [PV, Tb, Ps, Psn, Ns, Cs, Csn, fP, pL, fE, errD, errF, pgetD, nodeD, sl, pods_length, intss_length, sbl, ren_none, ren_var, ren_arr, ren_map, ren_mapb, ren_iter, ren_loop, ren_defr, bel_none, bel_var, bel_arr, bel_map, bel_mapb, bel_iter, bel_loop, bel_defr, AV.renL, AV.ren, AV.belL, AV.bel, rn]) (by simp) (by simp [PV, Tb, Ps, Psn, Ns, Cs, Csn, fP, pL, fE, errD, errF, pgetD, nodeD, sl, pods_length, intss_length]) (by simp [PV, Tb, Ps, Psn, Ns, Cs, Csn, fP, pL, fE, errD, errF, pgetD, nodeD, sl, pods_length, intss_length, AV.ren, AV.renL, rn]) (by simp [AV.belL, AV.bel]) (WK.now ?_)
      simp only [si, push_cast, simprocAttr, pods_length, fP, pL]
      exact ⟨l.length - (i + 1), by omega, WK.fgt (t' := [.dead, .dead, .dead, .dead, .dead, .dead, .dead, .dead, .dead, .pvar 10 0, .dead, .dead, .func 174 [.pvar 9 0, .pvar 10 0], .dead, .dead, .dead, .dead, .dead, .dead, .dead, .dead, .dead, .dead, .dead, .dead, .dead, .dead, .dead, .dead, .dead, .dead, .dead, .dead, .dead, .dead, .dead, .dead, .dead, .sfull 12, .d (.int .i64 l.length), .d (.int .i64 (i + 1 : Nat)), .dead, .dead, .dead, .dead, .dead, .dead, .dead, .dead, .dead, .dead, .dead, .dead, .dead]) (by simp [fgt]) (WK.pick [0, 1, 2, 3, 4, 5, 6, 7, 8, 9, 10, 11, 12] (t' := [.dead, .dead, .dead, .dead, .dead, .dead, .dead, .dead, .dead, .pvar 10 0, .dead, .dead, .func 174 [.pvar 9 0, .pvar 10 0], .dead, .dead, .dead, .dead, .dead, .dead, .dead, .dead, .dead, .dead, .dead, .dead, .dead, .dead, .dead, .dead, .dead, .dead, .dead, .dead, .dead, .dead, .dead, .dead, .dead, .sfull 12, .d (.int .i64 l.length), .d (.int .i64 (i + 1 : Nat)), .dead, .dead, .dead, .dead, .dead, .dead, .dead, .dead, .dead, .dead, .dead, .dead, .dead]) (H' := Hn c p wo l) (by simp [Hn, Cs, PV, pL, intss, sl, sbl, ren_none, ren_var, ren_arr, ren_map, bel_none, bel_var, bel_arr, bel_map, AV.renL, AV.ren, AV.belL, AV.bel, rn]) (by simp) (by simp) (by simp [tellL, AV.ren, AV.renL, AV.bel, AV.belL, rn]) (by decide) (WK.now ⟨i + 1, rfl, by omega, rfl, rfl, rfl⟩))⟩
    · simp only [push_cast, simprocAttr, pods_length, fP, pL]
      have hr : loadR c n wo sv = [zrow c.d] := by unfold loadR; rw [hn]; rfl
      obtain ⟨k1, k2⟩ := rows_ok h (l := []) (by simp)
      rw [hr]
      refine (vadd_ok [zrow c.d] (by unfold Sz; simp) k1 k2).go (by simp [argsOk, argOk, sll]) (WK.now ?_)
      cases ha : addS [zrow c.d] with
      | none =>
        simp only [resS, push_cast, simprocAttr, pods_length, fP, pL]
        refine WK.now ?_
        simp only [sumR, push_cast, simprocAttr, pods_length, fP, pL]
        first | done | exact ⟨_, rfl⟩ | exact ⟨rfl, _, rfl⟩
      | some v =>
        simp only [resS, push_cast, simprocAttr, pods_length, fP, pL]
        refine WK.now ?_
        simp only [sumR, push_cast, simprocAttr, pods_length, fP, pL]
        first | done | exact ⟨_, rfl⟩ | exact ⟨rfl, _, rfl⟩
  | some e =>
    simp only [Cs, nodeD, push_cast, simprocAttr, pods_length, fP, pL]
    refine DRegL.det [6, 7] [0, 1, 2, 3, 4, 5] [(6, [], []), (7, [], [])] (by kernel_rfl) (by kernel_rfl) (by kernel_rfl) ?_
    simp only [push_cast, simprocAttr, pods_length, fP, pL]
    refine hss.hushAt [0, 1, 2, 3, 4, 5, 6, 7] (by simp [PV, Tb, Ps, Psn, Ns, Cs, Csn, fP, pL, fE, errD, errF, pgetD, nodeD, sl, pods_length, intss_length, sbl, ren_none, ren_var, ren_arr, ren_map, ren_mapb, ren_iter, ren_loop, ren_defr, bel_none, bel_var, bel_arr, bel_map, bel_mapb, bel_iter, bel_loop, bel_defr, AV.renL, AV.ren, AV.belL, AV.bel, rn]) (by simp) (by simp [PV, Tb, Ps, Psn, Ns, Cs, Csn, fP, pL, fE, errD, errF, pgetD, nodeD, sl, pods_length, intss_length]) (by simp [PV, Tb, Ps, Psn, Ns, Cs, Csn, fP, pL, fE, errD, errF, pgetD, nodeD, sl, pods_length, intss_length, AV.ren, AV.renL, rn]) (by simp [AV.belL, AV.bel]) (by simp [lift, putAll, PV, Tb, Ps, Psn, Ns, Cs, Csn, fP, pL, fE, errD, errF, pgetD, nodeD, sl, pods_length, intss_length, sbl, ren_none, ren_var, ren_arr, ren_map, ren_mapb, ren_iter, ren_loop, ren_defr, AV.renL, AV.ren, rn]) ?_
    simp only [sumR, push_cast, simprocAttr, pods_length, fP, pL]
    refine ⟨.inl trivial, room_of (by omega) (by omega), ?_⟩
    refine hcon.at [0, 1, 2, 3, 4, 5, 6, 7] (by simp [PV, Tb, Ps, Psn, Ns, Cs, Csn, fP, pL, fE, errD, errF, pgetD, nodeD, sl, pods_length, intss_length, sbl, ren_none, ren_var, ren_arr, ren_map, ren_mapb, ren_iter, ren_loop, ren_defr, bel_none, bel_var, bel_arr, bel_map, bel_mapb, bel_iter, bel_loop, bel_defr, AV.renL, AV.ren, AV.belL, AV.bel, rn]) (by simp) (by simp [PV, Tb, Ps, Psn, Ns, Cs, Csn, fP, pL, fE, errD, errF, pgetD, nodeD, sl, pods_length, intss_length]) (by simp [PV, Tb, Ps, Psn, Ns, Cs, Csn, fP, pL, fE, errD, errF, pgetD, nodeD, sl, pods_length, intss_length, AV.ren, AV.renL, rn]) (by simp [AV.belL, AV.bel]) (WK.now ?_)
    simp only [Cs, push_cast, simprocAttr, pods_length, fP, pL]
    refine ALoop.mk (fun k t H ds => ∃ i : Nat, k = l.length - i ∧ i ≤ l.length ∧ t = [.dead, .dead, .dead, .dead, .dead, .dead, .dead, .dead, .dead, .pvar 10 0, .dead, .dead, .func 174 [.pvar 9 0, .pvar 10 0], .dead, .dead, .dead, .dead, .dead, .dead, .dead, .dead, .dead, .dead, .dead, .dead, .dead, .dead, .dead, .dead, .dead, .dead, .dead, .dead, .dead, .dead, .dead, .dead, .dead, .sfull 13, .d (.int .i64 l.length), .d (.int .i64 (i : Nat)), .dead, .dead, .dead, .dead, .dead, .dead, .dead, .dead, .dead, .dead, .dead, .dead, .dead] ∧ H = He c p wo e l (zrow c.d :: sv :: reqs ((l.take i).filter (takes wo))) ∧ ds = []) l.length
      (WK.fgt (t' := [.dead, .dead, .dead, .dead, .dead, .dead, .dead, .dead, .dead, .pvar 10 0, .dead, .dead, .func 174 [.pvar 9 0, .pvar 10 0], .dead, .dead, .dead, .dead, .dead, .dead, .dead, .dead, .dead, .dead, .dead, .dead, .dead, .dead, .dead, .dead, .dead, .dead, .dead, .dead, .dead, .dead, .dead, .dead, .dead, .sfull 13, .d (.int .i64 l.length), .d (.int .i64 (0 : Nat)), .dead, .dead, .dead, .dead, .dead, .dead, .dead, .dead, .dead, .dead, .dead, .dead, .dead]) (by simp [fgt]) (WK.now ⟨0, by omega, by omega, rfl, rfl, rfl⟩)) ?_
    rintro k t H ds ⟨i, rfl, hi, rfl, rfl, rfl⟩
    simp only [He, Cs, PV, push_cast, simprocAttr, pods_length, fP, pL]
    refine Kbr.mk (fun b => ?_) (fun b => ?_)
    · have c2 : i < l.length := by simpa using b
      have si := succ64 c2 (show l.length ≤ 4611686018427387904 by omega)
      have hf := filt_snoc (takes wo) c2
      have hfl : ((l.take i).filter (takes wo)).length ≤ 65536 := by
        refine Nat.le_trans (List.length_filter_le _ _) ?_
        simp; omega
      simp only [c2, seg_pods, push_cast, simprocAttr, pods_length, fP, pL]
      cases ht : takes wo (l.getD i pz) with
      | false =>
        rw [ht, if_neg (by simp), List.append_nil] at hf
        refine (of1_no (l.getD i pz) wo (zrow c.d :: sv :: reqs ((l.take i).filter (takes wo))) hwo ht).at [9, 10, 12] (by simp [PV, Tb, Ps, Psn, Ns, Cs, Csn, fP, pL, fE, errD, errF, pgetD, nodeD, sl, pods_length, intss_length, sbl, ren_none, ren_var, ren_arr, ren_map, ren_mapb, ren_iter, ren_loop, ren_defr, bel_none, bel_var, bel_arr, bel_map, bel_mapb, bel_iter, bel_loop, bel_defr, AV.renL, AV.ren, AV.belL, AV.bel, rn]) (by simp) (by simp [PV, Tb, Ps, Psn, Ns, Cs, Csn, fP, pL, fE, errD, errF, pgetD, nodeD, sl, pods_length, intss_length]) (by simp [PV, Tb, Ps, Psn, Ns, Cs, Csn, fP, pL, fE, errD, errF, pgetD, nodeD, sl, pods_length, intss_length, AV.ren, AV.renL, rn]) (by simp [AV.belL, AV.bel]) (WK.now ?_)
        simp only [si, push_cast, simprocAttr, pods_length, fP, pL]
        exact ⟨l.length - (i + 1), by omega, WK.fgt (t' := [.dead, .dead, .dead, .dead, .dead, .dead, .dead, .dead, .dead, .pvar 10 0, .dead, .dead, .func 174 [.pvar 9 0, .pvar 10 0], .dead, .dead, .dead, .dead, .dead, .dead, .dead, .dead, .dead, .dead, .dead, .dead, .dead, .dead, .dead, .dead, .dead, .dead, .dead, .dead, .dead, .dead, .dead, .dead, .dead, .sfull 13, .d (.int .i64 l.length), .d (.int .i64 (i + 1 : Nat)), .dead, .dead, .dead, .dead, .dead, .dead, .dead, .dead, .dead, .dead, .dead, .dead, .dead]) (by simp [fgt]) (WK.pick [0, 1, 2, 3, 4, 5, 6, 7, 8, 9, 10, 11, 12, 13] (t' := [.dead, .dead, .dead, .dead, .dead, .dead, .dead, .dead, .dead, .pvar 10 0, .dead, .dead, .func 174 [.pvar 9 0, .pvar 10 0], .dead, .dead, .dead, .dead, .dead, .dead, .dead, .dead, .dead, .dead, .dead, .dead, .dead, .dead, .dead, .dead, .dead, .dead, .dead, .dead, .dead, .dead, .dead, .dead, .dead, .sfull 13, .d (.int .i64 l.length), .d (.int .i64 (i + 1 : Nat)), .dead, .dead, .dead, .dead, .dead, .dead, .dead, .dead, .dead, .dead, .dead, .dead, .dead]) (H' := He c p wo e l (zrow c.d :: sv :: reqs ((l.take i).filter (takes wo)))) (by simp [He, Cs, PV, pL, sbl, ren_none, ren_var, ren_arr, ren_map, bel_none, bel_var, bel_arr, bel_map, AV.renL, AV.ren, AV.belL, AV.bel, rn]) (by simp) (by simp) (by simp [tellL, AV.ren, AV.renL, AV.bel, AV.belL, rn]) (by decide) (WK.now ⟨i + 1, rfl, by omega, rfl, by rw [hf]; rfl, rfl⟩))⟩
      | true =>
        rw [ht, if_pos rfl] at hf
        refine (of1_yes (l.getD i pz) wo (zrow c.d :: sv :: reqs ((l.take i).filter (takes wo))) hwo (by simp only [List.length_cons, reqs_length]; omega) ht).at [9, 10, 12] (by simp [PV, Tb, Ps, Psn, Ns, Cs, Csn, fP, pL, fE, errD, errF, pgetD, nodeD, sl, pods_length, intss_length, sbl, ren_none, ren_var, ren_arr, ren_map, ren_mapb, ren_iter, ren_loop, ren_defr, bel_none, bel_var, bel_arr, bel_map, bel_mapb, bel_iter, bel_loop, bel_defr, AV.renL, AV.ren, AV.belL, AV.bel, rn]) (by simp) (by simp [PV, Tb, Ps, Psn, Ns, Cs, Csn, fP, pL, fE, errD, errF, pgetD, nodeD, sl, pods_length, intss_length]) (by simp [PV, Tb, Ps, Psn, Ns, Cs, Csn, fP, pL, fE, errD, errF, pgetD, nodeD, sl, pods_length, intss_length, AV.ren, AV.renL, rn]) (by simp [AV.belL, AV.bel]) (WK.now ?_)
        simp only [si, push_cast, simprocAttr, pods_length, fP, pL]
        exact ⟨l.length - (i + 1), by omega, WK.fgt (t' := [.dead, .dead, .dead, .dead, .dead, .dead, .dead, .dead, .dead, .pvar 10 0, .dead, .dead, .func 174 [.pvar 9 0, .pvar 10 0], .dead, .dead, .dead, .dead, .dead, .dead, .dead, .dead, .dead, .dead, .dead, .dead, .dead, .dead, .dead, .dead, .dead, .dead, .dead, .dead, .dead, .dead, .dead, .dead, .dead, .sfull 13, .d (.int .i64 l.length), .d (.int .i64 (i + 1 : Nat)), .dead, .dead, .dead, .dead, .dead, .dead, .dead, .dead, .dead, .dead, .dead, .dead, .dead]) (by simp [fgt]) (WK.pick [0, 1, 2, 3, 4, 5, 6, 7, 8, 9, 10, 11, 16, 13] (t' := [.dead, .dead, .dead, .dead, .dead, .dead, .dead, .dead, .dead, .pvar 10 0, .dead, .dead, .func 174 [.pvar 9 0, .pvar 10 0], .dead, .dead, .dead, .dead, .dead, .dead, .dead, .dead, .dead, .dead, .dead, .dead, .dead, .dead, .dead, .dead, .dead, .dead, .dead, .dead, .dead, .dead, .dead, .dead, .dead, .sfull 13, .d (.int .i64 l.length), .d (.int .i64 (i + 1 : Nat)), .dead, .dead, .dead, .dead, .dead, .dead, .dead, .dead, .dead, .dead, .dead, .dead, .dead]) (H' := He c p wo e l (zrow c.d :: sv :: reqs ((l.take i).filter (takes wo)) ++ [(l.getD i pz).2])) (by simp [He, Cs, PV, pL, sbl, ren_none, ren_var, ren_arr, ren_map, bel_none, bel_var, bel_arr, bel_map, AV.renL, AV.ren, AV.belL, AV.bel, rn]) (by simp) (by simp) (by simp [tellL, AV.ren, AV.renL, AV.bel, AV.belL, rn]) (by decide) (WK.now ⟨i + 1, rfl, by omega, rfl, by rw [hf, show reqs ((l.take i).filter (takes wo) ++ [l.getD i pz]) = reqs ((l.take i).filter (takes wo)) ++ [(l.getD i pz).2] by simp [reqs]]; rfl, rfl⟩))⟩
    · have hti : l.take i = l := List.take_of_length_le (by have : ¬ i < l.length := by simpa using b
                                                            omega)
      rw [hti]
      simp only [push_cast, simprocAttr, pods_length, fP, pL]
      have hr : loadR c n wo sv = zrow c.d :: sv :: reqs (l.filter (takes wo)) := by unfold loadR heldL; rw [hn, ← hl]; rfl
      obtain ⟨k1, k2⟩ := rows_ok2 h hsz hin (l := l.filter (takes wo)) (fun q hq => hmem q (List.mem_filter.1 hq).1)
      have hfl : (l.filter (takes wo)).length ≤ 65536 := Nat.le_trans (List.length_filter_le _ _) hll
      rw [hr]
      refine (vadd_ok _ (by unfold Sz; simp [reqs_length]; omega) k1 k2).frzgo 12 rfl (by simp [AV.frzL, AV.frz, argsOk, argOk, sll]) (WK.now ?_)
      cases ha : addS (zrow c.d :: sv :: reqs (l.filter (takes wo))) with
      | none =>
        simp only [resS, push_cast, simprocAttr, pods_length, fP, pL]
        refine WK.now ?_
        simp only [sumR, push_cast, simprocAttr, pods_length, fP, pL]
        first | done | exact ⟨_, rfl⟩ | exact ⟨rfl, _, rfl⟩
      | some v =>
        simp only [resS, push_cast, simprocAttr, pods_length, fP, pL]
        refine WK.now ?_
        simp only [sumR, push_cast, simprocAttr, pods_length, fP, pL]
        first | done | exact ⟨_, rfl⟩ | exact ⟨rfl, _, rfl⟩
end Go.Proofs.YtcmhdpbmcgglmaaGreatDoor
end
section
set_option autoImplicit false
set_option linter.unusedVariables false
set_option linter.unusedSimpArgs false
namespace Go.Proofs.YtcmhdpbmcgglmaaGreatDoor
open Go.Abs
structure LdOk (c : Cl) (p : Pod) (n : Int) (wo lv : List Int) : Prop where
  ok : ClOk c
  len : c.ids.length ≤ 65536
  hwo : wo.length ≤ 4611686018427387904
  sum : ∃ sv, addS (zrow c.d :: reqs (seenL c p n)) = some sv ∧ Sz sv ∧ InR sv ∧ addS (loadR c n wo sv) = some lv
  sz : Sz lv
  inr : InR lv
  out : lget c.N n = none → ∀ q ∈ listed c.L (onP n) c.ids, takes wo q = false
theorem of_go {c : Cl} {p : Pod} {n : Int} {wo lv : List Int} (h : LdOk c p n wo lv) :
    ACalls env 157 [.pvar 7 0, .d (fP p), .d (.int .i64 n), .d (.slice 1 (ints wo))] (Cs c) fun r H' => r = .d (sl lv) ∧ H' = Cs c := by
  obtain ⟨sv, h1, h2, h3, h4⟩ := h.sum
  have := lof_ok c p n wo h.ok h.len h.hwo sv h1 h2 h3 h.out
  rw [h4] at this
  exact this
noncomputable def totS (c : Cl) (p : Pod) (n : Int) (lv : List Int) : Option (Option (List Int) × List Int) :=
  match lget c.N n with
  | none => none
  | some e => if 0 ≤ wrongS p.2 c.d then none else some (addS [lv, p.2], e.2.1)
def totD : Option (Option (List Int) × List Int) → D
  | none => .tup [.nils, .nils, .bool false]
  | some (s, cap) => .tup [sumR s, sl cap, .bool s.isSome]
theorem two_rows2 (u v : List Int) : [[D.slice 1 (ints u)], [D.slice 1 (ints v)]] = intss [u, v] := rfl
theorem ok_len {v : List Int} {d : Int} (h : ¬ 0 ≤ wrongS v d) (hd : d ≤ 1000000) : Sz v ∧ InR v := by
  obtain ⟨h1, h2⟩ := wrongS_neg h
  exact ⟨by unfold Sz; omega, inR_of fun x hx => by have := h2 x hx; unfold I64; omega⟩
set_option maxRecDepth 8000 in
theorem total_ok {c : Cl} {p : Pod} {n : Int} {wo lv : List Int} (h : LdOk c p n wo lv) (hp : Sz p.2) :
    ACalls env 147 [.pvar 7 0, .d (fP p), .d (.int .i64 n), .d (.slice 1 (ints wo))] (Cs c) fun r H' => r = .d (totD (totS c p n lv)) ∧ H' = Cs c := by
  have hof := of_go h
  have hd := h.ok.d
  unfold Cs
  refine ACalls.cutTo [0, 1, 2, 3, 4, 5, 6, 7] rfl ?_ (fun l => by simp [PV, Tb, Ps, Psn, Ns, Cs, Csn, fP, pL, fE, errD, errF, pgetD, nodeD, sl, pods_length, intss_length, sbl, ren_none, ren_var, ren_arr, ren_map, ren_mapb, ren_iter, ren_loop, ren_defr, bel_none, bel_var, bel_arr, bel_map, bel_mapb, bel_iter, bel_loop, bel_defr, AV.renL, AV.ren, AV.belL, AV.bel, rn]) (fun m => by simp [tellL, AV.ren, AV.renL, AV.bel, AV.belL, rn])
  refine acalls_of envOk Tryz.func147 rfl (by kernel_rfl) (m := 40) rfl ?_
  simp only [push_cast, simprocAttr, pods_length, fP, pL]
  refine (cnode_ok c n h.ok.N).at [0, 1, 2, 3, 4, 5, 6, 7] (by simp [PV, Tb, Ps, Psn, Ns, Cs, Csn, fP, pL, fE, errD, errF, pgetD, nodeD, sl, pods_length, intss_length, sbl, ren_none, ren_var, ren_arr, ren_map, ren_mapb, ren_iter, ren_loop, ren_defr, bel_none, bel_var, bel_arr, bel_map, bel_mapb, bel_iter, bel_loop, bel_defr, AV.renL, AV.ren, AV.belL, AV.bel, rn]) (by simp) (by simp [PV, Tb, Ps, Psn, Ns, Cs, Csn, fP, pL, fE, errD, errF, pgetD, nodeD, sl, pods_length, intss_length]) (by simp [PV, Tb, Ps, Psn, Ns, Cs, Csn, fP, pL, fE, errD, errF, pgetD, nodeD, sl, pods_length, intss_length, AV.ren, AV.renL, rn]) (by simp [AV.belL, AV.bel]) (WK.now ?_)
  cases hn : lget c.N n with
  | none =>
    simp only [Cs, nodeD, push_cast, simprocAttr, pods_length, fP, pL]
    refine DRegL.det [] [0, 1, 2, 3, 4, 5, 6, 7, 8, 9] [] (by kernel_rfl) (by kernel_rfl) (by kernel_rfl) ?_
    simp only [push_cast, simprocAttr, pods_length, fP, pL]
    refine WK.now ?_
    simp only [totS, totD, hn, push_cast, simprocAttr, pods_length, fP, pL]
    first | done | exact ⟨_, rfl⟩ | exact ⟨rfl, _, rfl⟩
  | some e =>
    simp only [Cs, nodeD, push_cast, simprocAttr, pods_length, fP, pL]
    refine DRegL.det [] [0, 1, 2, 3, 4, 5, 6, 7, 8, 9] [] (by kernel_rfl) (by kernel_rfl) (by kernel_rfl) ?_
    simp only [push_cast, simprocAttr, pods_length, fP, pL]
    refine (cdims_ok c).hushAt [0, 1, 2, 3, 4, 5, 6, 7] (by simp [PV, Tb, Ps, Psn, Ns, Cs, Csn, fP, pL, fE, errD, errF, pgetD, nodeD, sl, pods_length, intss_length, sbl, ren_none, ren_var, ren_arr, ren_map, ren_mapb, ren_iter, ren_loop, ren_defr, bel_none, bel_var, bel_arr, bel_map, bel_mapb, bel_iter, bel_loop, bel_defr, AV.renL, AV.ren, AV.belL, AV.bel, rn]) (by simp) (by simp [PV, Tb, Ps, Psn, Ns, Cs, Csn, fP, pL, fE, errD, errF, pgetD, nodeD, sl, pods_length, intss_length]) (by simp [PV, Tb, Ps, Psn, Ns, Cs, Csn, fP, pL, fE, errD, errF, pgetD, nodeD, sl, pods_length, intss_length, AV.ren, AV.renL, rn]) (by simp [AV.belL, AV.bel]) (by simp [lift, putAll, PV, Tb, Ps, Psn, Ns, Cs, Csn, fP, pL, fE, errD, errF, pgetD, nodeD, sl, pods_length, intss_length, sbl, ren_none, ren_var, ren_arr, ren_map, ren_mapb, ren_iter, ren_loop, ren_defr, AV.renL, AV.ren, rn]) ?_
    simp only [push_cast, simprocAttr, pods_length, fP, pL]
    refine (vwrong_ok p.2 c.d (Nat.le_trans hp (by omega))).quiet' (by first | exact ⟨.inl rfl, trivial⟩ | exact ⟨.inl rfl, .inl rfl, trivial⟩ | exact ⟨.inl rfl, .inl rfl, .inl rfl, trivial⟩ | simp [argsOk, argOk, sl, sll]) ?_
    by_cases hw : 0 ≤ wrongS p.2 c.d
    · have hb : decide (wrongS p.2 c.d ≥ 0) = true := decide_eq_true hw
      simp only [hb, push_cast, simprocAttr, pods_length, fP, pL]
      refine WK.now ?_
      simp only [totS, totD, hn, hw, push_cast, simprocAttr, pods_length, fP, pL]
      first | done | exact ⟨_, rfl⟩ | exact ⟨rfl, _, rfl⟩
    · have hb : decide (wrongS p.2 c.d ≥ 0) = false := decide_eq_false hw
      obtain ⟨g1, g2⟩ := ok_len hw hd
      simp only [hb, push_cast, simprocAttr, pods_length, fP, pL]
      refine DRegL.det [] [0, 1, 2, 3, 4, 5, 6, 7, 8, 9, 10, 11, 12, 13] [] (by kernel_rfl) (by kernel_rfl) (by kernel_rfl) ?_
      simp only [push_cast, simprocAttr, pods_length, fP, pL]
      refine hof.hushAt [0, 1, 2, 3, 4, 5, 6, 7] (by simp [PV, Tb, Ps, Psn, Ns, Cs, Csn, fP, pL, fE, errD, errF, pgetD, nodeD, sl, pods_length, intss_length, sbl, ren_none, ren_var, ren_arr, ren_map, ren_mapb, ren_iter, ren_loop, ren_defr, bel_none, bel_var, bel_arr, bel_map, bel_mapb, bel_iter, bel_loop, bel_defr, AV.renL, AV.ren, AV.belL, AV.bel, rn]) (by simp) (by simp [PV, Tb, Ps, Psn, Ns, Cs, Csn, fP, pL, fE, errD, errF, pgetD, nodeD, sl, pods_length, intss_length]) (by simp [PV, Tb, Ps, Psn, Ns, Cs, Csn, fP, pL, fE, errD, errF, pgetD, nodeD, sl, pods_length, intss_length, AV.ren, AV.renL, rn]) (by simp [AV.belL, AV.bel]) (by simp [lift, putAll, PV, Tb, Ps, Psn, Ns, Cs, Csn, fP, pL, fE, errD, errF, pgetD, nodeD, sl, pods_length, intss_length, sbl, ren_none, ren_var, ren_arr, ren_map, ren_mapb, ren_iter, ren_loop, ren_defr, AV.renL, AV.ren, rn]) ?_
      simp only [two_rows2, push_cast, simprocAttr, pods_length, fP, pL]
      refine (vadd_ok [lv, p.2] (by unfold Sz; simp) (rows2 h.sz g1) (rows2 h.inr g2)).quiet' (by first | exact ⟨.inl rfl, trivial⟩ | exact ⟨.inl rfl, .inl rfl, trivial⟩ | exact ⟨.inl rfl, .inl rfl, .inl rfl, trivial⟩ | simp [argsOk, argOk, sl, sll]) ?_
      cases ha : addS [lv, p.2] with
      | none =>
        simp only [resS, push_cast, simprocAttr, pods_length, fP, pL]
        refine DRegL.det [] [0, 1, 2, 3, 4, 5, 6] [] (by kernel_rfl) (by kernel_rfl) (by kernel_rfl) ?_
        simp only [push_cast, simprocAttr, pods_length, fP, pL]
        refine WK.now ?_
        simp only [totS, totD, hn, hw, ha, sumR, push_cast, simprocAttr, pods_length, fP, pL]
        first | done | exact ⟨_, rfl⟩ | exact ⟨rfl, _, rfl⟩
      | some v =>
        simp only [resS, push_cast, simprocAttr, pods_length, fP, pL]
        refine DRegL.det [] [0, 1, 2, 3, 4, 5, 6] [] (by kernel_rfl) (by kernel_rfl) (by kernel_rfl) ?_
        simp only [push_cast, simprocAttr, pods_length, fP, pL]
        refine WK.now ?_
        simp only [totS, totD, hn, hw, ha, sumR, push_cast, simprocAttr, pods_length, fP, pL]
        first | done | exact ⟨_, rfl⟩ | exact ⟨rfl, _, rfl⟩
theorem total_nil {c : Cl} {p : Pod} {n : Int} {lv : List Int} (h : LdOk c p n [] lv) (hp : Sz p.2) :
    ACalls env 147 [.pvar 7 0, .d (fP p), .d (.int .i64 n), .d .nils] (Cs c) fun r H' => r = .d (totD (totS c p n lv)) ∧ H' = Cs c :=
  ACalls.told (Wk.nilslot 3 1 rfl) (Nat.le_refl _) (total_ok h hp)
noncomputable def fitB : Option (Option (List Int) × List Int) → Bool
  | some (some s, cap) => B (FitsP s cap)
  | _ => false
theorem tot_good {c : Cl} {p : Pod} {n : Int} {wo lv s cap : List Int} (h : LdOk c p n wo lv) (e : totS c p n lv = some (some s, cap)) : Sz s ∧ InR s ∧ Sz cap ∧ InR cap := by
  unfold totS at e
  cases hn : lget c.N n with
  | none => rw [hn] at e; cases e
  | some x =>
    rw [hn] at e
    dsimp only at e
    by_cases hw : 0 ≤ wrongS p.2 c.d
    · rw [if_pos hw] at e; cases e
    · rw [if_neg hw] at e
      obtain ⟨g1, g2⟩ := ok_len hw h.ok.d
      have e' := Option.some.inj e
      have e1 : addS [lv, p.2] = some s := congrArg Prod.fst e'
      have e2 : x.2.1 = cap := congrArg Prod.snd e'
      obtain ⟨k1, k2, k3, k4⟩ := h.ok.N n x hn
      rw [← e2]
      exact ⟨addS_sz e1 (rows2 h.sz g1), addS_inR e1, k3, k1⟩
set_option maxRecDepth 8000 in
theorem fits_ok' {c : Cl} {p : Pod} {n : Int} {wo lv : List Int} (h : LdOk c p n wo lv) (hp : Sz p.2) :
    ACalls env 125 [.pvar 7 0, .d (fP p), .d (.int .i64 n), .d (.slice 1 (ints wo))] (Cs c) fun r H' => r = .d (.bool (fitB (totS c p n lv))) ∧ H' = Cs c := by
  have htot := total_ok h hp
  unfold Cs
  refine ACalls.cutTo [0, 1, 2, 3, 4, 5, 6, 7] rfl ?_ (fun l => by simp [PV, Tb, Ps, Psn, Ns, Cs, Csn, fP, pL, fE, errD, errF, pgetD, nodeD, sl, pods_length, intss_length, sbl, ren_none, ren_var, ren_arr, ren_map, ren_mapb, ren_iter, ren_loop, ren_defr, bel_none, bel_var, bel_arr, bel_map, bel_mapb, bel_iter, bel_loop, bel_defr, AV.renL, AV.ren, AV.belL, AV.bel, rn]) (fun m => by simp [tellL, AV.ren, AV.renL, AV.bel, AV.belL, rn])
  refine acalls_of envOk Tryz.func125 rfl (by kernel_rfl) (m := 23) rfl ?_
  simp only [push_cast, simprocAttr, pods_length, fP, pL]
  refine htot.at [0, 1, 2, 3, 4, 5, 6, 7] (by simp [PV, Tb, Ps, Psn, Ns, Cs, Csn, fP, pL, fE, errD, errF, pgetD, nodeD, sl, pods_length, intss_length, sbl, ren_none, ren_var, ren_arr, ren_map, ren_mapb, ren_iter, ren_loop, ren_defr, bel_none, bel_var, bel_arr, bel_map, bel_mapb, bel_iter, bel_loop, bel_defr, AV.renL, AV.ren, AV.belL, AV.bel, rn]) (by simp) (by simp [PV, Tb, Ps, Psn, Ns, Cs, Csn, fP, pL, fE, errD, errF, pgetD, nodeD, sl, pods_length, intss_length]) (by simp [PV, Tb, Ps, Psn, Ns, Cs, Csn, fP, pL, fE, errD, errF, pgetD, nodeD, sl, pods_length, intss_length, AV.ren, AV.renL, rn]) (by simp [AV.belL, AV.bel]) (WK.now ?_)
  cases ht : totS c p n lv with
  | none =>
    simp only [Cs, totD, push_cast, simprocAttr, pods_length, fP, pL]
    refine WK.now ?_
    simp only [fitB, push_cast, simprocAttr, pods_length, fP, pL]
    first | done | exact ⟨_, rfl⟩ | exact ⟨rfl, _, rfl⟩
  | some x =>
    obtain ⟨o, cap⟩ := x
    cases o with
    | none =>
      simp only [Cs, totD, sumR, push_cast, simprocAttr, pods_length, fP, pL]
      refine WK.now ?_
      simp only [fitB, push_cast, simprocAttr, pods_length, fP, pL]
      first | done | exact ⟨_, rfl⟩ | exact ⟨rfl, _, rfl⟩
    | some s =>
      obtain ⟨g1, g2, g3, g4⟩ := tot_good h ht
      simp only [Cs, totD, sumR, push_cast, simprocAttr, pods_length, fP, pL]
      refine (vfits_ok s cap g1 g2 g4).go (by first | exact ⟨.inl rfl, trivial⟩ | exact ⟨.inl rfl, .inl rfl, trivial⟩ | exact ⟨.inl rfl, .inl rfl, .inl rfl, trivial⟩ | simp [argsOk, argOk, sl, sll]) (WK.now ?_)
      simp only [push_cast, simprocAttr, pods_length, fP, pL]
      refine WK.now ?_
      simp only [fitB, push_cast, simprocAttr, pods_length, fP, pL]
      first | done | exact ⟨_, rfl⟩ | exact ⟨rfl, _, rfl⟩
theorem fits_nil {c : Cl} {p : Pod} {n : Int} {lv : List Int} (h : LdOk c p n [] lv) (hp : Sz p.2) :
    ACalls env 125 [.pvar 7 0, .d (fP p), .d (.int .i64 n), .d .nils] (Cs c) fun r H' => r = .d (.bool (fitB (totS c p n lv))) ∧ H' = Cs c :=
  ACalls.told (Wk.nilslot 3 1 rfl) (Nat.le_refl _) (fits_ok' h hp)
def shortD : Option (Option (List Int) × List Int) → D
  | some (some s, cap) => sl (List.zipWith (fun x y => max x y - y) s cap)
  | _ => .nils
theorem most_sub {s cap : List Int} (hl : s.length = cap.length) (h1 : InR s) (h2 : InR cap) (hb : ∀ n ∈ cap, 0 ≤ n) : bothS (fun x y => max x y) (fun x y => true) s cap = some (List.zipWith max s cap) ∧
    subS (List.zipWith max s cap) cap = some (List.zipWith (fun x y => max x y - y) s cap) ∧ InR (List.zipWith max s cap) := by
  refine ⟨?_, ?_, inR_of fun x hx => ?_⟩
  · unfold bothS
    rw [B_true ⟨hl, fun _ _ => rfl⟩]
    rfl
  · have hz : ∀ k, k < s.length → (List.zipWith max s cap).getD k 0 = max (s.getD k 0) (cap.getD k 0) := fun k hk => by
      have e1 : s[k]? = some s[k] := List.getElem?_eq_getElem hk
      have e2 : cap[k]? = some cap[k] := List.getElem?_eq_getElem (by omega)
      simp only [List.getD_eq_getElem?_getD, List.getElem?_zipWith, e1, e2, Option.getD_some]
    rw [subS_yes (by simp [hl]) fun k hk => by
      have hk' : k < s.length := by simp at hk; omega
      rw [hz k hk']
      have a1 := h1 k
      have a2 := h2 k
      have a3 : 0 ≤ cap.getD k 0 := by
        rw [List.getD_eq_getElem?_getD, List.getElem?_eq_getElem (show k < cap.length by omega)]
        exact hb _ (List.getElem_mem _)
      unfold I64 at a1 a2
      omega]
    congr 1
    refine List.ext_getElem (by simp) fun k g1 g2 => ?_
    simp
  · obtain ⟨k, hk, rfl⟩ := List.getElem_of_mem hx
    have hk' : k < s.length ∧ k < cap.length := by simp at hk; omega
    have a1 := InR.mem h1 _ (List.getElem_mem hk'.1)
    have a2 := InR.mem h2 _ (List.getElem_mem hk'.2)
    simp only [List.getElem_zipWith]
    unfold I64 at *
    omega
set_option maxRecDepth 8000 in
theorem short_ok {c : Cl} {p : Pod} {n : Int} {lv : List Int} (h : LdOk c p n [] lv) (hp : Sz p.2) (hl : ∀ s cap, totS c p n lv = some (some s, cap) → s.length = cap.length ∧ ∀ n ∈ cap, 0 ≤ n) :
    ACalls env 121 [.pvar 7 0, .d (fP p), .d (.int .i64 n)] (Cs c) fun r H' => r = .d (shortD (totS c p n lv)) ∧ H' = Cs c := by
  have htot := total_nil h hp
  unfold Cs
  refine ACalls.cutTo [0, 1, 2, 3, 4, 5, 6, 7] rfl ?_ (fun l => by simp [PV, Tb, Ps, Psn, Ns, Cs, Csn, fP, pL, fE, errD, errF, pgetD, nodeD, sl, pods_length, intss_length, sbl, ren_none, ren_var, ren_arr, ren_map, ren_mapb, ren_iter, ren_loop, ren_defr, bel_none, bel_var, bel_arr, bel_map, bel_mapb, bel_iter, bel_loop, bel_defr, AV.renL, AV.ren, AV.belL, AV.bel, rn]) (fun m => by simp [tellL, AV.ren, AV.renL, AV.bel, AV.belL, rn])
  refine acalls_of envOk Tryz.func121 rfl (by kernel_rfl) (m := 34) rfl ?_
  simp only [push_cast, simprocAttr, pods_length, fP, pL]
  refine htot.at [0, 1, 2, 3, 4, 5, 6, 7] (by simp [PV, Tb, Ps, Psn, Ns, Cs, Csn, fP, pL, fE, errD, errF, pgetD, nodeD, sl, pods_length, intss_length, sbl, ren_none, ren_var, ren_arr, ren_map, ren_mapb, ren_iter, ren_loop, ren_defr, bel_none, bel_var, bel_arr, bel_map, bel_mapb, bel_iter, bel_loop, bel_defr, AV.renL, AV.ren, AV.belL, AV.bel, rn]) (by simp) (by simp [PV, Tb, Ps, Psn, Ns, Cs, Csn, fP, pL, fE, errD, errF, pgetD, nodeD, sl, pods_length, intss_length]) (by simp [PV, Tb, Ps, Psn, Ns, Cs, Csn, fP, pL, fE, errD, errF, pgetD, nodeD, sl, pods_length, intss_length, AV.ren, AV.renL, rn]) (by simp [AV.belL, AV.bel]) (WK.now ?_)
  cases ht : totS c p n lv with
  | none =>
    simp only [Cs, totD, push_cast, simprocAttr, pods_length, fP, pL]
    refine WK.now ?_
    simp only [shortD, push_cast, simprocAttr, pods_length, fP, pL]
    first | done | exact ⟨_, rfl⟩ | exact ⟨rfl, _, rfl⟩
  | some x =>
    obtain ⟨o, cap⟩ := x
    cases o with
    | none =>
      simp only [Cs, totD, sumR, push_cast, simprocAttr, pods_length, fP, pL]
      refine WK.now ?_
      simp only [shortD, push_cast, simprocAttr, pods_length, fP, pL]
      first | done | exact ⟨_, rfl⟩ | exact ⟨rfl, _, rfl⟩
    | some s =>
      obtain ⟨g1, g2, g3, g4⟩ := tot_good h ht
      obtain ⟨q1, q2⟩ := hl s cap ht
      obtain ⟨m1, m2, m3⟩ := most_sub q1 g2 g4 q2
      have hm := vmost_ok s cap g1 g2 g4
      rw [m1] at hm
      have hs := vsub_ok (List.zipWith max s cap) cap (by unfold Sz at *; simp; omega) m3 g4
      rw [m2] at hs
      simp only [Cs, totD, sumR, push_cast, simprocAttr, pods_length, fP, pL]
      refine hm.go (by first | exact ⟨.inl rfl, trivial⟩ | exact ⟨.inl rfl, .inl rfl, trivial⟩ | exact ⟨.inl rfl, .inl rfl, .inl rfl, trivial⟩ | simp [argsOk, argOk, sl, sll]) (WK.now ?_)
      simp only [resS, push_cast, simprocAttr, pods_length, fP, pL]
      refine hs.go (by first | exact ⟨.inl rfl, trivial⟩ | exact ⟨.inl rfl, .inl rfl, trivial⟩ | exact ⟨.inl rfl, .inl rfl, .inl rfl, trivial⟩ | simp [argsOk, argOk, sl, sll]) (WK.now ?_)
      simp only [resS, push_cast, simprocAttr, pods_length, fP, pL]
      refine WK.now ?_
      simp only [shortD, push_cast, simprocAttr, pods_length, fP, pL]
      first | done | exact ⟨_, rfl⟩ | exact ⟨rfl, _, rfl⟩
end Go.Proofs.YtcmhdpbmcgglmaaGreatDoor
end
section
set_option autoImplicit false
set_option linter.unusedVariables false
set_option linter.unusedSimpArgs false
namespace Go.Proofs.YtcmhdpbmcgglmaaGreatDoor
open Go.Abs
noncomputable def seenP (P : List Pod) (p : Pod) (n : Int) : List Pod := P.filter fun q => B (SeesP p q n)
def reqV (l : List Pod) (k : Nat) : Int := (l.map fun q => q.2.getD k 0).sum
theorem reqV_col (l : List Pod) (k : Nat) : colV (reqs l) k = reqV l k := by
  unfold colV reqs reqV
  rw [List.map_map]
  rfl
theorem reqV_bd (k : Nat) : ∀ (l : List Pod), (∀ q ∈ l, GoodV q.2) → 0 ≤ reqV l k ∧ reqV l k ≤ 1099511627776 * (l.length : Int)
  | [], _ => by simp [reqV]
  | q :: l, h => by
    have h1 := reqV_bd k l fun x hx => h x (by simp [hx])
    have h2 := (h q (by simp)).at k
    simp only [reqV, List.map_cons, List.sum_cons, List.length_cons] at h1 ⊢
    omega
def two (l : List Pod) : List Int := [reqV l 0, reqV l 1]
end Go.Proofs.YtcmhdpbmcgglmaaGreatDoor
end
section
set_option autoImplicit false
set_option linter.unusedVariables false
set_option linter.unusedSimpArgs false
namespace Go.Proofs.YtcmhdpbmcgglmaaGreatDoor
open Go.Abs
def heldP (P : List Pod) (n : Int) (wo : List Int) : List Pod := (P.filter (onP n)).filter (takes wo)
noncomputable def loadV (w : Rc) (p : Pod) (n : Int) (wo : List Int) : List Int :=
  if (findN w.nodes n).isSome then [reqV (seenP w.pods p n) 0 + reqV (heldP w.pods n wo) 0, reqV (seenP w.pods p n) 1 + reqV (heldP w.pods n wo) 1] else [0, 0]
theorem reqV_filter (f : Pod → Bool) (k : Nat) : ∀ l : List Pod, reqV (l.filter f) k = (l.map fun q => if f q = true then q.2.getD k 0 else 0).sum
  | [] => rfl
  | q :: l => by
    have ih := reqV_filter f k l
    rw [List.filter_cons]
    cases hf : f q with
    | true => simp only [reqV, hf, if_true, List.map_cons, List.sum_cons] at ih ⊢; rw [ih]
    | false =>
      rw [if_neg (by simp), ih, List.map_cons, List.sum_cons, hf]
      simp
theorem held_iff {n : Int} {wo : List Int} {q : Pod} : (takes wo q && onP n q) = true ↔ q.1.nd = n ∧ holdsP q.1.ph ∧ q.1.id ∉ wo := by
  rw [Bool.and_eq_true, onP_iff]
  unfold takes
  rw [Bool.and_eq_true, decide_eq_true_iff]
  constructor
  · rintro ⟨⟨h1, h2⟩, h3, h4⟩
    exact ⟨h3, h1, by simpa using h2⟩
  · rintro ⟨h1, h2, h3⟩
    exact ⟨⟨h2, by simpa using h3⟩, h1, .inr h2⟩
theorem heldV_sum (P : List Pod) (n : Int) (wo : List Int) (k : Nat) : reqV (heldP P n wo) k = (P.map fun q => if q.1.nd = n ∧ holdsP q.1.ph ∧ q.1.id ∉ wo then q.2.getD k 0 else 0).sum := by
  unfold heldP
  rw [List.filter_filter, reqV_filter]
  congr 1
  refine List.map_congr_left fun q _ => ?_
  by_cases h : q.1.nd = n ∧ holdsP q.1.ph ∧ q.1.id ∉ wo
  · rw [if_pos h, if_pos (held_iff.2 h)]
  · rw [if_neg h, if_neg fun h' => h (held_iff.1 h')]
theorem use_held (k : Nat) (n : Int) (wo : List Int) : ∀ P : List Pod, useAt k (P.filter fun q => !decide (q.1.id ∈ wo)) n = reqV (heldP P n wo) k := fun P => by
  rw [heldV_sum]
  induction P with
  | nil => rfl
  | cons q P ih =>
    rw [List.filter_cons, List.map_cons, List.sum_cons, ← ih]
    by_cases hm : q.1.id ∈ wo
    · rw [decide_eq_true hm, if_neg (by simp), if_neg fun h => h.2.2 hm]; omega
    · rw [decide_eq_false hm, if_pos (by simp)]
      show ((List.map _ (q :: _)).sum : Int) = _
      rw [List.map_cons, List.sum_cons]
      unfold share
      by_cases h : q.1.nd = n ∧ holdsP q.1.ph
      · rw [if_pos h, if_pos ⟨h.1, h.2, hm⟩]; rfl
      · rw [if_neg h, if_neg fun h' => h ⟨h'.1, h'.2.1⟩]; rfl
theorem zrow_two : zrow 2 = [0, 0] := rfl
section
variable {c : Cl} {w : Rc}
theorem seen_bd (h : RC c w) (p : Pod) (n : Int) (k : Nat) : 0 ≤ reqV (seenP w.pods p n) k ∧ reqV (seenP w.pods p n) k ≤ 72057594037927936 := by
  have h1 := reqV_bd k (seenP w.pods p n) fun q hq => h.gp q (List.mem_filter.1 hq).1
  have h2 : (seenP w.pods p n).length ≤ w.pods.length := List.length_filter_le _ _
  have := h.len
  omega
theorem held_bd (h : RC c w) (n : Int) (wo : List Int) (k : Nat) : 0 ≤ reqV (heldP w.pods n wo) k ∧ reqV (heldP w.pods n wo) k ≤ 72057594037927936 := by
  have h1 := reqV_bd k (heldP w.pods n wo) fun q hq => h.gp q (List.mem_filter.1 (List.mem_filter.1 hq).1).1
  have h2 : (heldP w.pods n wo).length ≤ w.pods.length := Nat.le_trans (List.length_filter_le _ _) (List.length_filter_le _ _)
  have := h.len
  omega
theorem load_bd (h : RC c w) (p : Pod) (n : Int) (wo : List Int) (k : Nat) : 0 ≤ (loadV w p n wo).getD k 0 ∧ (loadV w p n wo).getD k 0 ≤ 144115188075855872 := by
  unfold loadV
  have a0 := seen_bd h p n 0
  have a1 := seen_bd h p n 1
  have b0 := held_bd h n wo 0
  have b1 := held_bd h n wo 1
  split
  · match k with
    | 0 => show 0 ≤ reqV _ 0 + _ ∧ reqV _ 0 + _ ≤ _; omega
    | 1 => show 0 ≤ reqV _ 1 + _ ∧ reqV _ 1 + _ ≤ _; omega
    | k + 2 => simp
  · match k with
    | 0 => simp
    | 1 => simp
    | k + 2 => simp
theorem load_len (w : Rc) (p : Pod) (n : Int) (wo : List Int) : (loadV w p n wo).length = 2 := by
  unfold loadV
  split <;> rfl
theorem load_inR (h : RC c w) (p : Pod) (n : Int) (wo : List Int) : InR (loadV w p n wo) := fun k => by
  have := load_bd h p n wo k
  unfold I64; omega
theorem RC.ld (h : RC c w) (p : Pod) (n : Int) (wo : List Int) (hwo : wo.length ≤ 4611686018427387904) : LdOk c p n wo (loadV w p n wo) := by
  have hd := h.d1
  have hgs : ∀ q ∈ seenP w.pods p n, GoodV q.2 := fun q hq => h.gp q (List.mem_filter.1 hq).1
  have hgh : ∀ q ∈ heldP w.pods n wo, GoodV q.2 := fun q hq => h.gp q (List.mem_filter.1 (List.mem_filter.1 hq).1).1
  have a := seen_bd h p n
  have b := held_bd h n wo
  have hsum : addS (zrow c.d :: reqs (seenL c p n)) = some (two (seenP w.pods p n)) := by
    rw [hd, zrow_two, h.seen]
    rw [addS_rows (d := 2) (by simp) (fun v hv => by
      rcases List.mem_cons.1 hv with rfl | hv
      · rfl
      · obtain ⟨q, hq, rfl⟩ := List.mem_map.1 hv
        exact (hgs q hq).1) (fun k hk => by
      rw [colV_cons, reqV_col]
      have e : ([0, 0] : List Int).getD k 0 = 0 := colV_zero 2 k
      have := a k
      unfold seenP at this
      rw [e]; unfold I64; omega)]
    show some [colV _ 0, colV _ 1] = _
    rw [colV_cons, colV_cons, reqV_col, reqV_col]
    show some [0 + reqV (seenP w.pods p n) 0, 0 + reqV (seenP w.pods p n) 1] = _
    rw [Int.zero_add, Int.zero_add]
    rfl
  have hnode : (lget c.N n).isSome = (findN w.nodes n).isSome := by rw [h.getN]; cases findN w.nodes n <;> rfl
  refine ⟨h.ok, h.len65, hwo, ⟨two (seenP w.pods p n), hsum, by unfold Sz two; simp, inR_of fun x hx => ?_, ?_⟩, by unfold Sz; rw [load_len]; omega, load_inR h p n wo, fun hn q hq => ?_⟩
  · have a0 := a 0
    have a1 := a 1
    unfold two at hx
    simp only [List.mem_cons, List.not_mem_nil, or_false] at hx
    rcases hx with rfl | rfl <;> unfold I64 <;> omega
  · unfold loadR loadV
    rw [hnode]
    cases (findN w.nodes n).isSome with
    | false =>
      simp only [Bool.false_eq_true, if_false]
      rw [hd, zrow_two, addS_rows (d := 2) (by simp) (fun v hv => by rw [List.mem_singleton.1 hv]; rfl) (fun k hk => by
        rw [colV_cons, colV_nil, show ([0, 0] : List Int).getD k 0 = 0 from colV_zero 2 k]; unfold I64; omega)]
      rfl
    | true =>
      simp only [if_true]
      have hh : heldL c n wo = heldP w.pods n wo := by unfold heldL heldP; rw [h.listed]
      rw [hh, hd, zrow_two, addS_rows (d := 2) (by simp) (fun v hv => by
        rcases List.mem_cons.1 hv with rfl | hv
        · rfl
        · rcases List.mem_cons.1 hv with rfl | hv
          · rfl
          · obtain ⟨q, hq, rfl⟩ := List.mem_map.1 hv
            exact (hgh q hq).1) (fun k hk => by
        rw [colV_cons, colV_cons, reqV_col, show ([0, 0] : List Int).getD k 0 = 0 from colV_zero 2 k]
        have hk2 : k = 0 ∨ k = 1 := by omega
        have a0 := a 0
        have a1 := a 1
        have b0 := b 0
        have b1 := b 1
        rcases hk2 with rfl | rfl
        · show I64 (0 + (reqV _ 0 + _)); unfold I64; omega
        · show I64 (0 + (reqV _ 1 + _)); unfold I64; omega)]
      show some [colV _ 0, colV _ 1] = _
      rw [colV_cons, colV_cons, reqV_col, colV_cons, colV_cons, reqV_col]
      show some [0 + (reqV (seenP w.pods p n) 0 + _), 0 + (reqV (seenP w.pods p n) 1 + _)] = _
      rw [Int.zero_add, Int.zero_add]
  · rw [h.listed] at hq
    obtain ⟨hq, ho⟩ := List.mem_filter.1 hq
    have ho := onP_iff.1 ho
    cases ht : takes wo q with
    | false => rfl
    | true =>
      have hh := takes_yes ht
      have hh1 : holdsP q.1.ph := of_decide_eq_true hh.1
      have hm := h.at_ q hq hh1
      rw [ho.1] at hm
      obtain ⟨m, hm1, hm2⟩ := List.mem_map.1 hm
      have : (lget c.N n).isSome = true := by
        rw [hnode]
        unfold findN
        rw [List.find?_isSome]
        exact ⟨m, hm1, by simpa using hm2⟩
      rw [hn] at this
      cases this
theorem RC.tot (h : RC c w) (p : Pod) (n : Int) (wo : List Int) : totS c p n (loadV w p n wo) = match findN w.nodes n with
    | none => none
    | some m => if 0 ≤ wrongS p.2 2 then none else some (some (List.zipWith (· + ·) (loadV w p n wo) p.2), m.2) := by
  unfold totS
  rw [h.getN, h.d1]
  cases hf : findN w.nodes n with
  | none => rfl
  | some m =>
    dsimp only [Option.map_some]
    by_cases hw : 0 ≤ wrongS p.2 2
    · rw [if_pos hw, if_pos hw]
    · rw [if_neg hw, if_neg hw]
      have hg := goodV_of hw
      rw [addS_two (by rw [load_len, hg.1]) (fun k hk => by
        have a := load_bd h p n wo k
        have b := hg.at k
        unfold I64; omega)]
end
end Go.Proofs.YtcmhdpbmcgglmaaGreatDoor
end
section
set_option autoImplicit false
set_option linter.unusedVariables false
set_option linter.unusedSimpArgs false
namespace Go.Proofs.YtcmhdpbmcgglmaaGreatDoor
open Go.Abs
end Go.Proofs.YtcmhdpbmcgglmaaGreatDoor
end
section
set_option autoImplicit false
set_option linter.unusedVariables false
set_option linter.unusedSimpArgs false
namespace Go.Proofs.YtcmhdpbmcgglmaaGreatDoor
open Go.Abs
end Go.Proofs.YtcmhdpbmcgglmaaGreatDoor
end
section
set_option autoImplicit false
set_option linter.unusedVariables false
set_option linter.unusedSimpArgs false
namespace Go.Proofs.YtcmhdpbmcgglmaaGreatDoor
open Go.Abs
theorem addS_1 {l : List (List Int)} (h0 : l ≠ []) (hl : ∀ v ∈ l, v.length = 1) (hr : I64 (colV l 0)) : addS l = some [colV l 0] := by
  rw [addS_rows (d := 1) h0 hl fun k hk => by obtain rfl : k = 0 := by omega
                                              exact hr]
  rfl
end Go.Proofs.YtcmhdpbmcgglmaaGreatDoor
end
section
set_option autoImplicit false
set_option linter.unusedVariables false
set_option linter.unusedSimpArgs false
namespace Go.Proofs.YtcmhdpbmcgglmaaGreatDoor
open Go.Abs
theorem fewP_one (p : Pod) : FewP [p] ↔ okP p := by
  constructor
  · intro h; exact h.1 0 (by simp)
  · intro h
    refine ⟨fun j hj => ?_, by simp⟩
    obtain rfl : j = 0 := by simpa using hj
    exact h
end Go.Proofs.YtcmhdpbmcgglmaaGreatDoor
end
section
set_option autoImplicit false
set_option linter.unusedVariables false
set_option linter.unusedSimpArgs false
namespace Go.Proofs.YtcmhdpbmcgglmaaGreatDoor
open Go.Abs
theorem reqV_mono {f g : Pod → Bool} (k : Nat) : ∀ {l : List Pod}, (∀ q ∈ l, GoodV q.2) → (∀ q ∈ l, f q = true → g q = true) → reqV (l.filter f) k ≤ reqV (l.filter g) k
  | [], _, _ => by simp [reqV]
  | q :: l, h, hfg => by
    have ih := reqV_mono k (l := l) (fun x hx => h x (by simp [hx])) (fun x hx => hfg x (by simp [hx]))
    have hq := ((h q (by simp)).at k).1
    have hi := hfg q (by simp)
    rw [List.filter_cons, List.filter_cons]
    cases hf : f q with
    | true =>
      rw [hi hf]
      simp only [reqV, if_true, List.map_cons, List.sum_cons] at ih ⊢
      omega
    | false =>
      cases hg : g q with
      | false => simp only [Bool.false_eq_true, if_false]; exact ih
      | true =>
        simp only [Bool.false_eq_true, if_false, if_true]
        simp only [reqV, List.map_cons, List.sum_cons] at ih ⊢
        omega
theorem heldP_eq (P : List Pod) (n : Int) (wo : List Int) : heldP P n wo = P.filter fun q => takes wo q && onP n q := by
  unfold heldP
  rw [List.filter_filter]
theorem load_mono {w : Rc} {p q : Pod} {n : Int} {wo wo' : List Int} (hg : ∀ x ∈ w.pods, GoodV x.2) (hs : ∀ x, SeesP q x n → SeesP p x n) (hw : ∀ id, id ∈ wo → id ∈ wo') (k : Nat) :
    (loadV w q n wo').getD k 0 ≤ (loadV w p n wo).getD k 0 := by
  have h1 : ∀ k, reqV (seenP w.pods q n) k ≤ reqV (seenP w.pods p n) k := fun k => reqV_mono k hg fun x _ hx => B_true (hs x (B_iff.1 hx))
  have h2 : ∀ k, reqV (heldP w.pods n wo') k ≤ reqV (heldP w.pods n wo) k := fun k => by
    rw [heldP_eq, heldP_eq]
    refine reqV_mono k hg fun x _ hx => ?_
    obtain ⟨a, b, c⟩ := held_iff.1 hx
    exact held_iff.2 ⟨a, b, fun hm => c (hw _ hm)⟩
  unfold loadV
  split
  · match k with
    | 0 => exact Int.add_le_add (h1 0) (h2 0)
    | 1 => exact Int.add_le_add (h1 1) (h2 1)
    | k + 2 => simp
  · exact Int.le_refl _
theorem zipA_get {u v : List Int} (hu : u.length = 2) (hv : v.length = 2) {k : Nat} (hk : k < 2) : (List.zipWith (· + ·) u v).getD k 0 = u.getD k 0 + v.getD k 0 := by
  have e1 : u[k]? = some u[k] := List.getElem?_eq_getElem (by omega)
  have e2 : v[k]? = some v[k] := List.getElem?_eq_getElem (by omega)
  simp only [List.getD_eq_getElem?_getD, List.getElem?_zipWith, e1, e2, Option.getD_some]
theorem fit_mono {c : Cl} {w : Rc} (h : RC c w) {p q : Pod} {n : Int} {wo wo' : List Int} (hl : ∀ k, (loadV w q n wo').getD k 0 ≤ (loadV w p n wo).getD k 0)
    (hq : GoodV p.2 → GoodV q.2 ∧ ∀ k, q.2.getD k 0 ≤ p.2.getD k 0) (hf : fitB (totS c p n (loadV w p n wo)) = true) : fitB (totS c q n (loadV w q n wo')) = true := by
  rw [h.tot] at hf ⊢
  cases hn : findN w.nodes n with
  | none => rw [hn] at hf; exact hf
  | some m =>
    rw [hn] at hf
    dsimp only at hf ⊢
    by_cases hw : 0 ≤ wrongS p.2 2
    · rw [if_pos hw] at hf; cases hf
    · have hg := goodV_of hw
      obtain ⟨hg2, hle⟩ := hq hg
      rw [if_neg hw] at hf
      rw [if_neg hg2.ok]
      have hF : FitsP _ m.2 := B_iff.1 hf
      refine B_true ⟨by simp [load_len, hg2.1]; have := hF.1; simp [load_len, hg.1] at this; omega, fun k hk => ?_⟩
      have hk2 : k < 2 := by simp [load_len, hg2.1] at hk; omega
      have := hF.2 k (by simp [load_len, hg.1]; omega)
      rw [zipA_get (load_len _ _ _ _) hg.1 hk2] at this
      rw [zipA_get (load_len _ _ _ _) hg2.1 hk2]
      have a := hl k
      have b := hle k
      omega
end Go.Proofs.YtcmhdpbmcgglmaaGreatDoor
end
section
set_option autoImplicit false
set_option linter.unusedVariables false
set_option linter.unusedSimpArgs false
namespace Go.Proofs.YtcmhdpbmcgglmaaGreatDoor
open Go.Abs
theorem RC.hold_eq {c : Cl} {w : Rc} (h : RC c w) {q : Pod} {n : Int} {m : Int × List Int} (hm : q ∈ w.pods) (hn : findN w.nodes n = some m) :
    chgE c.N c.d n q.2 (heldS q.2) = bif B (FitsP ((addS [useOf w.pods n, q.2]).getD []) m.2) then none else some (10, 0) := by
  obtain ⟨hnm, hna⟩ := findN_some hn
  have hg := h.gp q hm
  have hgn := h.gn m hnm
  have u0 := useAt_pos 0 n w.pods h.gp
  have u1 := useAt_pos 1 n w.pods h.gp
  have f0 := h.fit m hnm 0 (by omega)
  have f1 := h.fit m hnm 1 (by omega)
  rw [hna] at f0 f1
  have g0 := hg.at 0
  have g1 := hg.at 1
  have c0 := hgn.at 0
  have c1 := hgn.at 1
  have hadd : addS [useOf w.pods n, q.2] = some (List.zipWith (· + ·) (useOf w.pods n) q.2) := addS_two (by rw [hg.1]; rfl) (fun k hk => by
    have hk2 : k = 0 ∨ k = 1 := by have : k < 2 := hk; omega
    rcases hk2 with rfl | rfl
    · show I64 (useAt 0 w.pods n + _); unfold I64; omega
    · show I64 (useAt 1 w.pods n + _); unfold I64; omega)
  have hgetN : lget c.N n = some (m.1, m.2, useOf w.pods m.1) := by
    have := h.getN n
    rw [hn] at this
    exact this
  have hheld : heldS q.2 (m.1, m.2, useOf w.pods m.1) = bif B (FitsP (List.zipWith (· + ·) (useOf w.pods n) q.2) m.2) then some (List.zipWith (· + ·) (useOf w.pods n) q.2) else none := by
    unfold heldS
    rw [hna, hadd]
    rfl
  unfold chgE
  rw [hgetN, h.d1, hadd]
  simp only [if_neg hg.ok, hheld, Option.getD_some]
  cases B (FitsP (List.zipWith (· + ·) (useOf w.pods n) q.2) m.2) <;> rfl
end Go.Proofs.YtcmhdpbmcgglmaaGreatDoor
end
section
set_option autoImplicit false
set_option linter.unusedVariables false
set_option linter.unusedSimpArgs false
namespace Go.Proofs.YtcmhdpbmcgglmaaGreatDoor
open Go.Abs
def hfv (v : List Int) (m : Nat) : List Int := [if 0 < m then v.getD 0 0 / 2 else v.getD 0 0, if 1 < m then v.getD 1 0 / 2 else v.getD 1 0]
theorem hfv_good {v : List Int} (h : GoodV v) (m : Nat) : GoodV (hfv v m) ∧ ∀ k, (hfv v m).getD k 0 ≤ v.getD k 0 := by
  have a := h.at 0
  have b := h.at 1
  refine ⟨⟨rfl, fun x hx => ?_⟩, fun k => ?_⟩
  · unfold hfv at hx
    simp only [List.mem_cons, List.not_mem_nil, or_false] at hx
    rcases hx with rfl | rfl
    · split <;> omega
    · split <;> omega
  · unfold hfv
    match k with
    | 0 => show (if 0 < m then _ else _) ≤ _; split <;> omega
    | 1 => show (if 1 < m then _ else _) ≤ _; split <;> omega
    | k + 2 => exact (h.at (k + 2)).1
theorem half_wrap {x : Int} (h0 : 0 ≤ x) (h1 : x ≤ 1099511627776) : IntKind.wrap .i64 (x.tdiv 2) = x / 2 := by
  rw [Int.tdiv_eq_ediv_of_nonneg h0, wrapi (by omega) (by omega)]
def Hh (c : Cl) (w : Rc) (p : Pod) (m : Nat) : List AObj := [PV p, .map (entE fP c.L), .var [.d (.int .i64 65536), .mapo 1], .var [.pvar 2 0, .sfull 4], .arr 3 1 (ints c.ids),
  .map (entE fE c.N), .var [.d (.int .i64 1024), .mapo 5], .var [.d (.int .i64 c.d), .pvar 6 0], .var [.pvar 3 0, .pvar 7 0],
  .var [.d (.int .i64 w.d), .d (.slice 2 (nds w.nodes)), .d (.slice 9 (pods w.pods))],
  .var [.d (.int .i64 p.1.id), .d (.int .i64 p.1.pr), .d (.bool p.1.pre), .d (.int .i64 p.1.gr), .sfull 11, .d (.int .i64 p.1.ar), .d (.int .i64 p.1.ph), .d (.int .i64 p.1.nd), .d (.int .i64 p.1.dl)],
  .arr 2 1 (ints (hfv p.2 m))]
end Go.Proofs.YtcmhdpbmcgglmaaGreatDoor
end
