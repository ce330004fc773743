/-
  Sums and differences of two vectors, in plain words; what a change makes of the nodes.
-/
import Derived.Test.YtjljjakfebfpfaaDoorNV2
import Derived.Test.YtjljjakfebfpfaaDoorNV3
set_option autoImplicit false
set_option linter.unusedVariables false
set_option linter.unusedSimpArgs false
namespace Go.Proofs.YtjljjakfebfpfaaDoor
open Go.Abs

theorem InR.mem {a : List Int} (h : InR a) : ∀ n ∈ a, I64 n := fun n hn => by
  obtain ⟨j, hj, rfl⟩ := List.getElem_of_mem hn
  have := h j
  simpa [List.getD_eq_getElem?_getD, hj] using this
theorem inR_of {a : List Int} (h : ∀ n ∈ a, I64 n) : InR a := fun k => by
  rw [List.getD_eq_getElem?_getD]
  cases hk : a[k]? with
  | none => simp [I64]
  | some x => exact h x (List.mem_of_getElem? hk)
theorem colS_two (u v : List Int) (k : Nat) : colS [u, v] k = u.getD k 0 + v.getD k 0 := by
  simp [colS, psum, at2]
theorem addS_two {u v : List Int} (hl : u.length = v.length) (hr : ∀ k, k < u.length → I64 (u.getD k 0 + v.getD k 0)) : addS [u, v] = some (List.zipWith (· + ·) u v) := by
  have h : AddP [u, v] := ⟨by simp, fun j hj => by
    have hj : j < 2 := hj
    rcases j with _ | _ | j
    · rfl
    · exact hl.symm
    · omega, fun k hk => by rw [colS_two]; exact hr k hk⟩
  rw [addS, B_true h]
  show some _ = some _
  congr 1
  refine List.ext_getElem (by simp [hl]) fun j h1 h2 => ?_
  have hj : j < u.length := by simpa using h1
  simp [colS_two, List.getD_eq_getElem?_getD, hj, show j < v.length by omega]
theorem addS_len {u v : List Int} (hl : u.length ≠ v.length) : addS [u, v] = none := by
  have h : ¬ AddP [u, v] := fun h => hl (h.2.1 1 (by simp)).symm
  rw [addS, B_false h]; rfl
theorem addS_over {u v : List Int} {k : Nat} (hk : k < u.length) (hr : ¬ I64 (u.getD k 0 + v.getD k 0)) : addS [u, v] = none := by
  have h : ¬ AddP [u, v] := fun h => hr (by have := h.2.2 k hk; rwa [colS_two] at this)
  rw [addS, B_false h]; rfl
noncomputable def subS (a b : List Int) : Option (List Int) := bothS (fun x y => IntKind.wrap .i64 (x - y)) (fun x y => decide (y ≤ x ∧ x - y ≤ 9223372036854775807)) a b
theorem subS_yes {a b : List Int} (hl : a.length = b.length) (h : ∀ k, k < a.length → b.getD k 0 ≤ a.getD k 0 ∧ a.getD k 0 - b.getD k 0 ≤ 9223372036854775807) : subS a b = some (List.zipWith (· - ·) a b) := by
  unfold subS bothS
  rw [B_true ⟨hl, fun k hk => decide_eq_true (h k hk)⟩]
  show some _ = some _
  congr 1
  refine List.ext_getElem (by simp) fun j h1 h2 => ?_
  have hj : j < a.length := by simp at h1; omega
  have := h j hj
  simp [List.getD_eq_getElem?_getD, hj, show j < b.length by omega] at this
  simp
  rw [wrapi (by omega) (by omega)]
theorem subS_no {a b : List Int} {k : Nat} (hk : k < a.length) (h : ¬ (b.getD k 0 ≤ a.getD k 0 ∧ a.getD k 0 - b.getD k 0 ≤ 9223372036854775807)) : subS a b = none := by
  unfold subS bothS
  rw [B_false (fun e => h (of_decide_eq_true (e.2 k hk)))]; rfl
theorem subS_len {a b : List Int} (hl : a.length ≠ b.length) : subS a b = none := by
  unfold subS bothS
  rw [B_false (fun e => hl e.1)]; rfl

theorem rows2 {P : List Int → Prop} {u v : List Int} (h1 : P u) (h2 : P v) (h0 : P [] := by first | (unfold Sz; simp) | (intro k; simp [I64])) : ∀ j, P (([u, v] : List (List Int)).getD j [])
  | 0 => h1
  | 1 => h2
  | j + 2 => by simpa using h0
theorem addS_sz {u v s : List Int} (h : addS [u, v] = some s) (hs : ∀ j, Sz (([u, v] : List (List Int)).getD j [])) : Sz s := by
  unfold addS at h
  cases hb : B (AddP [u, v]) with
  | false => rw [hb] at h; cases h
  | true =>
    rw [hb] at h
    obtain rfl := Option.some.inj h
    have := hs 0
    unfold Sz at *
    simpa using this
theorem addS_inR {u v s : List Int} (h : addS [u, v] = some s) : InR s := by
  unfold addS at h
  cases hb : B (AddP [u, v]) with
  | false => rw [hb] at h; cases h
  | true =>
    rw [hb] at h
    obtain rfl := Option.some.inj h
    have hp := (B_iff.1 hb).2.2
    refine inR_of fun n hn => ?_
    obtain ⟨k, hk, rfl⟩ := List.mem_map.1 hn
    exact hp k (List.mem_range.1 hk)

theorem idx_neg {p : Int → Bool} {a : List Int} (h : ¬ 0 ≤ idx p a) : ∀ n ∈ a, p n = false := by
  unfold idx at h
  split at h
  · omega
  · rename_i h'
    rw [List.findIdx_lt_length] at h'
    intro n hn
    cases hp : p n with
    | false => rfl
    | true => exact absurd ⟨n, hn, hp⟩ h'
theorem wrongS_neg {a : List Int} {d : Int} (h : ¬ 0 ≤ wrongS a d) : (a.length : Int) = d ∧ ∀ n ∈ a, 0 ≤ n ∧ n ≤ 1099511627776 := by
  unfold wrongS at h
  split at h
  · exact absurd ‹_› h
  · rename_i h1
    split at h
    · refine ⟨‹_›, fun n hn => ?_⟩
      have := idx_neg h1 n hn
      unfold wrongP at this
      have := of_decide_eq_false this
      omega
    · omega
theorem fitsP_of {s c : List Int} (hl : s.length = c.length) (h : ∀ k, k < s.length → s.getD k 0 ≤ c.getD k 0) : B (FitsP s c) = true := B_true ⟨hl, h⟩
theorem zipAdd_get {u v : List Int} {k : Nat} (h : k < u.length) (hl : u.length = v.length) : (List.zipWith (· + ·) u v).getD k 0 = u.getD k 0 + v.getD k 0 := by
  have e1 : u[k]? = some u[k] := List.getElem?_eq_getElem h
  have e2 : v[k]? = some v[k] := List.getElem?_eq_getElem (by omega)
  simp only [List.getD_eq_getElem?_getD, List.getElem?_zipWith, e1, e2, Option.getD_some]
theorem zipSub_get {u v : List Int} {k : Nat} (h : k < u.length) (hl : u.length = v.length) : (List.zipWith (· - ·) u v).getD k 0 = u.getD k 0 - v.getD k 0 := by
  have e1 : u[k]? = some u[k] := List.getElem?_eq_getElem h
  have e2 : v[k]? = some v[k] := List.getElem?_eq_getElem (by omega)
  simp only [List.getD_eq_getElem?_getD, List.getElem?_zipWith, e1, e2, Option.getD_some]

/-- What a change makes of the nodes: the error, and the table. -/
noncomputable def chgE (L : List (Int × Ent)) (d k : Int) (v : List Int) (f : Ent → Option (List Int)) : Option (Int × Int) :=
  match lget L k with
  | none => some (5, 0)
  | some e => if 0 ≤ wrongS v d then some (3, wrongS v d) else match f e with
    | none => some (10, 0)
    | some _ => none
noncomputable def chgL (L : List (Int × Ent)) (d k : Int) (v : List Int) (f : Ent → Option (List Int)) : List (Int × Ent) :=
  match lget L k with
  | none => L
  | some e => if 0 ≤ wrongS v d then L else match f e with
    | none => L
    | some u => lput L k (e.1, e.2.1, u)
noncomputable def heldS (v : List Int) (e : Ent) : Option (List Int) := (addS [e.2.2, v]).bind fun s => bif B (FitsP s e.2.1) then some s else none
noncomputable def freedS (v : List Int) (e : Ent) : Option (List Int) := subS e.2.2 v
theorem heldS_yes {v : List Int} {e : Ent} (h1 : e.2.2.length = v.length) (h2 : e.2.1.length = v.length)
    (h : ∀ k, k < v.length → -9223372036854775808 ≤ e.2.2.getD k 0 + v.getD k 0 ∧ e.2.2.getD k 0 + v.getD k 0 ≤ e.2.1.getD k 0 ∧ e.2.1.getD k 0 ≤ 9223372036854775807) : heldS v e = some (List.zipWith (· + ·) e.2.2 v) := by
  unfold heldS
  rw [addS_two h1 (fun k hk => by have := h k (by omega); exact ⟨this.1, by omega⟩), Option.bind_some,
    fitsP_of (by simp [h1, h2]) (fun k hk => by
      have hk' : k < v.length := by simp [h1] at hk; exact hk
      rw [zipAdd_get (by omega) h1]
      exact (h k hk').2.1)]
  rfl
theorem heldS_no {v : List Int} {e : Ent} {k : Nat} (h1 : e.2.2.length = v.length) (hk : k < v.length) (h : e.2.1.getD k 0 < e.2.2.getD k 0 + v.getD k 0) : heldS v e = none := by
  unfold heldS
  cases ha : addS [e.2.2, v] with
  | none => rfl
  | some s =>
    have hs : ∀ j, j < v.length → I64 (e.2.2.getD j 0 + v.getD j 0) := fun j hj => by
      unfold addS at ha
      cases hb : B (AddP [e.2.2, v]) with
      | false => rw [hb] at ha; cases ha
      | true =>
        have := (B_iff.1 hb).2.2 j (show j < e.2.2.length by omega)
        rwa [colS_two] at this
    rw [addS_two h1 (fun j hj => hs j (by omega))] at ha
    obtain rfl := Option.some.inj ha
    rw [Option.bind_some, B_false]
    · rfl
    · intro hf
      have := hf.2 k (by simp [h1]; exact hk)
      rw [zipAdd_get (by omega) h1] at this
      omega
theorem heldS_some {v u : List Int} {e : Ent} (h : heldS v e = some u) : e.2.2.length = v.length ∧ u = List.zipWith (· + ·) e.2.2 v ∧ u.length = e.2.1.length ∧ ∀ k, k < u.length → u.getD k 0 ≤ e.2.1.getD k 0 := by
  unfold heldS at h
  cases ha : addS [e.2.2, v] with
  | none => rw [ha] at h; cases h
  | some s =>
    rw [ha, Option.bind_some] at h
    cases hf : B (FitsP s e.2.1) with
    | false => rw [hf] at h; cases h
    | true =>
      rw [hf] at h
      obtain rfl := Option.some.inj h
      have hl : e.2.2.length = v.length := by
        refine Decidable.byContradiction fun hn => ?_
        rw [addS_len hn] at ha; cases ha
      have hs : ∀ j, j < e.2.2.length → I64 (e.2.2.getD j 0 + v.getD j 0) := fun j hj => by
        unfold addS at ha
        cases hb : B (AddP [e.2.2, v]) with
        | false => rw [hb] at ha; cases ha
        | true =>
          have := (B_iff.1 hb).2.2 j hj
          rwa [colS_two] at this
      rw [addS_two hl hs] at ha
      exact ⟨hl, (Option.some.inj ha).symm, (B_iff.1 hf).1, (B_iff.1 hf).2⟩
end Go.Proofs.YtjljjakfebfpfaaDoor
