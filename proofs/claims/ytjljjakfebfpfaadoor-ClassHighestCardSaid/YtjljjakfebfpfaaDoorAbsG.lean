/-
  What an argument reads as: structs, arrays are left out.
-/
import Derived.Test.YtjljjakfebfpfaaDoorAbs15
set_option autoImplicit false
set_option linter.unusedVariables false
set_option linter.unusedSimpArgs false
namespace Go.Abs
open Go.ChangeShapes Go.WideShapes Go.ChangeAt Go.RowKit

/-- What the fields from a place on come to. -/
structure RdgL (P : Program) (N off : Nat) (fs : List Field) {α : Type} (enc : α → List D) (φ : α → Prop) : Prop where
  read : ∀ {H : Type} {en : TypeId × Value → H} {w : World} {n : Nat} {cs : List Value}, cs.length = N →
    (∀ f ∈ fs, ∃ y, DataW.trod en P w 0 (fun _ => true) true n f.type ((cs.drop f.offset).take (P.cellsOf f.type)) = some y) →
    ∃ a, φ a ∧ (enc a).length = (cs.drop off).length ∧ ∀ (j : Nat) d, (enc a)[j]? = some d → d.one = true ∧ RD w (Old w) d ((cs.drop off).getD j undef)

theorem RdgL.nil {P : Program} {N : Nat} : RdgL P N N [] (fun _ : Unit => []) (fun _ => True) := ⟨by
  intro H en w n cs hl _
  exact ⟨(), trivial, by simp [hl], fun j d hj => by simp at hj⟩⟩
theorem RdgL.cons {P : Program} {N off k : Nat} {f : Field} {fs : List Field} {α β : Type} {e0 : α → List D} {e1 : β → List D} {φ : α → Prop} {ψ : β → Prop} (ho : f.offset = off) (hc : P.cellsOf f.type = k) (hN : off + k ≤ N)
    (h : Rdg P f.type e0 φ) (h1 : RdgL P N (off + k) fs e1 ψ) : RdgL P N off (f :: fs) (fun p : α × β => e0 p.1 ++ e1 p.2) (fun p => φ p.1 ∧ ψ p.2) := ⟨by
  intro H en w n cs hl hf
  obtain ⟨y, hy⟩ := hf f (by simp)
  rw [ho, hc] at hy
  obtain ⟨a, k1, k2, k3⟩ := h.read hy
  obtain ⟨b, m1, m2, m3⟩ := h1.read hl (fun g hg => hf g (by simp [hg]))
  have la : (e0 a).length = k := by rw [k2]; simp; omega
  refine ⟨(a, b), ⟨k1, m1⟩, by simp only [List.length_append, la, m2, List.length_drop]; omega, fun j d hj => ?_⟩
  by_cases hjk : j < k
  · rw [List.getElem?_append_left (show j < (e0 a).length by rw [la]; exact hjk)] at hj
    obtain ⟨q1, q2⟩ := k3 j d hj
    refine ⟨q1, ?_⟩
    have e : (cs.drop off).getD j undef = ((cs.drop off).take k).getD j undef := by
      simp [List.getD_eq_getElem?_getD, List.getElem?_take, hjk]
    rw [e]; exact q2
  · rw [List.getElem?_append_right (show (e0 a).length ≤ j by rw [la]; omega), la] at hj
    obtain ⟨q1, q2⟩ := m3 (j - k) d hj
    refine ⟨q1, ?_⟩
    have e : (cs.drop off).getD j undef = (cs.drop (off + k)).getD (j - k) undef := by
      simp only [List.getD_eq_getElem?_getD, List.getElem?_drop]
      rw [show off + k + (j - k) = off + j by omega]
    rw [e]; exact q2⟩
theorem Rdg.struct {P : Program} {t : TypeId} {fs : Array Field} {N : Nat} {α : Type} {enc : α → List D} {φ : α → Prop} (ht : P.underlying t = some (.struct fs)) (hN : P.cellsOf t = N) (h : RdgL P N 0 fs.toList enc φ) : Rdg P t enc φ := ⟨by
  intro H en w fuel cs x hx
  obtain ⟨xs, n, _, rfl, hl, hlen, hf⟩ := DataW.trod_struct ht hx
  obtain ⟨a, k1, k2, k3⟩ := h.read (w := w) (n := n) (en := en) (cs := cs) (by rw [hl, hN]) (fun f hm => by
    obtain ⟨i, hi⟩ := List.mem_iff_getElem?.1 hm
    have hfi : fs[i]? = some f := by simpa using hi
    have := hf i f hfi
    have hix : i < xs.length := by rw [hlen]; exact (Array.getElem?_eq_some_iff.1 hfi).1
    exact ⟨xs[i], by rw [this, List.getElem?_eq_getElem hix]⟩)
  exact ⟨a, k1, by simpa using k2, fun j d hj => by simpa using k3 j d hj⟩⟩
/-- Another reading of the same. -/
theorem Rdg.map {P : Program} {t : TypeId} {α β : Type} {e0 : α → List D} {φ : α → Prop} {e1 : β → List D} {ψ : β → Prop} (g : α → β) (h : Rdg P t e0 φ) (he : ∀ a, e1 (g a) = e0 a) (hp : ∀ a, φ a → ψ (g a)) : Rdg P t e1 ψ := ⟨by
  intro H en w fuel cs x hx
  obtain ⟨a, k1, k2, k3⟩ := h.read hx
  exact ⟨g a, hp a k1, by rw [he]; exact k2, fun j d hj => k3 j d (by rw [← he]; exact hj)⟩⟩
/-- An argument that is a struct. -/
theorem Rdg.argS {P : Program} {t : TypeId} {α : Type} {f : α → List D} {φ : α → Prop} (h : Rdg P t f φ) {H : Type} {en : TypeId × Value → H} {w : World} {v : Value} {d : DataW H} {ps : List MemPlace} {n : Nat}
    (h1 : ∃ cs, v = .agg cs ∧ cs.size = n) (hd : DataW.Trod en P w 0 (fun _ => true) true t v d ps) : ∃ a, φ a ∧ RD w (Old w) (.agg (f a)) v := by
  obtain ⟨cs, rfl, _⟩ := h1
  obtain ⟨fuel, hf⟩ := hd
  obtain ⟨a, k1, k2, k3⟩ := h.read hf
  have k3' : ∀ (j : Nat) d, (f a)[j]? = some d → d.one = true ∧ RD w (Old w) d (cs.getD j undef) := fun j d hj => by
    have := k3 j d hj
    have hlt := (List.getElem?_eq_some_iff.1 hj).1
    rw [k2] at hlt
    have hs : j < cs.size := by simpa [Value.cells] using hlt
    simpa [Value.cells, List.getD_eq_getElem?_getD, hs, Array.getD_eq_getD_getElem?] using this
  refine ⟨a, k1, .agg _ cs (by simpa [Value.cells] using k2.symm) (fun j hj => ?_) (fun j d hj => (k3' j d hj).2)⟩
  have hj' : j < (f a).length := by rw [k2]; simpa [Value.cells] using hj
  obtain ⟨q1, q2⟩ := k3' j _ (List.getElem?_eq_getElem hj')
  rw [q2.one_iff]; exact q1
end Go.Abs
