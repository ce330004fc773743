/-
  From a walk to the given statement: what an argument reads as, and what stands behind the call.
-/
import Derived.Test.YtjljjakfebfpfaaDoorAbs14
import Derived.ProofKit
set_option autoImplicit false
set_option linter.unusedVariables false
set_option linter.unusedSimpArgs false
namespace Go.Abs
open Go.ChangeShapes Go.WideShapes Go.ChangeAt Go.RowKit

/-- Old blocks. -/
def Old (w : World) : Nat → Prop := fun b => b < w.heap.size
/-- What a reading of a type comes to, as data. -/
structure Rdg (P : Program) (t : TypeId) {α : Type} (enc : α → List D) (φ : α → Prop) : Prop where
  read : ∀ {H : Type} {en : TypeId × Value → H} {w : World} {fuel : Nat} {cs : List Value} {x : DataW H × List MemPlace}, DataW.trod en P w 0 (fun _ => true) true fuel t cs = some x →
    ∃ a, φ a ∧ (enc a).length = cs.length ∧ ∀ (j : Nat) d, (enc a)[j]? = some d → d.one = true ∧ RD w (Old w) d (cs.getD j undef)

theorem Rdg.int {P : Program} {t : TypeId} {k : IntKind} (ht : P.underlying t = some (.int k)) : Rdg P t (fun n : Int => [.int k n]) (fun n => k.min ≤ n ∧ n ≤ k.max) := ⟨by
  intro H en w fuel cs x h
  obtain ⟨n, rfl, _, hw⟩ := DataW.trod_int ht h
  simp only [Lit.wf, Bool.and_eq_true, decide_eq_true_eq] at hw
  refine ⟨n, hw, rfl, fun j d hj => ?_⟩
  cases j with
  | zero => simp at hj; subst hj; exact ⟨rfl, .int k n⟩
  | succ j => simp at hj⟩
theorem Rdg.bool {P : Program} {t : TypeId} (ht : P.underlying t = some .bool) : Rdg P t (fun b : Bool => [.bool b]) (fun _ => True) := ⟨by
  intro H en w fuel cs x h
  obtain ⟨b, rfl, _⟩ := DataW.trod_bool ht h
  refine ⟨b, trivial, rfl, fun j d hj => ?_⟩
  cases j with
  | zero => simp at hj; subst hj; exact ⟨rfl, .bool b⟩
  | succ j => simp at hj⟩
theorem Rdg.string {P : Program} {t : TypeId} (ht : P.underlying t = some .string) : Rdg P t (fun s : ByteArray => [.str s]) (fun s => s.size ≤ 9223372036854775807) := ⟨by
  intro H en w fuel cs x h
  obtain ⟨s, rfl, _, hs⟩ := DataW.trod_string ht h
  refine ⟨s, hs, rfl, fun j d hj => ?_⟩
  cases j with
  | zero => simp at hj; subst hj; exact ⟨rfl, .str s⟩
  | succ j => simp at hj⟩

theorem cell_old {w : World} {a : Addr} {v : Value} (h : w.cell? a = some v) : a.block < w.heap.size := by
  unfold World.cell? at h
  cases hb : w.heap[a.block]? with
  | none => simp [hb] at h
  | some o => exact (Array.getElem?_eq_some_iff.1 hb).1

theorem Rdg.slice {P : Program} {t e : TypeId} {sz : Nat} {α : Type} {enc : α → List D} {φ : α → Prop} (ht : P.underlying t = some (.slice e)) (hc : P.cellsOf e = sz) (h : Rdg P e enc φ) :
    Rdg P t (fun xs : List α => [.slice sz (xs.map enc)]) (fun xs => (∀ x ∈ xs, φ x) ∧ xs.length ≤ 9223372036854775807) := ⟨by
  intro H en w fuel cs x hx
  have one : ∀ {d : D} {v : Value} {j : Nat} {d' : D}, ([d] : List D)[j]? = some d' → d.one = true → RD w (Old w) d v → d'.one = true ∧ RD w (Old w) d' (([v] : List Value).getD j undef) := fun {d v j d'} hj h1 h2 => by
    cases j with
    | zero => simp at hj; subst hj; exact ⟨h1, h2⟩
    | succ j => simp at hj
  rcases DataW.trod_slice ht hx with ⟨rfl, _⟩ | ⟨a, len, cap, elems, rest, n, _, rfl, _, hb, hl, hm, hlen, hel, _, _⟩
  · refine ⟨[], ⟨by simp, by simp⟩, rfl, fun j d hj => one hj rfl (nils_slice sz .nils)⟩
  · have each : ∀ i : Fin len, ∃ (y : α) (ci : List Value), w.cells? 0 (a.add (i.1 * sz)) sz = some ci ∧ φ y ∧ (enc y).length = ci.length ∧ ∀ (j : Nat) d, (enc y)[j]? = some d → d.one = true ∧ RD w (Old w) d (ci.getD j undef) := fun i => by
      have h1 := hel i.1 i.2
      rw [hc] at h1
      rw [List.getElem?_eq_getElem (by omega)] at h1
      obtain ⟨ci, h2, h3⟩ := Option.bind_eq_some_iff.1 h1
      obtain ⟨y, k1, k2, k3⟩ := h.read h3
      exact ⟨y, ci, h2, k1, k2, k3⟩
    let ys : Fin len → α := fun i => Classical.choose (each i)
    let cis : Fin len → List Value := fun i => Classical.choose (Classical.choose_spec (each i))
    have sp : ∀ i, w.cells? 0 (a.add (i.1 * sz)) sz = some (cis i) ∧ φ (ys i) ∧ (enc (ys i)).length = (cis i).length ∧ ∀ (j : Nat) d, (enc (ys i))[j]? = some d → d.one = true ∧ RD w (Old w) d ((cis i).getD j undef) := fun i => Classical.choose_spec (Classical.choose_spec (each i))
    have hxl : (List.ofFn ys).length = len := by simp
    have get : ∀ {i : Nat} {x : List D}, ((List.ofFn ys).map enc)[i]? = some x → ∃ hi : i < len, x = enc (ys ⟨i, hi⟩) := fun {i x} hi => by
      rw [List.getElem?_map] at hi
      cases hy : (List.ofFn ys)[i]? with
      | none => simp [hy] at hi
      | some y =>
        simp [hy] at hi
        obtain ⟨h1, h2⟩ := List.getElem?_eq_some_iff.1 hy
        refine ⟨by simpa using h1, ?_⟩
        rw [← hi, ← h2]
        simp
    refine ⟨List.ofFn ys, ⟨fun x hx => ?_, by simp; unfold maxLen at hm; omega⟩, rfl, fun j d hj => one hj rfl ?_⟩
    · obtain ⟨i, rfl⟩ := List.mem_ofFn.1 hx
      exact (sp i).2.1
    · let f : Nat → Nat → Value := fun i j => if hi : i < len then (cis ⟨i, hi⟩).getD j undef else undef
      have hs := RD.slice (w := w) (F := Old w) sz ((List.ofFn ys).map enc) (some a) cap f (by simp; exact hl) (fun _ => rfl)
        (fun x hx => by
          obtain ⟨i, hi⟩ := List.mem_iff_getElem?.1 hx
          obtain ⟨hlt, rfl⟩ := get hi
          rw [(sp _).2.2.1, (World.cells?_some (sp _).1).2.1])
        (fun i x j d hi hj => by
          obtain ⟨hlt, rfl⟩ := get hi
          obtain ⟨k1, k2⟩ := (sp ⟨i, hlt⟩).2.2.2 j d hj
          have hjl := (List.getElem?_eq_some_iff.1 hj).1
          obtain ⟨_, c1, c2⟩ := World.cells?_some (sp ⟨i, hlt⟩).1
          have hjs : j < sz := by rw [← c1, ← (sp ⟨i, hlt⟩).2.2.1]; exact hjl
          have hcell := c2 j hjs
          have hg : (cis ⟨i, hlt⟩)[j]? = some ((cis ⟨i, hlt⟩).getD j undef) := by
            rw [List.getD_eq_getElem?_getD, List.getElem?_eq_getElem (by rw [c1]; exact hjs)]; rfl
          rw [hg] at hcell
          simp only [f, dif_pos hlt]
          refine ⟨by rw [k2.one_iff]; exact k1, a, rfl, ?_, ?_⟩
          · have := cell_old hcell
            rwa [add_block, add_block] at this
          · rw [← Addr.add_add]; exact hcell)
        (fun i x j d hi hj => by
          obtain ⟨hlt, rfl⟩ := get hi
          simp only [f, dif_pos hlt]
          exact ((sp ⟨i, hlt⟩).2.2.2 j d hj).2)
      simpa using hs⟩

theorem one_slice {P : Program} {w : World} {r : Reach} {b : Nat} {t e : TypeId} {v : Value} (ht : P.underlying t = some (.slice e)) (h : Value.okWide P w r b t v) : v.oneCell' = true := by
  cases v <;> first | rfl | simp [Value.okWide, ht, Cell.okWide, Cell.ok] at h
theorem one_int {P : Program} {w : World} {r : Reach} {b : Nat} {t : TypeId} {k : IntKind} {v : Value} (ht : P.underlying t = some (.int k)) (h : Value.okWide P w r b t v) : v.oneCell' = true := by
  cases v <;> first | rfl | simp [Value.okWide, ht, Cell.okWide, Cell.ok] at h
theorem one_bool {P : Program} {w : World} {r : Reach} {b : Nat} {t : TypeId} {v : Value} (ht : P.underlying t = some .bool) (h : Value.okWide P w r b t v) : v.oneCell' = true := by
  cases v <;> first | rfl | simp [Value.okWide, ht, Cell.okWide, Cell.ok] at h
theorem one_string {P : Program} {w : World} {r : Reach} {b : Nat} {t : TypeId} {v : Value} (ht : P.underlying t = some .string) (h : Value.okWide P w r b t v) : v.oneCell' = true := by
  cases v <;> first | rfl | simp [Value.okWide, ht, Cell.okWide, Cell.ok] at h

/-- An argument of one cell. -/
theorem Rdg.arg {P : Program} {t : TypeId} {α : Type} {f : α → D} {φ : α → Prop} (h : Rdg P t (fun a => [f a]) φ) {H : Type} {en : TypeId × Value → H} {w : World} {v : Value} {d : DataW H} {ps : List MemPlace}
    (h1 : v.oneCell' = true) (hd : DataW.Trod en P w 0 (fun _ => true) true t v d ps) : ∃ a, φ a ∧ RD w (Old w) (f a) v := by
  obtain ⟨fuel, hf⟩ := hd
  obtain ⟨a, k1, k2, k3⟩ := h.read hf
  have e : v.cells = #[v] := by cases v <;> first | rfl | simp [Value.oneCell'] at h1
  rw [e] at k3
  exact ⟨a, k1, by simpa using (k3 0 (f a) rfl).2⟩

/-- The call of a law: what it yields, and that old memory stays. -/
theorem law_calls {E : Env} (hg : ∀ g, E.gl g = none) {f : FuncId} {ds : List D} (h : PCall E f ds (.bool true)) {W : World} {args : Array Value} (ha : RVL W (Old W) [] (ds.map .d) args) :
    Calls E.P f args W fun e W' => e = .returned (.bool true) ∧ Below W.heap.size W W' := by
  have hS : SR E W (Old W) [] [] := ⟨rfl, fun id s o h => by simp at h, fun id s o b h => by simp at h, fun i j si sj oi oj b h => by simp at h, fun b h => h, fun g sz xs h => by rw [hg g] at h; cases h⟩
  refine (h.2 W (Old W) [] args hS ha).mono ?_
  rintro e W' ⟨v, r, H', F', Γ', rfl, hS', hv, rfl, hX⟩
  rw [RD_bool hv.of_d]
  exact ⟨rfl, hX.os, hX.tape, hX.output, hX.size, fun k hk => hX.unch k hk (fun ⟨id, s, o, h1, _⟩ => by simp at h1)⟩

theorem trodAll_below {H : Type} {enc : TypeId × Value → H} {P : Program} (hl : laidOutB P = true) {W W' : World} (hb : Below W.heap.size W W') : ∀ {ts : List TypeId} {vs : List Value} {ds : List (DataW H)} {ps : List MemPlace},
    ts.all (fun t => P.readableRec t && decide (t < P.types.size)) = true → DataW.TrodAll enc P W 0 (fun _ => true) true ts vs ds ps → DataW.TrodAll enc P W' 0 (fun b => decide (b < W.heap.size)) true ts vs ds ps
  | [], [], [], ps, _, h => h
  | t :: ts, v :: vs, d :: ds, ps, hr, h => by
    obtain ⟨p, q, h1, h2, rfl⟩ := h
    simp only [List.all_cons, Bool.and_eq_true, decide_eq_true_eq] at hr
    have hlt : ∀ x ∈ p ++ q, x.block < W.heap.size := DataW.TrodAll.lt (ts := t :: ts) (vs := v :: vs) (ds := d :: ds) ⟨p, q, h1, h2, rfl⟩
    exact ⟨p, q, Below.trod hl hr.1.1 hr.1.2 h1 hb (fun x hx => hlt x (by simp [hx])), trodAll_below hl hb (by simpa using hr.2) h2, rfl⟩
  | [], _ :: _, _, _, _, h => by simp [DataW.TrodAll] at h
  | [], [], _ :: _, _, _, h => by simp [DataW.TrodAll] at h
  | _ :: _, [], _, _, _, h => by simp [DataW.TrodAll] at h
  | _ :: _, _ :: _, [], _, _, h => by simp [DataW.TrodAll] at h

theorem kept_below {W W' : World} (hb : Below W.heap.size W W') (may : MemPlace → Prop) : W.keptBut W' may := by
  refine ⟨hb.os, hb.output, fun i hi => ?_⟩
  rw [hb.block i hi]
  cases h : W.heap[i]? with
  | none => rfl
  | some o => cases o <;> first | exact ⟨rfl, rfl, rfl, fun _ _ => rfl⟩ | exact .inr ⟨rfl, rfl⟩ | rfl

/-- **WHAT THE STATEMENT ASKS BEHIND THE CALL.** -/
theorem post_true {H : Type} {enc : TypeId × Value → H} {P : Program} {fn : Func} {s : ChangeSpec} {W W' : World} {args : Array Value} {ds gs : List (DataW H)} {before : List MemPlace} {tb : TypeId}
    (hl : laidOutB P = true) (hr : fn.params.toList.all (fun t => P.readableRec t && decide (t < P.types.size)) = true) (hres : fn.resultTypes = #[tb]) (htb : P.underlying tb = some .bool) (hv : s.vars = [])
    (hW : DataW.Whole enc P fn.params.toList s.vars false W args.toList ds gs before) (hfn : s.fn H (ds ++ gs) = { results := [.lit (.bool true)], args := ds }) (hb : Below W.heap.size W W') :
    s.post enc P fn false true false false W args (.bool true) W' := by
  have hW' := hW
  obtain ⟨p, q, hA, hV, rfl, hfz, hnd⟩ := hW
  rw [hv] at hV
  obtain ⟨rfl, rfl⟩ := trodVars_none hV
  refine ⟨ds, [], p ++ [], [], p, [], hW', ?_, ?_, ?_, kept_below hb _, fun h => by cases h⟩
  · rw [hfn, hres]
    exact trodAll_mk1 (shut_bool htb true)
  · rw [hfn]
    exact trodAll_below hl hb hr hA
  · rw [hfn, hv]
    rfl
end Go.Abs
