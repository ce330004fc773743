/-
  slices.Sort at whole numbers, by the library's own contract: an own row of ints becomes its sorted row.
-/
import Derived.Test.YtjljjakfebfpfaaDoorAbs14
import Derived.Shelf.SortG.Plain
import Derived.Shelf.SortG.SortNone
import Derived.Sort.OwnSortedInts
set_option autoImplicit false
set_option linter.unusedVariables false
set_option linter.unusedSimpArgs false
namespace Go.Abs
open Go.Shelf Go.Sort

/-- A row's order. -/
def srt (ks : List Int) : List Int := ks.mergeSort fun x y => decide (x ≤ y)
theorem srt_length (ks : List Int) : (srt ks).length = ks.length := by simp [srt]
theorem srt_perm (ks : List Int) : (srt ks).Perm ks := List.mergeSort_perm _ _
theorem srt_sorted (ks : List Int) : (srt ks).Pairwise (· ≤ ·) := by
  have := List.pairwise_mergeSort (le := fun x y : Int => decide (x ≤ y)) (fun a b c h1 h2 => by simp at *; omega) (fun a b => by simp; omega) ks
  exact this.imp (by simp)
theorem srt_unique {ks ls : List Int} (h : ls.Perm ks) (hs : ls.Pairwise (· ≤ ·)) : srt ks = ls :=
  List.Perm.eq_of_pairwise (le := (· ≤ ·)) (fun a b _ _ h1 h2 => by omega) (srt_sorted ks) hs ((srt_perm ks).trans h.symm)

theorem sortI {E : Env} {g : FuncId} {ρ : Ren} (Ly : Go.Proofs.SlLaysN.n53 E.P ρ) (hg : ρ.f 53 = g) {id : Nat} {ty : TypeId} {H : List AObj} {ks : List Int} (ho : H[id]? = some (.arr ty 1 (ints ks))) (hk : ks.length < 4611686018427387904) :
    ACalls E g [.sfull id] H fun r H' => r = .d (.tup []) ∧ H' = H.set id (.arr ty 1 (ints (srt ks))) := by
  refine ⟨hg ▸ Ly.f53.enters rfl, fun w F Γ vs hS hV => ?_⟩
  have hlt : id < Γ.length := by rw [hS.len]; exact (List.getElem?_eq_some_iff.1 ho).1
  obtain ⟨s, hs⟩ : ∃ s, Γ[id]? = some s := ⟨_, List.getElem?_eq_getElem hlt⟩
  obtain ⟨h1, h2, h3, h4, h5⟩ := hS.obj id s _ hs ho
  have hn : H.length ≤ Γ.length := by rw [hS.len]; exact Nat.le_refl _
  have htup : ∀ w' F' Γ', RV w' F' Γ' (.d (.tup [])) (.tuple #[]) := fun w' F' Γ' => .d (.tup [] #[] rfl (fun j d hj => by simp at hj))
  have hlen : s.len = ks.length := by rw [h2, ints_length]
  obtain ⟨v, hv, hrv⟩ : ∃ v, vs = #[v] ∧ RV w F Γ (.sfull id) v := by
    obtain ⟨l⟩ := vs
    obtain ⟨k1, k2⟩ := hV
    match l with
    | [] => simp at k1
    | [v] => exact ⟨v, rfl, by simpa using k2 0 _ rfl⟩
    | _ :: _ :: _ => simp at k1
  subst hv
  cases hrv with
  | sfull hs' hA =>
    rw [hs] at hs'
    obtain rfl := Option.some.inj hs'
    rename_i A
    by_cases hk0 : ks = []
    · subst hk0
      have hl0 : s.len = 0 := by rw [hlen]; rfl
      rw [hl0]
      have := Go.Proofs.AnyG.slices_Sort_int_none Ly A s.cap w
      rw [hg] at this
      refine this.mono ?_
      rintro e w' ⟨rfl, rfl⟩
      refine ⟨_, _, H, F, Γ, rfl, hS, htup _ _ _, ⟨rfl, ?_⟩, Ext.refl hn⟩
      have : srt [] = [] := by simp [srt]
      rw [this]
      apply List.ext_getElem?
      intro j
      by_cases hj : id = j
      · subst hj
        rw [ho, List.getElem?_set_self (by rw [← hS.len]; exact hlt)]
      · rw [List.getElem?_set_ne hj]
    · have hpos : 0 < ks.length := List.length_pos_iff.2 hk0
      rcases h5 with ⟨_, hc0⟩ | ⟨b, c, hb, hh, hcs, hcells⟩
      · rw [ints_length] at h3; omega
      · obtain rfl := hA b hb
        have hget : ∀ (j : Nat) (hj : j < ks.length), c.getD j undef = .int .i64 ks[j] := fun j hj => by
          have := hcells j [.int .i64 ks[j]] 0 (.int .i64 ks[j]) (by simp [ints, List.getElem?_eq_getElem hj]) rfl
          rw [Nat.mul_one, Nat.add_zero] at this
          exact RD_int this.2
        have hcl : ks.length ≤ c.size := by rw [ints_length] at h3; omega
        have hbl : b < w.heap.size := (Array.getElem?_eq_some_iff.1 hh).1
        have hH : Holds (Value.int .i64) w b 0 ks.toArray := fun j hj => by
          have hj' : j < ks.length := by simpa using hj
          refine ⟨?_, by simp [World.frozen?, hh]⟩
          rw [Nat.zero_add, cell_of_heap hh, getD_of (by omega), hget j hj']
          simp [hj']
        have := Go.Proofs.AnyG.slices_Sort_int Ly b 0 s.cap ks w hH hbl hk
        rw [hg, ← hlen] at this
        refine this.mono ?_
        rintro e w' ⟨rfl, n, os, rfl⟩
        have hh' := heap_sortedI (n := n) (os := os) (ks.mergeSort fun x y => decide (x ≤ y)).toArray hh
        have hgr := grownBy_sortedI (w := w) (g := b) (n := n) (os := os) (ks.mergeSort fun x y => decide (x ≤ y)).toArray
        generalize grow (putRow (Value.int .i64) (Sort.ahead w n) b 0 (ks.mergeSort fun x y => decide (x ≤ y)).toArray) os = w' at hh' hgr
        have hnotL : ¬ LiveB Γ (H.set id .none) b := fun ⟨j, sj, oj, q1, q2, q3, q4⟩ => by
          rcases set_get q2 with ⟨_, rfl, _⟩ | ⟨hne, q2⟩
          · simp [AObj.live] at q3
          · exact hne (hS.inj id j s sj _ oj b hs q1 ho q2 rfl q3 hb q4)
        have hnotF : ¬ F b := hS.sep id s _ b hs ho rfl hb
        have hother : ∀ k, k < w.heap.size → k ≠ b → w'.heap[k]? = w.heap[k]? := fun k hk hkb => hgr.block k hk (by simpa using hkb)
        have hSw : SR E w' F Γ (H.set id .none) := (hS.dead id).world hgr.size (fun k hk => by
          rcases hk with hk | hk
          · exact hother k (hS.low k hk) (fun e => hnotF (e ▸ hk))
          · exact hother k (live_lt (hS.dead id) hk) (fun e => hnotL (e ▸ hk)))
        have hro : RO w' F Γ s (.arr ty 1 (ints (srt ks))) := by
          refine ⟨h1, by rw [ints_length, srt_length, hlen], by rw [ints_length, srt_length]; rw [ints_length] at h3; exact h3, fun x hx => ?_, .inr ⟨b, _, hb, hh', by simp [putCells]; omega, fun i x j d hi hj => ?_⟩⟩
          · obtain ⟨y, _, rfl⟩ := List.mem_map.1 hx; rfl
          · simp only [ints, List.getElem?_map, Option.map_eq_some_iff] at hi
            obtain ⟨y, hy, rfl⟩ := hi
            cases j with
            | succ j => simp at hj
            | zero =>
              simp at hj
              subst hj
              have hil : i < (srt ks).length := (List.getElem?_eq_some_iff.1 hy).1
              have hik : i < ks.length := by rwa [srt_length] at hil
              have e : (putCells (Value.int .i64) 0 (ks.mergeSort fun x y => decide (x ≤ y)).toArray c).getD (i * 1 + 0) undef = .int .i64 y := by
                rw [Nat.mul_one, Nat.add_zero, Array.getD_eq_getD_getElem?]
                simp only [putCells, Array.getElem?_mapIdx]
                rw [Array.getElem?_eq_getElem (by omega)]
                have hy' : (ks.mergeSort fun x y => decide (x ≤ y))[i]? = some y := hy
                have hil' : i < (ks.mergeSort fun x y => decide (x ≤ y)).length := (List.getElem?_eq_some_iff.1 hy').1
                simp only [Option.map_some, Nat.zero_le, true_and, List.size_toArray, Nat.zero_add, hil', if_true, Nat.sub_zero, Option.getD_some]
                congr 1
                rw [List.getElem!_toArray, List.getElem!_eq_getElem?_getD, hy']
                rfl
              rw [e]
              exact ⟨rfl, .int _ _⟩
        have hS' : SR E w' F Γ ((H.set id .none).set id (.arr ty 1 (ints (srt ks)))) := hSw.revive hs hro (fun b' hb' => by
          rw [hb] at hb'
          obtain rfl := Option.some.inj hb'
          exact ⟨hnotF, by rw [List.set_set]; exact hnotL⟩)
        rw [List.set_set] at hS'
        refine ⟨_, _, _, F, Γ, rfl, hS', htup _ _ _, ⟨rfl, rfl⟩, hgr.os, hgr.tape, hgr.output, hgr.size, fun k hk hl => hother k hk (fun e => hl (by subst e; exact ⟨id, s, _, hs, ho, rfl, hb⟩)), fun _ h => h, fun _ h _ => .inl h, fun k hk hlt => ?_, fun _ _ => rfl, hn⟩
        exact live_retell ho rfl hk
/-- .. and of a nil slice nothing. -/
theorem sortI_nil {E : Env} {g : FuncId} {ρ : Ren} (Ly : Go.Proofs.SlLaysN.n53 E.P ρ) (hg : ρ.f 53 = g) (H : List AObj) : ACalls E g [.d .nils] H fun r H' => r = .d (.tup []) ∧ H' = H := by
  refine ⟨hg ▸ Ly.f53.enters rfl, fun w F Γ vs hS hV => ?_⟩
  have hn : H.length ≤ Γ.length := by rw [hS.len]; exact Nat.le_refl _
  obtain ⟨v, hv, hrv⟩ : ∃ v, vs = #[v] ∧ RV w F Γ (.d .nils) v := by
    obtain ⟨l⟩ := vs
    obtain ⟨k1, k2⟩ := hV
    match l with
    | [] => simp at k1
    | [v] => exact ⟨v, rfl, by simpa using k2 0 _ rfl⟩
    | _ :: _ :: _ => simp at k1
  subst hv
  have hd := hrv.of_d
  cases hd
  have := Go.Proofs.AnyG.slices_Sort_int_none Ly none 0 w
  rw [hg] at this
  refine this.mono ?_
  rintro e w' ⟨rfl, rfl⟩
  exact ⟨_, _, H, F, Γ, rfl, hS, .d (.tup [] #[] rfl (fun j d hj => by simp at hj)), ⟨rfl, rfl⟩, Ext.refl hn⟩
end Go.Abs
