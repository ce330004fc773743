/-
  Ranges over maps; a round of a loop over a function, as a contract.
-/
import Derived.Test.YtjljjakfebfpfaaDoorAbsE
import Derived.Maps.RangeRun
set_option autoImplicit false
set_option linter.unusedVariables false
set_option linter.unusedSimpArgs false
namespace Go.Abs

/-- A range over a map begins: whatever its entries' numbers are. -/
def Rng (m : Nat) (es : List (D × D)) (H : List AObj) (K : AV → List AObj → Prop) : Prop :=
  ∀ (bs : List Nat) (clk : Nat), bs.length = es.length → bs.Nodup → (∀ x ∈ bs, x < clk) → K (.pvar H.length 0) (H.set m (.mapb es bs clk) ++ [.iter m bs clk []])
def arange (E : Env) (T : TypeId) (H : List AObj) (x : AV) (K : AV → List AObj → Prop) : Prop := match kd E T with
  | some (.map _ _) => (match x with
    | .mapo m => (match H.getD m .none with
      | .map es => Rng m es H K
      | _ => False)
    | _ => False)
  | _ => False
def entryOf (es : List (D × D)) (j : Nat) : D × D := es.getD j (.nilp, .nilp)
/-- A step of it: an entry that has not come yet, or none. -/
def Nxt (i m : Nat) (bs : List Nat) (clk : Nat) (idx : List Nat) (es : List (D × D)) (H : List AObj) (K : AV → List AObj → Prop) : Prop :=
  (∀ j ∈ idx, j < es.length) ∧
        (∀ j, j < es.length → j ∉ idx → K (.d (.tup [.bool true, (entryOf es j).1, (entryOf es j).2])) (H.set i (.iter m bs clk (idx ++ [j])))) ∧
        ((∀ j, j < es.length → j ∈ idx) → K (.d (.tup [.bool false])) H)
def anext (E : Env) (isStr : Bool) (H : List AObj) (it : AV) (K : AV → List AObj → Prop) : Prop := match isStr, it with
  | false, .pvar i 0 => (match H.getD i .none with
    | .iter m bs clk idx => (match H.getD m .none with
      | .mapb es bs' clk' => bs' = bs ∧ clk' = clk ∧ Nxt i m bs clk idx es H K
      | _ => False)
    | _ => False)
  | _, _ => False
/-- The key and the value of the last step. -/
def aentry (H : List AObj) (it : AV) (K : AV → Prop) : Prop := match it with
  | .pvar i 0 => (match H.getD i .none with
    | .iter m bs clk idx => (match H.getD m .none with
      | .mapb es bs' clk' => bs' = bs ∧ clk' = clk ∧ ∃ j, idx.getLast? = some j ∧ j < es.length ∧ K (.d (.tup [(entryOf es j).1, (entryOf es j).2]))
      | _ => False)
    | _ => False)
  | _ => False

/-- A round of the loop id, as a contract. -/
def Rounds (P : Program) (b : Nat) (fn : FuncId) (tmps : Array Value) (assign body : Code) (w : World) (R : Ending → World → Prop) : Prop := RoundIn Fence.wide 0 P b fn tmps assign body w R
def AYield (E : Env) (id : Nat) (args : List AV) (H : List AObj) (K : AV → List AObj → Prop) : Prop :=
  ∀ w F Γ vs s b, SR E w F Γ H → RVL w F Γ args vs → Γ[id]? = some s → s.b = some b → ∃ fn tmps assign body, (Instr.yield b vs).run E.P w = .ok (.round b fn tmps assign body) w ∧
    Rounds E.P b fn tmps assign body w fun e w' => ∃ v r H' F' Γ', e = .returned v ∧ SR E w' F' Γ' H' ∧ RV w' F' Γ' r v ∧ K r H' ∧ Ext H.length w F Γ H w' F' Γ' H'
@[congr] theorem AYield_congr {E : Env} {id : Nat} {args args' : List AV} {H H' : List AObj} {K : AV → List AObj → Prop} (h1 : args = args') (h2 : H = H') : AYield E id args H K = AYield E id args' H' K := by rw [h1, h2]

section
variable {E : Env} {w : World} {F : Nat → Prop} {Γ : List Slot} {H : List AObj} {n0 : Nat}

theorem run_getLoop {P : Program} {r : Nat} {l : Loop} (hb : w.heap[r]? = some (.loop l)) : (Instr.getLoop r).run P w = .ok l w := by
  simp [Instr.getLoop, getObj, Sem.run, hb]
theorem run_setLoop {P : Program} {r : Nat} {l : Loop} (o : Obj) (hb : w.heap[r]? = some (.loop l)) : (setObj r o).run P w = .ok () (putB w r o) := by
  simp [setObj, Sem.run, hb, putB]

/-- An object told in another way. -/
theorem sr_retell (hS : SR E w F Γ H) {id : Nat} {s : Slot} {o o' : AObj} (hs : Γ[id]? = some s) (ho : H[id]? = some o) (hl : o.live = true) (hro : RO w F Γ s o') : SR E w F Γ (H.set id o') :=
  hS.revive hs hro fun b hb => ⟨hS.sep id s o b hs ho hl hb, fun ⟨j, sj, oj, h1, h2, h3, h4⟩ => by
    rcases set_get h2 with ⟨_, rfl, _⟩ | ⟨hne, h2⟩
    · simp [AObj.live] at h3
    · exact hne (hS.inj id j s sj o oj b hs h1 ho h2 hl h3 hb h4)⟩
theorem live_retell {id b : Nat} {o o' : AObj} (ho : H[id]? = some o) (hl : o.live = true) (h : LiveB Γ (H.set id o') b) : LiveB Γ H b := by
  obtain ⟨j, s, p, h1, h2, h3, h4⟩ := h
  rcases set_get h2 with ⟨rfl, rfl, _⟩ | ⟨_, h2⟩
  · exact ⟨id, s, o, h1, ho, hl, h4⟩
  · exact ⟨j, s, p, h1, h2, h3, h4⟩
theorem ext_retell (hn : n0 ≤ Γ.length) {id : Nat} {o o' : AObj} (ho : H[id]? = some o) (hl : o.live = true) : Ext n0 w F Γ H w F Γ (H.set id o') :=
  ⟨rfl, rfl, rfl, Nat.le_refl _, fun _ _ _ => rfl, fun _ h => h, fun _ h _ => .inl h, fun _ h _ => live_retell ho hl h, fun _ _ => rfl, hn⟩

theorem arange_ok (hE : EnvOk E) (hS : SR E w F Γ H) (hn : n0 ≤ Γ.length) {T : TypeId} {x : AV} {K : AV → List AObj → Prop} (h : arange E T H x K) {xv : Value} (hx : RV w F Γ x xv) :
    ∃ u w', (Instr.range T xv).run E.P w = .ok u w' ∧ Out E n0 w F Γ H u w' K := by
  unfold arange at h
  split at h <;> try exact h.elim
  rename_i kt e hkd
  obtain ⟨d, hf, hr⟩ := kd_some hE hkd
  simp only [Kd.fits] at hf
  subst hf
  split at h <;> try exact h.elim
  rename_i m
  split at h <;> try exact h.elim
  rename_i es ho
  cases hx with
  | mapo hs hb =>
    rename_i s b
    obtain ⟨ho', b', arr, clock, hb', hh, h1, h2, h3⟩ := obj_at hS hs ho rfl
    obtain rfl : b' = b := by rw [hb] at hb'; exact (Option.some.inj hb').symm
    refine ⟨.pointer (some ⟨w.heap.size, 0, none⟩), w.alloc (.mapIter (some b') clock #[] clock), by simp [Instr.range, hr, run_getMap hh], ?_⟩
    have hbl : (arr.toList.map (·.born)).length = es.length := by simp [h1]
    have hmb : RO w F Γ s (.mapb es (arr.toList.map (·.born)) clock) := by
      refine ⟨b', arr, hb, hh, h1, hbl, fun i k v hi => ?_, ?_, fun x hx => ?_⟩
      · obtain ⟨me, m1, m2, m3, m4⟩ := h2 i k v hi
        exact ⟨me, m1, m2, m3, by rw [List.getElem?_map, Array.getElem?_toList, m1]; rfl⟩
      · rw [List.nodup_iff_pairwise_ne, List.pairwise_iff_getElem]
        intro i j hi hj hij he
        simp at hi hj
        have := h3 i j arr[i] arr[j] (by simp [hi]) (by simp [hj]) (by simpa using he)
        omega
      · obtain ⟨me, hme, rfl⟩ := List.mem_map.1 hx
        obtain ⟨i, hi⟩ := List.mem_iff_getElem?.1 hme
        rw [Array.getElem?_toList] at hi
        have hil : i < es.length := by rw [← h1]; exact (Array.getElem?_eq_some_iff.1 hi).1
        obtain ⟨me', n1, _, _, n4⟩ := h2 i es[i].1 es[i].2 (List.getElem?_eq_getElem hil)
        rw [hi] at n1
        obtain rfl := Option.some.inj n1
        exact n4
    have hnd := hmb
    obtain ⟨_, _, _, _, _, _, _, hnd1, hnd2⟩ := hnd
    have hS1 := sr_retell hS hs ho' rfl hmb
    have hX1 : Ext n0 w F Γ H w F Γ (H.set m (.mapb es (arr.toList.map (·.born)) clock)) := ext_retell hn ho' rfl
    have hK := h _ _ hbl hnd1 hnd2
    have hnew : (w.alloc (.mapIter (some b') clock #[] clock)).heap[w.heap.size]? = some (.mapIter (some b') clock #[] clock) := heap_new w _
    obtain ⟨F', Γ', H', av, g1, g2, g3, g4, g5⟩ := out_new (n0 := n0) hS1 hn (w1 := w) rfl rfl rfl rfl (ob := .mapIter (some b') clock #[] clock) (s := ⟨some w.heap.size, 0, 0, 0⟩) rfl (.inl rfl)
      (o := .iter m (arr.toList.map (·.born)) clock []) ⟨w.heap.size, b', s, #[], rfl, pre_push Γ _ m s hs, hb, hnew, rfl⟩
      (av := .pvar H.length 0) (v := .pointer (some ⟨w.heap.size, 0, none⟩)) (by rw [← hS.len]; exact .pvar (push_get Γ _) rfl) (K := K) hK
    exact ⟨F', Γ', H', av, g1, g2, g3, hX1.trans (Nat.le_refl _) g4, g5⟩

theorem seen_iff {es : List (D × D)} {bs : List Nat} {idx : List Nat} (hn : bs.Nodup) (hlen : bs.length = es.length) (hidx : ∀ j ∈ idx, j < es.length) {i : Nat} (hi : i < es.length) :
    (idx.map fun i => bs.getD i 0).contains (bs.getD i 0) = true ↔ i ∈ idx := by
  rw [List.contains_iff_mem, List.mem_map]
  constructor
  · rintro ⟨j, hj, he⟩
    have hjl := hidx j hj
    have e : bs[j]? = bs[i]? := by
      rw [List.getD_eq_getElem?_getD, List.getD_eq_getElem?_getD, List.getElem?_eq_getElem (by omega), List.getElem?_eq_getElem (by omega)] at he
      rw [List.getElem?_eq_getElem (by omega), List.getElem?_eq_getElem (by omega)]
      simpa using he
    have : j = i := (List.getElem?_inj (by omega) hn).1 e
    exact this ▸ hj
  · exact fun h => ⟨i, h, rfl⟩

theorem anext_ok (hE : EnvOk E) (hS : SR E w F Γ H) (hn : n0 ≤ Γ.length) {isStr : Bool} {it : AV} {K : AV → List AObj → Prop} (h : anext E isStr H it K) {v : Value} (hv : RV w F Γ it v) (ty : TypeId) :
    ∃ u w', (Instr.next v isStr ty).run E.P w = .ok u w' ∧ Out E n0 w F Γ H u w' K := by
  unfold anext at h
  split at h <;> try exact h.elim
  rename_i i
  split at h <;> try exact h.elim
  rename_i m bs clk idx hoi
  split at h <;> try exact h.elim
  rename_i es bs' clk' hom
  obtain ⟨rfl, rfl, hidx, hmore, hdone⟩ := h
  cases hv with
  | pvar hs hb =>
    rename_i s b
    obtain ⟨hoi', b', mb, sm, seen, hb', hsm, hmb, hh, hseen⟩ := obj_at hS hs hoi rfl
    obtain rfl : b' = b := by rw [hb] at hb'; exact (Option.some.inj hb').symm
    obtain ⟨hom', mb', arr, hmb', hmh, h1, h2, h3, h4, h5⟩ := obj_at hS hsm hom rfl
    obtain rfl : mb' = mb := by rw [hmb] at hmb'; exact (Option.some.inj hmb').symm
    have born : ∀ (j : Nat) (me : MapEntry), arr[j]? = some me → bs'.getD j 0 = me.born ∧ j < es.length ∧ RD w F (entryOf es j).1 me.key ∧ RD w F (entryOf es j).2 me.val := fun j me hj => by
      have hjl : j < es.length := by rw [← h1]; exact (Array.getElem?_eq_some_iff.1 hj).1
      obtain ⟨me', n1, n2, n3, n4⟩ := h3 j es[j].1 es[j].2 (List.getElem?_eq_getElem hjl)
      rw [hj] at n1
      obtain rfl := Option.some.inj n1
      have e : entryOf es j = es[j] := by simp [entryOf, List.getD_eq_getElem?_getD, List.getElem?_eq_getElem hjl]
      exact ⟨by rw [List.getD_eq_getElem?_getD, n4]; rfl, hjl, by rw [e]; exact n2, by rw [e]; exact n3⟩
    have hold : ∀ x ∈ arr.toList, x.born < clk' := fun x hx => by
      obtain ⟨j, hj⟩ := List.mem_iff_getElem?.1 hx
      rw [Array.getElem?_toList] at hj
      obtain ⟨e1, e2, _⟩ := born j x hj
      rw [← e1]
      refine h5 _ ?_
      rw [List.getD_eq_getElem?_getD, List.getElem?_eq_getElem (by omega)]
      exact List.getElem_mem _
    have hcont : ∀ (j : Nat) (me : MapEntry), arr[j]? = some me → (seen.contains me.born = true ↔ j ∈ idx) := fun j me hj => by
      obtain ⟨e1, e2, _⟩ := born j me hj
      rw [← e1, ← seen_iff h4 h2 hidx e2, ← hseen]
      simp
    rcases run_next_at (P := E.P) w ty b' mb' clk' clk' seen arr clk' hh hmh hold (Nat.le_refl _) with ⟨h0, hrun⟩ | ⟨me, hme, w1, hw1, hrun⟩
    · refine ⟨_, _, hrun, F, Γ, H, .d (.tup [.bool false]), hS, .d (.tup _ _ rfl fun j d hj => ?_), hdone fun j hj => ?_, Ext.refl hn, fun _ _ h => h⟩
      · match j with
        | 0 => simp at hj; subst hj; exact .bool _
        | j + 1 => simp at hj
      · have hjl : j < arr.size := by omega
        have hja : arr[j]? = some arr[j] := Array.getElem?_eq_getElem hjl
        by_cases hc : j ∈ idx
        · exact hc
        · exfalso
          have hnc : seen.contains arr[j].born = false := by
            have := hcont j _ hja
            cases hcc : seen.contains arr[j].born with
            | false => rfl
            | true => exact absurd (this.1 hcc) hc
          have hm : arr[j] ∈ leftOf arr seen := by
            unfold leftOf
            rw [Array.mem_filter]
            exact ⟨Array.getElem_mem hjl, by rw [hnc]; rfl⟩
          rw [Array.eq_empty_of_size_eq_zero h0] at hm
          simp at hm
    · have hme' : me ∈ arr.toList ∧ seen.contains me.born = false := by
        simp [leftOf] at hme
        exact ⟨by simpa using hme.1, by simpa using hme.2⟩
      obtain ⟨j, hj⟩ := List.mem_iff_getElem?.1 hme'.1
      rw [Array.getElem?_toList] at hj
      obtain ⟨e1, e2, e3, e4⟩ := born j me hj
      have hji : j ∉ idx := fun hc => by
        have := (hcont j me hj).2 hc
        rw [hme'.2] at this
        cases this
      have hh1 : w1.heap = w.heap := by rcases hw1 with rfl | rfl <;> rfl
      have hS1 : SR E w1 F Γ H := by
        rcases hw1 with rfl | rfl
        · exact hS
        · exact hS.world (Nat.le_refl _) (fun _ _ => rfl)
      have hX1 : Ext n0 w F Γ H w1 F Γ H := by
        rcases hw1 with rfl | rfl
        · exact Ext.refl hn
        · exact ⟨rfl, rfl, rfl, Nat.le_refl _, fun _ _ _ => rfl, fun _ h => h, fun _ h _ => .inl h, fun _ h _ => h, fun _ _ => rfl, hn⟩
      have hb1 : w1.heap[b']? = some (.mapIter (some mb') clk' seen clk') := by rw [hh1]; exact hh
      have hnF : ∀ q, F q → q ≠ b' := fun q hq e => by subst e; exact hS.sep i s _ q hs hoi' rfl hb hq
      have hst : ∀ (ob : Obj) q, F q → (putB w1 b' ob).heap[q]? = w.heap[q]? := fun ob q hq => by rw [putB_other w1 b' q ob (hnF q hq), hh1]
      obtain ⟨F', Γ', H', av, g1, g2, ⟨rfl, g3⟩, g4, g5⟩ := out_ob (n0 := n0) hS1 hn hs hoi' rfl hb (ob := .mapIter (some mb') clk' (seen.push me.born) clk') (o' := .iter m bs' clk' (idx ++ [j]))
        ⟨b', mb', sm, seen.push me.born, hb, hsm, hmb, putB_same hb1 _, by simp [hseen, ← e1]⟩ (K := K (.d (.tup [.bool true, (entryOf es j).1, (entryOf es j).2]))) (hmore j e2 hji)
        (v := .tuple #[.bool true, me.key, me.val]) (av := .d (.tup [.bool true, (entryOf es j).1, (entryOf es j).2])) (.d (.tup _ _ rfl fun q d hq => by
          match q with
          | 0 => simp at hq; subst hq; exact .bool _
          | 1 => simp at hq; subst hq; exact e3.mono (fun _ h => h) (hst _)
          | 2 => simp at hq; subst hq; exact e4.mono (fun _ h => h) (hst _)
          | q + 3 => simp at hq))
      exact ⟨_, _, hrun, F', Γ', H', _, g1, g2, g3, hX1.trans (Nat.le_refl _) g4, g5⟩

theorem aentry_ok (hE : EnvOk E) (hS : SR E w F Γ H) {it : AV} {K : AV → Prop} (h : aentry H it K) {v : Value} (hv : RV w F Γ it v) :
    ∃ u av, (Instr.entry v).run E.P w = .ok u w ∧ K av ∧ RV w F Γ av u := by
  unfold aentry at h
  split at h <;> try exact h.elim
  rename_i i
  split at h <;> try exact h.elim
  rename_i m bs clk idx hoi
  split at h <;> try exact h.elim
  rename_i es bs' clk' hom
  obtain ⟨rfl, rfl, j, hlast, hj, hK⟩ := h
  cases hv with
  | pvar hs hb =>
    rename_i s b
    obtain ⟨hoi', b', mb, sm, seen, hb', hsm, hmb, hh, hseen⟩ := obj_at hS hs hoi rfl
    obtain rfl : b' = b := by rw [hb] at hb'; exact (Option.some.inj hb').symm
    obtain ⟨hom', mb', arr, hmb', hmh, h1, h2, h3, h4, h5⟩ := obj_at hS hsm hom rfl
    obtain rfl : mb' = mb := by rw [hmb] at hmb'; exact (Option.some.inj hmb').symm
    obtain ⟨me, n1, n2, n3, n4⟩ := h3 j es[j].1 es[j].2 (List.getElem?_eq_getElem hj)
    have e : entryOf es j = es[j] := by simp [entryOf, List.getD_eq_getElem?_getD, List.getElem?_eq_getElem hj]
    obtain ⟨ini, hini⟩ := List.getLast?_eq_some_iff.1 hlast
    have hsn : ∃ s0 : Array Nat, seen = s0.push me.born := by
      refine ⟨(ini.map fun i => bs'.getD i 0).toArray, ?_⟩
      apply Array.toList_inj.1
      rw [hseen, hini]
      simp [n4]
    obtain ⟨s0, rfl⟩ := hsn
    have hnd : (arr.toList.map (·.born)).Nodup := by
      have e0 : arr.toList.map (·.born) = bs' := by
        apply List.ext_getElem?
        intro q
        rw [List.getElem?_map, Array.getElem?_toList]
        by_cases hq : q < es.length
        · obtain ⟨mq, q1, _, _, q4⟩ := h3 q es[q].1 es[q].2 (List.getElem?_eq_getElem hq)
          rw [q1, q4]; rfl
        · rw [Array.getElem?_eq_none (by omega), List.getElem?_eq_none (by omega)]; rfl
      rw [e0]; exact h4
    have := run_entry_at (P := E.P) w b' mb' clk' s0 arr clk' me hh hmh (List.mem_of_getElem? (i := j) (by rw [Array.getElem?_toList]; exact n1)) hnd
    refine ⟨_, _, this, hK, .d (.tup _ _ rfl fun q d hq => ?_)⟩
    match q with
    | 0 => simp at hq; subst hq; rw [e]; exact n2
    | 1 => simp at hq; subst hq; rw [e]; exact n3
    | q + 2 => simp at hq
end
end Go.Abs
