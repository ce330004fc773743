/-
  Ranges over maps; a round of a loop over a function, as a contract.
  From operations to code: what a function's body comes to, over descriptions ('awp'), and that the machine's run comes to a state so described.
  Regions whose order is open: where all but the last operations change nothing that is owned, one walk in the order of the text serves every order.
  Code: sequences, tests, blocks, loops, regions in an open order; and a function's contract out of its body.
  Regions whose order is open, where quiet operations may come behind operations that write: what is quiet yields the same before and behind.
  Regions whose order is open, in whatever order they come: by what holds of every state on the way.
  Regions whose order is open: one walk stands for all orders, where what writes comes in one order, and what is quiet yields the same wherever it may come.
  Code: sequences, tests, blocks, loops, regions in an open order, loops over functions; a round's contract from its code.
-/
import Derived.Test.YtmeicgbddgeeoaaGreatDoorA1
import Derived.Maps.RangeRun
import Derived.OrdersIn
import Derived.TacticsIn
import Derived.Still
section
set_option autoImplicit false
set_option linter.unusedVariables false
set_option linter.unusedSimpArgs false
namespace Go.Abs
def Rng (m : Nat) (es : List (D × D)) (H : List AObj) (K : AV → List AObj → Prop) : Prop :=
 ∀ (bs : List Nat) (clk : Nat), bs.length = es.length → bs.Nodup → (∀ x ∈ bs, x < clk) → K (.pvar H.length 0) (H.set m (.mapb es bs clk) ++ [.iter m bs clk []])
def arange (E : Env) (T : TypeId) (H : List AObj) (x : AV) (K : AV → List AObj → Prop) : Prop := match kd E T with
 | some (.map _ _) => (match x with
  | .mapo m => (match H.getD m .none with
   | .map es => Rng m es H K
   | _ => False)
  | _ => False)
 | _ => False
def entryOf (es : List (D × D)) (j : Nat) : D × D := es.getD j (.nilp, .nilp)
def Nxt (i m : Nat) (bs : List Nat) (clk : Nat) (idx : List Nat) (es : List (D × D)) (H : List AObj) (K : AV → List AObj → Prop) : Prop :=
 (∀ j ∈ idx, j < es.length) ∧
    (∀ j, j < es.length → j ∉ idx → K (.d (.tup [.bool true, (entryOf es j).1, (entryOf es j).2])) (H.set i (.iter m bs clk (idx ++ [j])))) ∧
    ((∀ j, j < es.length → j ∈ idx) → K (.d (.tup [.bool false])) H)
def anext (E : Env) (isStr : Bool) (H : List AObj) (it : AV) (K : AV → List AObj → Prop) : Prop := match isStr, it with
 | false, .pvar i 0 => (match H.getD i .none with
  | .iter m bs clk idx => (match H.getD m .none with
   | .mapb es bs' clk' => bs' = bs ∧ clk' = clk ∧ Nxt i m bs clk idx es H K
   | _ => False)
  | _ => False)
 | _, _ => False
def aentry (H : List AObj) (it : AV) (K : AV → Prop) : Prop := match it with
 | .pvar i 0 => (match H.getD i .none with
  | .iter m bs clk idx => (match H.getD m .none with
   | .mapb es bs' clk' => bs' = bs ∧ clk' = clk ∧ ∃ j, idx.getLast? = some j ∧ j < es.length ∧ K (.d (.tup [(entryOf es j).1, (entryOf es j).2]))
   | _ => False)
  | _ => False)
 | _ => False
def Rounds (P : Program) (b : Nat) (fn : FuncId) (tmps : Array Value) (assign body : Code) (w : World) (R : Ending → World → Prop) : Prop := RoundIn Fence.wide 0 P b fn tmps assign body w R
def AYield (E : Env) (id : Nat) (args : List AV) (H : List AObj) (K : AV → List AObj → Prop) : Prop :=
 ∀ w F Γ vs s b, SR E w F Γ H → RVL w F Γ args vs → Γ[id]? = some s → s.b = some b → ∃ fn tmps assign body, (Instr.yield b vs).run E.P w = .ok (.round b fn tmps assign body) w ∧
  Rounds E.P b fn tmps assign body w fun e w' => ∃ v r H' F' Γ', e = .returned v ∧ SR E w' F' Γ' H' ∧ RV w' F' Γ' r v ∧ K r H' ∧ Ext H.length w F Γ H w' F' Γ' H'
@[congr] theorem AYield_congr {E : Env} {id : Nat} {args args' : List AV} {H H' : List AObj} {K : AV → List AObj → Prop} (h1 : args = args') (h2 : H = H') : AYield E id args H K = AYield E id args' H' K := by rw [h1, h2]
section
variable {E : Env} {w : World} {F : Nat → Prop} {Γ : List Slot} {H : List AObj} {n0 : Nat}
theorem run_getLoop {P : Program} {r : Nat} {l : Loop} (hb : w.heap[r]? = some (.loop l)) : (Instr.getLoop r).run P w = .ok l w := by
 simp [Instr.getLoop, getObj, Sem.run, hb]
theorem run_setLoop {P : Program} {r : Nat} {l : Loop} (o : Obj) (hb : w.heap[r]? = some (.loop l)) : (setObj r o).run P w = .ok () (putB w r o) := by
 simp [setObj, Sem.run, hb, putB]
theorem sr_retell (hS : SR E w F Γ H) {id : Nat} {s : Slot} {o o' : AObj} (hs : Γ[id]? = some s) (ho : H[id]? = some o) (hl : o.live = true) (hro : RO w F Γ s o') : SR E w F Γ (H.set id o') :=
 hS.revive hs hro fun b hb => ⟨hS.sep id s o b hs ho hl hb, fun ⟨j, sj, oj, h1, h2, h3, h4⟩ => by
  rcases set_get h2 with ⟨_, rfl, _⟩ | ⟨hne, h2⟩
  ·simp [AObj.live] at h3
  ·exact hne (hS.inj id j s sj o oj b hs h1 ho h2 hl h3 hb h4)⟩
theorem live_retell {id b : Nat} {o o' : AObj} (ho : H[id]? = some o) (hl : o.live = true) (h : LiveB Γ (H.set id o') b) : LiveB Γ H b := by
 obtain ⟨j, s, p, h1, h2, h3, h4⟩ := h
 rcases set_get h2 with ⟨rfl, rfl, _⟩ | ⟨_, h2⟩
 ·exact ⟨id, s, o, h1, ho, hl, h4⟩
 ·exact ⟨j, s, p, h1, h2, h3, h4⟩
theorem ext_retell (hn : n0 ≤ Γ.length) {id : Nat} {o o' : AObj} (ho : H[id]? = some o) (hl : o.live = true) : Ext n0 w F Γ H w F Γ (H.set id o') :=
 ⟨rfl, rfl, rfl, Nat.le_refl _, fun _ _ _ => rfl, fun _ h => h, fun _ h _ => .inl h, fun _ h _ => live_retell ho hl h, fun _ _ => rfl, hn⟩
theorem arange_ok (hE : EnvOk E) (hS : SR E w F Γ H) (hn : n0 ≤ Γ.length) {T : TypeId} {x : AV} {K : AV → List AObj → Prop} (h : arange E T H x K) {xv : Value} (hx : RV w F Γ x xv) :
  ∃ u w', (Instr.range T xv).run E.P w = .ok u w' ∧ Out E n0 w F Γ H u w' K := by
 unfold arange at h
 split at h <;> try exact h.elim
 rename_i kt e hkd
 obtain ⟨d, hf, hr⟩ := kd_some hE hkd
 simp only [Kd.fits] at hf
 subst hf
 split at h <;> try exact h.elim
 rename_i m
 split at h <;> try exact h.elim
 rename_i es ho
 cases hx with
 | mapo hs hb =>
  rename_i s b
  obtain ⟨ho', b', arr, clock, hb', hh, h1, h2, h3⟩ := obj_at hS hs ho rfl
  obtain rfl : b' = b := by rw [hb] at hb'; exact (Option.some.inj hb').symm
  refine ⟨.pointer (some ⟨w.heap.size, 0, none⟩), w.alloc (.mapIter (some b') clock #[] clock), by simp [Instr.range, hr, run_getMap hh], ?_⟩
  have hbl : (arr.toList.map (·.born)).length = es.length := by simp [h1]
  have hmb : RO w F Γ s (.mapb es (arr.toList.map (·.born)) clock) := by
   refine ⟨b', arr, hb, hh, h1, hbl, fun i k v hi => ?_, ?_, fun x hx => ?_⟩
   ·obtain ⟨me, m1, m2, m3, m4⟩ := h2 i k v hi
    exact ⟨me, m1, m2, m3, by rw [List.getElem?_map, Array.getElem?_toList, m1]; rfl⟩
   ·rw [List.nodup_iff_pairwise_ne, List.pairwise_iff_getElem]
    intro i j hi hj hij he
    simp at hi hj
    have := h3 i j arr[i] arr[j] (by simp [hi]) (by simp [hj]) (by simpa using he)
    omega
   ·obtain ⟨me, hme, rfl⟩ := List.mem_map.1 hx
    obtain ⟨i, hi⟩ := List.mem_iff_getElem?.1 hme
    rw [Array.getElem?_toList] at hi
    have hil : i < es.length := by rw [← h1]; exact (Array.getElem?_eq_some_iff.1 hi).1
    obtain ⟨me', n1, _, _, n4⟩ := h2 i es[i].1 es[i].2 (List.getElem?_eq_getElem hil)
    rw [hi] at n1
    obtain rfl := Option.some.inj n1
    exact n4
  have hnd := hmb
  obtain ⟨_, _, _, _, _, _, _, hnd1, hnd2⟩ := hnd
  have hS1 := sr_retell hS hs ho' rfl hmb
  have hX1 : Ext n0 w F Γ H w F Γ (H.set m (.mapb es (arr.toList.map (·.born)) clock)) := ext_retell hn ho' rfl
  have hK := h _ _ hbl hnd1 hnd2
  have hnew : (w.alloc (.mapIter (some b') clock #[] clock)).heap[w.heap.size]? = some (.mapIter (some b') clock #[] clock) := heap_new w _
  obtain ⟨F', Γ', H', av, g1, g2, g3, g4, g5⟩ := out_new (n0 := n0) hS1 hn (w1 := w) rfl rfl rfl rfl (ob := .mapIter (some b') clock #[] clock) (s := ⟨some w.heap.size, 0, 0, 0⟩) rfl (.inl rfl)
   (o := .iter m (arr.toList.map (·.born)) clock []) ⟨w.heap.size, b', s, #[], rfl, pre_push Γ _ m s hs, hb, hnew, rfl⟩
   (av := .pvar H.length 0) (v := .pointer (some ⟨w.heap.size, 0, none⟩)) (by rw [← hS.len]; exact .pvar (push_get Γ _) rfl) (K := K) hK
  exact ⟨F', Γ', H', av, g1, g2, g3, hX1.trans (Nat.le_refl _) g4, g5⟩
theorem seen_iff {es : List (D × D)} {bs : List Nat} {idx : List Nat} (hn : bs.Nodup) (hlen : bs.length = es.length) (hidx : ∀ j ∈ idx, j < es.length) {i : Nat} (hi : i < es.length) :
  (idx.map fun i => bs.getD i 0).contains (bs.getD i 0) = true ↔ i ∈ idx := by
 rw [List.contains_iff_mem, List.mem_map]
 constructor
 ·rintro ⟨j, hj, he⟩
  have hjl := hidx j hj
  have e : bs[j]? = bs[i]? := by
   rw [List.getD_eq_getElem?_getD, List.getD_eq_getElem?_getD, List.getElem?_eq_getElem (by omega), List.getElem?_eq_getElem (by omega)] at he
   rw [List.getElem?_eq_getElem (by omega), List.getElem?_eq_getElem (by omega)]
   simpa using he
  have : j = i := (List.getElem?_inj (by omega) hn).1 e
  exact this ▸ hj
 ·exact fun h => ⟨i, h, rfl⟩
theorem anext_ok (hE : EnvOk E) (hS : SR E w F Γ H) (hn : n0 ≤ Γ.length) {isStr : Bool} {it : AV} {K : AV → List AObj → Prop} (h : anext E isStr H it K) {v : Value} (hv : RV w F Γ it v) (ty : TypeId) :
  ∃ u w', (Instr.next v isStr ty).run E.P w = .ok u w' ∧ Out E n0 w F Γ H u w' K := by
 unfold anext at h
 split at h <;> try exact h.elim
 rename_i i
 split at h <;> try exact h.elim
 rename_i m bs clk idx hoi
 split at h <;> try exact h.elim
 rename_i es bs' clk' hom
 obtain ⟨rfl, rfl, hidx, hmore, hdone⟩ := h
 cases hv with
 | pvar hs hb =>
  rename_i s b
  obtain ⟨hoi', b', mb, sm, seen, hb', hsm, hmb, hh, hseen⟩ := obj_at hS hs hoi rfl
  obtain rfl : b' = b := by rw [hb] at hb'; exact (Option.some.inj hb').symm
  obtain ⟨hom', mb', arr, hmb', hmh, h1, h2, h3, h4, h5⟩ := obj_at hS hsm hom rfl
  obtain rfl : mb' = mb := by rw [hmb] at hmb'; exact (Option.some.inj hmb').symm
  have born : ∀ (j : Nat) (me : MapEntry), arr[j]? = some me → bs'.getD j 0 = me.born ∧ j < es.length ∧ RD w F (entryOf es j).1 me.key ∧ RD w F (entryOf es j).2 me.val := fun j me hj => by
   have hjl : j < es.length := by rw [← h1]; exact (Array.getElem?_eq_some_iff.1 hj).1
   obtain ⟨me', n1, n2, n3, n4⟩ := h3 j es[j].1 es[j].2 (List.getElem?_eq_getElem hjl)
   rw [hj] at n1
   obtain rfl := Option.some.inj n1
   have e : entryOf es j = es[j] := by simp [entryOf, List.getD_eq_getElem?_getD, List.getElem?_eq_getElem hjl]
   exact ⟨by rw [List.getD_eq_getElem?_getD, n4]; rfl, hjl, by rw [e]; exact n2, by rw [e]; exact n3⟩
  have hold : ∀ x ∈ arr.toList, x.born < clk' := fun x hx => by
   obtain ⟨j, hj⟩ := List.mem_iff_getElem?.1 hx
   rw [Array.getElem?_toList] at hj
   obtain ⟨e1, e2, _⟩ := born j x hj
   rw [← e1]
   refine h5 _ ?_
   rw [List.getD_eq_getElem?_getD, List.getElem?_eq_getElem (by omega)]
   exact List.getElem_mem _
  have hcont : ∀ (j : Nat) (me : MapEntry), arr[j]? = some me → (seen.contains me.born = true ↔ j ∈ idx) := fun j me hj => by
   obtain ⟨e1, e2, _⟩ := born j me hj
   rw [← e1, ← seen_iff h4 h2 hidx e2, ← hseen]
   simp
  rcases run_next_at (P := E.P) w ty b' mb' clk' clk' seen arr clk' hh hmh hold (Nat.le_refl _) with ⟨h0, hrun⟩ | ⟨me, hme, w1, hw1, hrun⟩
  ·refine ⟨_, _, hrun, F, Γ, H, .d (.tup [.bool false]), hS, .d (.tup _ _ rfl fun j d hj => ?_), hdone fun j hj => ?_, Ext.refl hn, fun _ _ h => h⟩
   ·match j with
    | 0 => simp at hj; subst hj; exact .bool _
    | j + 1 => simp at hj
   ·have hjl : j < arr.size := by omega
    have hja : arr[j]? = some arr[j] := Array.getElem?_eq_getElem hjl
    by_cases hc : j ∈ idx
    ·exact hc
    ·exfalso
     have hnc : seen.contains arr[j].born = false := by
      have := hcont j _ hja
      cases hcc : seen.contains arr[j].born with
      | false => rfl
      | true => exact absurd (this.1 hcc) hc
     have hm : arr[j] ∈ leftOf arr seen := by
      unfold leftOf
      rw [Array.mem_filter]
      exact ⟨Array.getElem_mem hjl, by rw [hnc]; rfl⟩
     rw [Array.eq_empty_of_size_eq_zero h0] at hm
     simp at hm
  ·have hme' : me ∈ arr.toList ∧ seen.contains me.born = false := by
    simp [leftOf] at hme
    exact ⟨by simpa using hme.1, by simpa using hme.2⟩
   obtain ⟨j, hj⟩ := List.mem_iff_getElem?.1 hme'.1
   rw [Array.getElem?_toList] at hj
   obtain ⟨e1, e2, e3, e4⟩ := born j me hj
   have hji : j ∉ idx := fun hc => by
    have := (hcont j me hj).2 hc
    rw [hme'.2] at this
    cases this
   have hh1 : w1.heap = w.heap := by rcases hw1 with rfl | rfl <;> rfl
   have hS1 : SR E w1 F Γ H := by
    rcases hw1 with rfl | rfl
    ·exact hS
    ·exact hS.world (Nat.le_refl _) (fun _ _ => rfl)
   have hX1 : Ext n0 w F Γ H w1 F Γ H := by
    rcases hw1 with rfl | rfl
    ·exact Ext.refl hn
    ·exact ⟨rfl, rfl, rfl, Nat.le_refl _, fun _ _ _ => rfl, fun _ h => h, fun _ h _ => .inl h, fun _ h _ => h, fun _ _ => rfl, hn⟩
   have hb1 : w1.heap[b']? = some (.mapIter (some mb') clk' seen clk') := by rw [hh1]; exact hh
   have hnF : ∀ q, F q → q ≠ b' := fun q hq e => by subst e; exact hS.sep i s _ q hs hoi' rfl hb hq
   have hst : ∀ (ob : Obj) q, F q → (putB w1 b' ob).heap[q]? = w.heap[q]? := fun ob q hq => by rw [putB_other w1 b' q ob (hnF q hq), hh1]
   obtain ⟨F', Γ', H', av, g1, g2, ⟨rfl, g3⟩, g4, g5⟩ := out_ob (n0 := n0) hS1 hn hs hoi' rfl hb (ob := .mapIter (some mb') clk' (seen.push me.born) clk') (o' := .iter m bs' clk' (idx ++ [j]))
    ⟨b', mb', sm, seen.push me.born, hb, hsm, hmb, putB_same hb1 _, by simp [hseen, ← e1]⟩ (K := K (.d (.tup [.bool true, (entryOf es j).1, (entryOf es j).2]))) (hmore j e2 hji)
    (v := .tuple #[.bool true, me.key, me.val]) (av := .d (.tup [.bool true, (entryOf es j).1, (entryOf es j).2])) (.d (.tup _ _ rfl fun q d hq => by
     match q with
     | 0 => simp at hq; subst hq; exact .bool _
     | 1 => simp at hq; subst hq; exact e3.mono (fun _ h => h) (hst _)
     | 2 => simp at hq; subst hq; exact e4.mono (fun _ h => h) (hst _)
     | q + 3 => simp at hq))
   exact ⟨_, _, hrun, F', Γ', H', _, g1, g2, g3, hX1.trans (Nat.le_refl _) g4, g5⟩
theorem aentry_ok (hE : EnvOk E) (hS : SR E w F Γ H) {it : AV} {K : AV → Prop} (h : aentry H it K) {v : Value} (hv : RV w F Γ it v) :
  ∃ u av, (Instr.entry v).run E.P w = .ok u w ∧ K av ∧ RV w F Γ av u := by
 unfold aentry at h
 split at h <;> try exact h.elim
 rename_i i
 split at h <;> try exact h.elim
 rename_i m bs clk idx hoi
 split at h <;> try exact h.elim
 rename_i es bs' clk' hom
 obtain ⟨rfl, rfl, j, hlast, hj, hK⟩ := h
 cases hv with
 | pvar hs hb =>
  rename_i s b
  obtain ⟨hoi', b', mb, sm, seen, hb', hsm, hmb, hh, hseen⟩ := obj_at hS hs hoi rfl
  obtain rfl : b' = b := by rw [hb] at hb'; exact (Option.some.inj hb').symm
  obtain ⟨hom', mb', arr, hmb', hmh, h1, h2, h3, h4, h5⟩ := obj_at hS hsm hom rfl
  obtain rfl : mb' = mb := by rw [hmb] at hmb'; exact (Option.some.inj hmb').symm
  obtain ⟨me, n1, n2, n3, n4⟩ := h3 j es[j].1 es[j].2 (List.getElem?_eq_getElem hj)
  have e : entryOf es j = es[j] := by simp [entryOf, List.getD_eq_getElem?_getD, List.getElem?_eq_getElem hj]
  obtain ⟨ini, hini⟩ := List.getLast?_eq_some_iff.1 hlast
  have hsn : ∃ s0 : Array Nat, seen = s0.push me.born := by
   refine ⟨(ini.map fun i => bs'.getD i 0).toArray, ?_⟩
   apply Array.toList_inj.1
   rw [hseen, hini]
   simp [n4]
  obtain ⟨s0, rfl⟩ := hsn
  have hnd : (arr.toList.map (·.born)).Nodup := by
   have e0 : arr.toList.map (·.born) = bs' := by
    apply List.ext_getElem?
    intro q
    rw [List.getElem?_map, Array.getElem?_toList]
    by_cases hq : q < es.length
    ·obtain ⟨mq, q1, _, _, q4⟩ := h3 q es[q].1 es[q].2 (List.getElem?_eq_getElem hq)
     rw [q1, q4]; rfl
    ·rw [Array.getElem?_eq_none (by omega), List.getElem?_eq_none (by omega)]; rfl
   rw [e0]; exact h4
  have := run_entry_at (P := E.P) w b' mb' clk' s0 arr clk' me hh hmh (List.mem_of_getElem? (i := j) (by rw [Array.getElem?_toList]; exact n1)) hnd
  refine ⟨_, _, this, hK, .d (.tup _ _ rfl fun q d hq => ?_)⟩
  match q with
  | 0 => simp at hq; subst hq; rw [e]; exact n2
  | 1 => simp at hq; subst hq; rw [e]; exact n3
  | q + 2 => simp at hq
end
end Go.Abs
end
section
set_option autoImplicit false
set_option linter.unusedVariables false
set_option linter.unusedSimpArgs false
namespace Go.Abs
abbrev K3 := List AV → List AObj → List Nat → Prop
def DR (Γ : List Slot) (ds : List Nat) (df : List Deferred) : Prop :=
 df.length = ds.length ∧ ∀ (i id : Nat), ds[i]? = some id → ∃ (s : Slot) (b : Nat), Γ[id]? = some s ∧ s.b = some b ∧ df[i]? = some ({ target := .collected b, args := #[] } : Deferred)
def Wk (E : Env) (n0 : Nat) (t : List AV) (H : List AObj) (ds : List Nat) (t' : List AV) (H' : List AObj) (ds' : List Nat) : Prop :=
 ∀ w F Γ tm df, SR E w F Γ H → RT w F Γ t tm → DR Γ ds df → n0 ≤ Γ.length → ∃ F' Γ', SR E w F' Γ' H' ∧ RT w F' Γ' t' tm ∧ DR Γ' ds' df ∧ Ext n0 w F Γ H w F' Γ' H'
def WK (E : Env) (n0 : Nat) (K : K3) (t : List AV) (H : List AObj) (ds : List Nat) : Prop := ∃ t' H' ds', Wk E n0 t H ds t' H' ds' ∧ K t' H' ds'
theorem Wk.refl (E : Env) (n0 : Nat) (t : List AV) (H : List AObj) (ds : List Nat) : Wk E n0 t H ds t H ds := fun w F Γ tm df hS hT hD hn => ⟨F, Γ, hS, hT, hD, Ext.refl hn⟩
theorem WK.here {E : Env} {n0 : Nat} {K : K3} {t : List AV} {H : List AObj} {ds : List Nat} (h : K t H ds) : WK E n0 K t H ds := ⟨t, H, ds, Wk.refl E n0 t H ds, h⟩
theorem Wk.trans {E : Env} {n0 : Nat} {t t' t'' : List AV} {H H' H'' : List AObj} {ds ds' ds'' : List Nat} (h : Wk E n0 t H ds t' H' ds') (k : Wk E n0 t' H' ds' t'' H'' ds'') : Wk E n0 t H ds t'' H'' ds'' :=
 fun w F Γ tm df hS hT hD hn => by
  obtain ⟨F1, Γ1, h1, h2, h3, h4⟩ := h w F Γ tm df hS hT hD hn
  obtain ⟨F2, Γ2, k1, k2, k3, k4⟩ := k w F1 Γ1 tm df h1 h2 h3 h4.nlen
  exact ⟨F2, Γ2, k1, k2, k3, h4.trans (Nat.le_refl _) k4⟩
theorem WK.step {E : Env} {n0 : Nat} {K : K3} {t t' : List AV} {H H' : List AObj} {ds ds' : List Nat} (h : Wk E n0 t H ds t' H' ds') (k : WK E n0 K t' H' ds') : WK E n0 K t H ds := by
 obtain ⟨t'', H'', ds'', k1, k2⟩ := k
 exact ⟨t'', H'', ds'', h.trans k1, k2⟩
def Enters (P : Program) (g : FuncId) : Prop := ∀ args w, (callFunc g args).run P w = .ok (.enter g args) w
def ACalls (E : Env) (g : FuncId) (args : List AV) (H : List AObj) (K : AV → List AObj → Prop) : Prop :=
 Enters E.P g ∧ ∀ w F Γ vs, SR E w F Γ H → RVL w F Γ args vs → Calls E.P g vs w fun e w' =>
  ∃ v r H' F' Γ', e = .returned v ∧ SR E w' F' Γ' H' ∧ RV w' F' Γ' r v ∧ K r H' ∧ Ext H.length w F Γ H w' F' Γ' H'
@[congr] theorem ACalls_congr {E : Env} {g : FuncId} {args args' : List AV} {H H' : List AObj} {K : AV → List AObj → Prop} (h1 : args = args') (h2 : H = H') : ACalls E g args H K = ACalls E g args' H' K := by rw [h1, h2]
theorem ACalls.mono {E : Env} {g : FuncId} {args : List AV} {H : List AObj} {K K' : AV → List AObj → Prop} (h : ACalls E g args H K) (hK : ∀ r H', K r H' → K' r H') : ACalls E g args H K' :=
 ⟨h.1, fun w F Γ vs hS hV => (h.2 w F Γ vs hS hV).mono fun e w' ⟨v, r, H', F', Γ', h1, h2, h3, h4, h5⟩ => ⟨v, r, H', F', Γ', h1, h2, h3, hK _ _ h4, h5⟩⟩
def putT (t : List AV) : Option Tmp → AV → List AV
 | some d, v => t.set d v
 | none, _ => t
def gval (ops : List Oper) (t : List AV) (j : Nat) : Option (Tmp × AV) := match ops[j]? with
 | some o => match o.dst with
  | some d => some (d, t.getD d .dead)
  | none => none
 | none => none
abbrev udf : AV := .d (.tup [])
theorem udf_ok {w : World} {F : Nat → Prop} {Γ : List Slot} : RV w F Γ udf undef := .d (.tup [] #[] rfl fun j d h => by simp at h)
theorem RD_udf {w : World} {F : Nat → Prop} {v : Value} (h : RD w F (.tup []) v) : v = .tuple #[] := by
 cases h with
 | tup _ vs hs _ => simp at hs; rw [hs]
def acallF (E : Env) (g : FuncId) (args : List AV) (H : List AObj) (K KW : AV → List AObj → Prop) : Prop := match E.ext g with
 | some f => (match f args with
  | some v => K v H
  | none => False)
 | none => ACalls E g args H KW
def acall (E : Env) (c : Call) (ρ : Operand → AV) (H : List AObj) (K KW : AV → List AObj → Prop) : Prop := match c.callee with
 | .builtin .append => (match c.args.toList, c.argTypes.toList with
  | [s, x], [T, T'] => aapp2 E T T' H (ρ s) (ρ x) K
  | _, _ => False)
 | .builtin .delete => (match c.args.toList, c.argTypes.toList with
  | [m, k], [T, _] => adel E T H (ρ m) (ρ k) (fun H' => K (.d (.tup [])) H')
  | _, _ => False)
 | .builtin .clear => (match c.args.toList, c.argTypes.toList with
  | [m], [T] => aclear E T H (ρ m) (fun H' => K (.d (.tup [])) H')
  | _, _ => False)
 | .value f => (match ρ f with
  | .d (.func g caps) => acallF E g (c.args.toList.map ρ ++ caps.map .d) H K KW
  | .func g caps => acallF E g (c.args.toList.map ρ ++ caps) H K KW
  | .yield id => AYield E id (c.args.toList.map ρ) H KW
  | _ => False)
 | .builtin _ => apureCall E c ρ H (fun v => K v H)
 | .invoke _ _ => False
def aop (E : Env) (o : Op) (ρ : Operand → AV) (H : List AObj) (K KW : AV → List AObj → Prop) : Prop := match o with
 | .alloc T => aalloc E T H K
 | .box _ x => abox H (ρ x) K
 | .store T a x => astore E T H (ρ a) (ρ x) (fun H' => K .dead H')
 | .buildSlice T n ps => abuildS E T n (ps.toList.map fun (i, x) => (i, ρ x)) (fun v => K v H)
 | .makeSlice T l c => amake E T H (ρ l) (ρ c) K
 | .makeMap T r => amkmap E T (r.map ρ) H K
 | .mapUpdate T m k x => amapup E T H (ρ m) (ρ k) (ρ x) (fun H' => K .dead H')
 | .insert T m k x => amapup E T H (ρ m) (ρ k) (ρ x) (fun H' => K .dead H')
 | .range T x => arange E T H (ρ x) K
 | .next it str => anext E str H (ρ it) K
 | .entry it => aentry H (ρ it) (fun v => K v H)
 | .call c => acall E c ρ H K KW
 | .binOp op T x y _ => aopBin E op T (isC x || isC y) (ρ x) (ρ y) (fun v => K v H)
 | o => apure E o ρ H (fun v => K v H)
def areg (E : Env) (n0 : Nat) (ops : List Oper) : List Oper → K3 → K3
 | [], K, t, H, ds => K t H ds
 | o :: r, K, t, H, ds => match o.guard with
  | none => aop E o.op (ev E t) H (fun v H' => areg E n0 ops r K (putT t o.dst v) H' ds) (fun v H' => WK E n0 (areg E n0 ops r K) (putT t o.dst v) H' ds)
  | some (j, want) => match gval ops t j with
   | some (d, .d (.bool b)) => Br (b == want)
     (aop E o.op (ev E (t.set d (.d (.bool want)))) H (fun v H' => areg E n0 ops r K (putT (t.set d (.d (.bool want))) o.dst v) H' ds) (fun v H' => WK E n0 (areg E n0 ops r K) (putT (t.set d (.d (.bool want))) o.dst v) H' ds))
     (areg E n0 ops r K (putT (t.set d (.d (.bool (!want)))) o.dst udf) H ds)
   | some (_, .d (.tup [])) => areg E n0 ops r K (putT t o.dst udf) H ds
   | _ => False
/-! ### The frame -/
def Wr (ro : Option Nat) : Fence := { Fence.wide with round := ro }
theorem Wr_calls {ro : Option Nat} {n : Nat} {P : Program} {f : FuncId} {args : Array Value} {w : World} {R : Ending → World → Prop} (h : Calls P f args w R) : CallsIn (Wr ro) n P f args w R :=
 callsIn_wide.2 h
theorem Wr_rounds {ro : Option Nat} {n : Nat} {P : Program} {b : Nat} {fn : FuncId} {tmps : Array Value} {assign body : Code} {w : World} {R : Ending → World → Prop} (h : Rounds P b fn tmps assign body w R) :
  RoundIn (Wr ro) n P b fn tmps assign body w R := ⟨trivial, fun c cs _ => h.2 c cs (room_wide _)⟩
structure Rel (E : Env) (w : World) (F : Nat → Prop) (Γ : List Slot) (t : List AV) (H : List AObj) (ds : List Nat) (a : Act) : Prop where
 sr : SR E w F Γ H
 rt : RT w F Γ t a.tmps
 dr : DR Γ ds a.defers
def Lat (E : Env) (n0 : Nat) (w : World) (F : Nat → Prop) (Γ : List Slot) (H : List AObj) (K : K3) (a : Act) (w' : World) : Prop :=
 ∃ F' Γ' t' H' ds', Rel E w' F' Γ' t' H' ds' a ∧ Ext n0 w F Γ H w' F' Γ' H' ∧ K t' H' ds'
section
variable {E : Env} {w w' : World} {F F' : Nat → Prop} {Γ Γ' : List Slot} {H H' : List AObj} {n0 : Nat}
theorem DR.mono {ds : List Nat} {df : List Deferred} (h : DR Γ ds df) (hΓ : ∀ (id : Nat) s, Γ[id]? = some s → Γ'[id]? = some s) : DR Γ' ds df :=
 ⟨h.1, fun i id hi => by obtain ⟨s, b, h1, h2, h3⟩ := h.2 i id hi; exact ⟨s, b, hΓ _ _ h1, h2, h3⟩⟩
theorem putT_ok {t : List AV} {a : Act} (h : RT w F Γ t a.tmps) (dst : Option Tmp) {av : AV} {v : Value} (hv : RV w F Γ av v) : RT w F Γ (putT t dst av) (a.put dst v).tmps := by
 cases dst with
 | none => exact h
 | some d => exact h.set d hv
theorem put_defers (a : Act) (dst : Option Tmp) (v : Value) : (a.put dst v).defers = a.defers := by cases dst <;> rfl
def OpOut (E : Env) (n0 : Nat) (w : World) (F : Nat → Prop) (Γ : List Slot) (H : List AObj) (o : Oper) (η : Operand → Value) (K KW : AV → List AObj → Prop) : Prop :=
 (∃ v w', (execOp η o).run E.P w = .ok (.value v) w' ∧ Out E n0 w F Γ H v w' K) ∨
 (∃ w', (execOp η o).run E.P w = .ok .skip w' ∧ Out E n0 w F Γ H undef w' K) ∨
 (∃ g vs, (execOp η o).run E.P w = .ok (.enter g vs) w ∧ Calls E.P g vs w fun e w' => ∃ v r H' F' Γ', e = .returned v ∧ SR E w' F' Γ' H' ∧ RV w' F' Γ' r v ∧ KW r H' ∧ Ext H.length w F Γ H w' F' Γ' H') ∨
 (∃ b fn tmps assign body, (execOp η o).run E.P w = .ok (.round b fn tmps assign body) w ∧ Rounds E.P b fn tmps assign body w fun e w' => ∃ v r H' F' Γ', e = .returned v ∧ SR E w' F' Γ' H' ∧ RV w' F' Γ' r v ∧ KW r H' ∧ Ext H.length w F Γ H w' F' Γ' H')
theorem out_value (hS : SR E w F Γ H) (hn : n0 ≤ Γ.length) {av : AV} {v : Value} (hv : RV w F Γ av v) {K : AV → List AObj → Prop} (hK : K av H) : Out E n0 w F Γ H v w K :=
 ⟨F, Γ, H, av, hS, hv, hK, Ext.refl hn, fun _ _ h => h⟩
theorem RVL_map {η : Operand → Value} {ρ : Operand → AV} (hη : ∀ x, RV w F Γ (ρ x) (η x)) (l : Array Operand) {caps : List AV} {cv : Array Value} (hc : RVL w F Γ caps cv) :
  RVL w F Γ (l.toList.map ρ ++ caps) (l.map η ++ cv) := by
 refine ⟨by simp [hc.1], fun j av hj => ?_⟩
 rw [List.getElem?_append] at hj
 rw [Array.getD_eq_getD_getElem?, Array.getElem?_append]
 simp only [List.length_map, Array.length_toList] at hj
 simp only [Array.size_map]
 split at hj
 ·rename_i hlt
  rw [if_pos hlt, Array.getElem?_map]
  rw [List.getElem?_map, Array.getElem?_toList] at hj
  cases hx : l[j]? with
  | none => simp [hx] at hj
  | some x => simp [hx] at hj; subst hj; exact hη x
 ·rename_i hge
  rw [if_neg hge, ← Array.getD_eq_getD_getElem?]
  exact hc.2 _ _ hj
theorem acallF_ok (hE : EnvOk E) (hS : SR E w F Γ H) (hn : n0 ≤ Γ.length) {g : FuncId} {args : List AV} {K KW : AV → List AObj → Prop} (h : acallF E g args H K KW) {vs : Array Value} (hV : RVL w F Γ args vs) :
  (∃ v, (callFunc g vs).run E.P w = .ok (.value v) w ∧ Out E n0 w F Γ H v w K) ∨
  ((callFunc g vs).run E.P w = .ok (.enter g vs) w ∧ Calls E.P g vs w fun e w' => ∃ v r H' F' Γ', e = .returned v ∧ SR E w' F' Γ' H' ∧ RV w' F' Γ' r v ∧ KW r H' ∧ Ext H.length w F Γ H w' F' Γ' H') := by
 unfold acallF at h
 split at h
 ·rename_i f hf
  split at h <;> try exact h.elim
  rename_i v hv
  obtain ⟨u, h1, h2⟩ := hE.ext g f hf args v hv w F Γ vs hV
  exact .inl ⟨u, h1, out_value hS hn h2 h⟩
 ·exact .inr ⟨h.1 vs w, h.2 w F Γ vs hS hV⟩
theorem acall_ok (hE : EnvOk E) (hS : SR E w F Γ H) (hn : n0 ≤ Γ.length) {o : Oper} {c : Call} (ho : o.op = .call c) {ρ : Operand → AV} {K KW : AV → List AObj → Prop} (h : acall E c ρ H K KW) {η : Operand → Value}
  (hη : ∀ x, RV w F Γ (ρ x) (η x)) : OpOut E n0 w F Γ H o η K KW := by
 have viaPure : apureCall E c ρ H (fun v => K v H) → OpOut E n0 w F Γ H o η K KW := fun h => by
  obtain ⟨v, av, h1, h2, h3⟩ := apure_ok (o := o) hE hS (ρ := ρ) (K := fun v => K v H) (by rw [ho]; exact h) hη
  exact .inl ⟨v, w, h1, out_value hS hn h3 h2⟩
 obtain ⟨dst, op, ty, pos, after, guard⟩ := o
 simp only at ho
 subst ho
 obtain ⟨callee, args, argTypes⟩ := c
 unfold acall at h
 simp only at h
 split at h
 ·split at h <;> try exact h.elim
  rename_i s x T T' hxs hTs
  have e1 : args = #[s, x] := by apply Array.toList_inj.1; rw [hxs]
  have e2 : argTypes = #[T, T'] := by apply Array.toList_inj.1; rw [hTs]
  subst e1 e2
  obtain ⟨v, w', hr, hout⟩ := aapp2_ok (ty := ty) hE hS hn h (hη s) (hη x)
  refine .inl ⟨v, w', ?_, hout⟩
  simp only [execOp, resolve, pure_bind, invoke, builtin]
  simp [hr]
 ·split at h <;> try exact h.elim
  rename_i m k T T' hxs hTs
  have e1 : args = #[m, k] := by apply Array.toList_inj.1; rw [hxs]
  have e2 : argTypes = #[T, T'] := by apply Array.toList_inj.1; rw [hTs]
  subst e1 e2
  obtain ⟨w', hr, F', Γ', H', av, g1, g2, ⟨rfl, g3⟩, g4⟩ := adel_ok (T' := T') (ty := ty) hE hS hn h (hη m) (hη k)
  refine .inl ⟨.tuple #[], w', ?_, F', Γ', H', _, g1, g2, g3, g4⟩
  simp only [execOp, resolve, pure_bind, invoke, builtin]
  simp [hr]
 ·split at h <;> try exact h.elim
  rename_i m T hxs hTs
  have e1 : args = #[m] := by apply Array.toList_inj.1; rw [hxs]
  have e2 : argTypes = #[T] := by apply Array.toList_inj.1; rw [hTs]
  subst e1 e2
  obtain ⟨w', hr, F', Γ', H', av, g1, g2, ⟨rfl, g3⟩, g4⟩ := aclear_ok (ty := ty) hE hS hn h (hη m)
  refine .inl ⟨.tuple #[], w', ?_, F', Γ', H', _, g1, g2, g3, g4⟩
  simp only [execOp, resolve, pure_bind, invoke, builtin]
  simp [hr]
 ·rename_i f
  have hf := hη f
  split at h
  ·rename_i g caps hρ
   rw [hρ] at hf
   generalize hv : η f = fv at hf
   have hd := hf.of_d
   cases hd with
   | func g caps cv hs hr =>
    have hV := RVL_map hη args (caps := caps.map .d) (cv := cv) ⟨by simpa using hs, fun j av hj => by
     rw [List.getElem?_map] at hj
     cases hx : caps[j]? with
     | none => simp [hx] at hj
     | some x => simp [hx] at hj; subst hj; exact .d (hr j x hx)⟩
    have e : execOp η ⟨dst, .call ⟨.value f, args, argTypes⟩, ty, pos, after, guard⟩ = callFunc g (args.map η ++ cv) := by
     simp [execOp, resolve, hv, Deferred.ofValue, invoke]
    unfold OpOut
    rw [e]
    rcases acallF_ok hE hS hn h hV with ⟨v, h1, h2⟩ | ⟨h1, h2⟩
    ·exact .inl ⟨v, w, h1, h2⟩
    ·exact .inr (.inr (.inl ⟨g, _, h1, h2⟩))
  ·rename_i g caps hρ
   rw [hρ] at hf
   generalize hv : η f = fv at hf
   cases hf with
   | func g caps cv hs hr =>
    have hV := RVL_map hη args (caps := caps) (cv := cv) ⟨hs, hr⟩
    have e : execOp η ⟨dst, .call ⟨.value f, args, argTypes⟩, ty, pos, after, guard⟩ = callFunc g (args.map η ++ cv) := by
     simp [execOp, resolve, hv, Deferred.ofValue, invoke]
    unfold OpOut
    rw [e]
    rcases acallF_ok hE hS hn h hV with ⟨v, h1, h2⟩ | ⟨h1, h2⟩
    ·exact .inl ⟨v, w, h1, h2⟩
    ·exact .inr (.inr (.inl ⟨g, _, h1, h2⟩))
  ·rename_i id hρ
   rw [hρ] at hf
   generalize hv : η f = fv at hf
   cases hf with
   | yield hs hb =>
    rename_i s0 b0
    have hV := RVL_map hη args (caps := []) (cv := #[]) ⟨rfl, fun j d hj => by simp at hj⟩
    simp only [List.append_nil, Array.append_empty] at hV
    obtain ⟨fn, tmps, assign, body, h1, h2⟩ := h w F Γ (args.map η) _ _ hS hV hs hb
    refine .inr (.inr (.inr ⟨_, fn, tmps, assign, body, ?_, h2⟩))
    have e : execOp η ⟨dst, .call ⟨.value f, args, argTypes⟩, ty, pos, after, guard⟩ = Instr.yield b0 (args.map η) := by
     simp [execOp, resolve, hv, Deferred.ofValue, invoke]
    rw [e]; exact h1
  ·exact h.elim
 ·exact viaPure h
 ·exact h.elim
theorem aop_ok (hE : EnvOk E) (hS : SR E w F Γ H) (hn : n0 ≤ Γ.length) {o : Oper} {ρ : Operand → AV} {K KW : AV → List AObj → Prop} (h : aop E o.op ρ H K KW) {η : Operand → Value}
  (hη : ∀ x, RV w F Γ (ρ x) (η x)) : OpOut E n0 w F Γ H o η K KW := by
 have viaPure : apure E o.op ρ H (fun v => K v H) → OpOut E n0 w F Γ H o η K KW := fun h => by
  obtain ⟨v, av, h1, h2, h3⟩ := apure_ok (o := o) hE hS h hη
  exact .inl ⟨v, w, h1, out_value hS hn h3 h2⟩
 have val : ∀ (m : Sem Value), execOp η o = (do pure (.value (← m))) → (∃ v w', m.run E.P w = .ok v w' ∧ Out E n0 w F Γ H v w' K) → OpOut E n0 w F Γ H o η K KW := by
  rintro m e ⟨v, w', h1, h2⟩
  exact .inl ⟨v, w', by rw [e]; simp [h1], h2⟩
 unfold aop at h
 split at h
 ·rename_i T ho
  exact val _ (by simp only [execOp, ho]) (aalloc_ok hE hS hn h)
 ·rename_i T x ho
  exact val _ (by simp only [execOp, ho]) (abox_ok hS hn h (hη x) T)
 ·rename_i T a x ho
  obtain ⟨w', h1, h2⟩ := astore_ok hE hS hn h (hη a) (hη x)
  refine .inr (.inl ⟨w', ?_, ?_⟩)
  ·simp only [execOp, ho]
   simp [h1]
  ·obtain ⟨F', Γ', H', av, g1, g2, g3, g4⟩ := h2
   exact ⟨F', Γ', H', .dead, g1, .dead _, g3, g4⟩
 ·rename_i T n ps ho
  refine val (Instr.buildSlice T n (ps.map fun (i, x) => (i, η x))) (by simp only [execOp, ho]) ?_
  obtain ⟨v, w', h1, F', Γ', H', av, g1, g2, ⟨g3, rfl⟩, g4⟩ := abuildS_ok (qs := ps.map fun (i, x) => (i, η x)) hE hS hn h (by simpa using PV_map hη ps.toList)
  exact ⟨v, w', h1, F', Γ', H', av, g1, g2, g3, g4⟩
 ·rename_i T l c ho
  exact val _ (by simp only [execOp, ho]) (amake_ok hE hS hn h (hη l) (hη c))
 ·rename_i T r ho
  exact val _ (by simp only [execOp, ho]) (amkmap_ok hE hS hn h (OV_map hη r))
 ·rename_i T m k x ho
  obtain ⟨w', h1, h2⟩ := amapup_ok hE hS hn h (hη m) (hη k) (hη x)
  refine .inr (.inl ⟨w', ?_, ?_⟩)
  ·simp only [execOp, ho]
   simp [h1]
  ·obtain ⟨F', Γ', H', av, g1, g2, g3, g4⟩ := h2
   exact ⟨F', Γ', H', .dead, g1, .dead _, g3, g4⟩
 ·rename_i T m k x ho
  obtain ⟨w', h1, h2⟩ := amapup_ok hE hS hn h (hη m) (hη k) (hη x)
  refine .inr (.inl ⟨w', ?_, ?_⟩)
  ·simp only [execOp, ho]
   simp [h1]
  ·obtain ⟨F', Γ', H', av, g1, g2, g3, g4⟩ := h2
   exact ⟨F', Γ', H', .dead, g1, .dead _, g3, g4⟩
 ·rename_i T x ho
  exact val _ (by simp only [execOp, ho]) (arange_ok hE hS hn h (hη x))
 ·rename_i it str ho
  exact val _ (by simp only [execOp, ho]) (anext_ok hE hS hn h (hη it) o.type)
 ·rename_i it ho
  obtain ⟨u, av, h1, h2, h3⟩ := aentry_ok hE hS h (hη it)
  exact val _ (by simp only [execOp, ho]) ⟨u, w, h1, out_value hS hn h3 h2⟩
 ·rename_i c ho
  exact acall_ok hE hS hn ho h hη
 ·rename_i op T x y yT ho
  obtain ⟨v, av, h1, h2, h3⟩ := aopBin_ok (w := w) (F := F) (Γ := Γ) hE h (hη x) (hη y)
  exact val _ (by simp only [execOp, ho]) ⟨v, w, h1, out_value hS hn h3 h2⟩
 ·exact viaPure h
theorem noDefer {o : Oper} {ρ : Operand → AV} {K KW : AV → List AObj → Prop} (h : aop E o.op ρ H K KW) : ∀ c, o.op ≠ .defer c := fun c e => by
 rw [e] at h
 exact h
theorem areg_ok (hE : EnvOk E) {ro : Option Nat} {n : Nat} (ops : List Oper) (K : K3) : ∀ (l : List Oper) (t : List AV) (H : List AObj) (ds : List Nat), areg E n0 ops l K t H ds →
  ∀ (w : World) (F : Nat → Prop) (Γ : List Slot) (a : Act), Rel E w F Γ t H ds a → n0 ≤ Γ.length → ∀ (Q : Exit → Act → World → Prop), (∀ a' w', Lat E n0 w F Γ H K a' w' → Q .normal a' w') →
  wpListIn (Wr ro) n E.P ops.toArray Q l a w
 | [], t, H, ds, h, w, F, Γ, a, hR, hn, Q, hQ => hQ a w ⟨F, Γ, t, H, ds, hR, Ext.refl hn, h⟩
 | o :: r, t, H, ds, h, w, F, Γ, a, hR, hn, Q, hQ => by
  have next : ∀ (t1 : List AV) (w1 : World) (F1 : Nat → Prop) (Γ1 : List Slot) (H1 : List AObj) (a1 : Act) (ds1 : List Nat), Rel E w1 F1 Γ1 t1 H1 ds1 a1 → Ext n0 w F Γ H w1 F1 Γ1 H1 → areg E n0 ops r K t1 H1 ds1 →
    wpListIn (Wr ro) n E.P ops.toArray Q r a1 w1 := fun t1 w1 F1 Γ1 H1 a1 ds1 hR1 hX hA =>
   areg_ok hE ops K r t1 H1 ds1 hA w1 F1 Γ1 a1 hR1 hX.nlen Q fun a' w' ⟨F2, Γ2, t2, H2, ds2, hR2, hX2, hK⟩ => hQ a' w' ⟨F2, Γ2, t2, H2, ds2, hR2, hX.trans (Nat.le_refl _) hX2, hK⟩
  have run1 : ∀ (t1 : List AV), RT w F Γ t1 a.tmps → aop E o.op (ev E t1) H (fun v H' => areg E n0 ops r K (putT t1 o.dst v) H' ds) (fun v H' => WK E n0 (areg E n0 ops r K) (putT t1 o.dst v) H' ds) →
    o.wpIn (Wr ro) n E.P a w (wpListIn (Wr ro) n E.P ops.toArray Q r) Q := fun t1 hT1 hop => by
   refine ⟨fun f _ => trivial, ?_⟩
   rw [Oper.semAt_eq _ _ _ (noDefer hop)]
   rcases aop_ok hE hR.sr hn hop (ev_ok hR.sr hT1) with ⟨v, w', hrun, F', Γ', H', av, hS', hv', hK', hX, hpre⟩ | ⟨w', hrun, F', Γ', H', av, hS', hv', hK', hX, hpre⟩ | ⟨g, vs, hrun, hcalls⟩ | ⟨b, fn, tmps, assign, body, hrun, hrounds⟩
   ·rw [hrun]
    have hstay := hX.stay hR.sr
    exact next _ w' F' Γ' H' _ ds ⟨hS', putT_ok (hT1.mono hX.sub hstay hpre) o.dst hv', by rw [put_defers]; exact hR.dr.mono hpre⟩ hX hK'
   ·rw [hrun]
    have hstay := hX.stay hR.sr
    exact next _ w' F' Γ' H' _ ds ⟨hS', putT_ok (hT1.mono hX.sub hstay hpre) o.dst hv', by rw [put_defers]; exact hR.dr.mono hpre⟩ hX hK'
   ·rw [hrun]
    refine ⟨fun h => by simp [Wr, Fence.wide] at h, Wr_calls (hcalls.mono ?_)⟩
    rintro e w' ⟨v, r', H', F', Γ', rfl, hS', hv', ⟨t2, H2, ds2, hwk, hA⟩, hX⟩
    have hstay := hX.stay hR.sr
    have hpre : ∀ (id : Nat) s, Γ[id]? = some s → Γ'[id]? = some s := fun id s hs => by
     rw [hX.pre id (by rw [← hR.sr.len]; exact (List.getElem?_eq_some_iff.1 hs).1)]; exact hs
    have hX0 : Ext n0 w F Γ H w' F' Γ' H' := { hX with pre := fun id hid => hX.pre id (by rw [← hR.sr.len]; omega), nlen := Nat.le_trans (by rw [← hR.sr.len]; exact hn) hX.nlen }
    obtain ⟨F2, Γ2, k1, k2, k3, k4⟩ := hwk w' F' Γ' (a.put o.dst v).tmps (a.put o.dst v).defers hS' (putT_ok (hT1.mono hX.sub hstay hpre) o.dst hv') (by rw [put_defers]; exact hR.dr.mono hpre) hX0.nlen
    exact next t2 w' F2 Γ2 H2 _ ds2 ⟨k1, k2, k3⟩ (hX0.trans (Nat.le_refl _) k4) hA
   ·rw [hrun]
    refine ⟨fun h => by simp [Wr, Fence.wide] at h, Wr_rounds (RoundIn.mono hrounds ?_)⟩
    rintro e w' ⟨v, r', H', F', Γ', rfl, hS', hv', ⟨t2, H2, ds2, hwk, hA⟩, hX⟩
    have hstay := hX.stay hR.sr
    have hpre : ∀ (id : Nat) s, Γ[id]? = some s → Γ'[id]? = some s := fun id s hs => by
     rw [hX.pre id (by rw [← hR.sr.len]; exact (List.getElem?_eq_some_iff.1 hs).1)]; exact hs
    have hX0 : Ext n0 w F Γ H w' F' Γ' H' := { hX with pre := fun id hid => hX.pre id (by rw [← hR.sr.len]; omega), nlen := Nat.le_trans (by rw [← hR.sr.len]; exact hn) hX.nlen }
    obtain ⟨F2, Γ2, k1, k2, k3, k4⟩ := hwk w' F' Γ' (a.put o.dst v).tmps (a.put o.dst v).defers hS' (putT_ok (hT1.mono hX.sub hstay hpre) o.dst hv') (by rw [put_defers]; exact hR.dr.mono hpre) hX0.nlen
    exact next t2 w' F2 Γ2 H2 _ ds2 ⟨k1, k2, k3⟩ (hX0.trans (Nat.le_refl _) k4) hA
  simp only [areg] at h
  unfold wpListIn
  cases hg : o.guard with
  | none =>
   rw [hg] at h
   rw [if_pos (by simp [Region.wanted, hg])]
   exact run1 t hR.rt h
  | some gw =>
   obtain ⟨j, want⟩ := gw
   rw [hg] at h
   simp only at h
   split at h <;> try exact h.elim
   rotate_left
   ·rename_i d hgv
    have hy : yielded ops.toArray a.tmps j = none := by
     unfold gval at hgv
     cases hoj : ops[j]? with
     | none => simp [hoj] at hgv
     | some oj =>
      cases hdj : oj.dst with
      | none => simp [hoj, hdj] at hgv
      | some d' =>
       simp [hoj, hdj] at hgv
       obtain ⟨rfl, hav⟩ := hgv
       have hlt : d' < t.length := by
        rcases Nat.lt_or_ge d' t.length with h | h
        ·exact h
        ·simp [List.getElem?_eq_none h] at hav
       have hget : t[d']? = some (.d (.tup [])) := by
        rw [List.getElem?_eq_getElem hlt] at hav ⊢
        simpa using hav
       have hbv := RD_udf (hR.rt.2 d' _ hget).of_d
       have hsz : d' < a.tmps.size := by rw [hR.rt.1]; exact hlt
       unfold yielded
       have : a.tmps[d']? = some (.tuple #[]) := by
        rw [getD_of hsz, hbv]
       simp [hoj, hdj, this]
    rw [if_neg (by simp [Region.wanted, hg, hy])]
    refine ⟨fun f _ => trivial, ?_⟩
    exact next _ w F Γ H _ ds ⟨hR.sr, putT_ok hR.rt o.dst udf_ok, by rw [put_defers]; exact hR.dr⟩ (Ext.refl hn) h
   rename_i d b hgv
   have hval : yielded ops.toArray a.tmps j = some b ∧ RV w F Γ (.d (.bool b)) (.bool b) ∧ t.getD d .dead = .d (.bool b) := by
    unfold gval at hgv
    cases hoj : ops[j]? with
    | none => simp [hoj] at hgv
    | some oj =>
     cases hdj : oj.dst with
     | none => simp [hoj, hdj] at hgv
     | some d' =>
      simp [hoj, hdj] at hgv
      obtain ⟨rfl, hav⟩ := hgv
      have hlt : d' < t.length := by
       rcases Nat.lt_or_ge d' t.length with h | h
       ·exact h
       ·simp [List.getElem?_eq_none h] at hav
      have hget : t[d']? = some (.d (.bool b)) := by
       rw [List.getElem?_eq_getElem hlt] at hav ⊢
       simpa using hav
      have hrv := hR.rt.2 d' _ hget
      have hbv := RD_bool hrv.of_d
      have hsz : d' < a.tmps.size := by rw [hR.rt.1]; exact hlt
      refine ⟨?_, .d (.bool b), by simp [List.getD_eq_getElem?_getD, hget]⟩
      unfold yielded
      have : a.tmps[d']? = some (.bool b) := by
       rw [getD_of hsz, hbv]
      simp [hoj, hdj, this]
   obtain ⟨hy, hrvb, hgd⟩ := hval
   have hset : ∀ b', b' = b → RT w F Γ (t.set d (.d (.bool b'))) a.tmps := fun b' hb' => by
    subst hb'
    refine ⟨by simp [hR.rt.1], fun k av hk => ?_⟩
    rcases set_get hk with ⟨rfl, rfl, hlt⟩ | ⟨_, hk⟩
    ·have hget : t[d]? = some (.d (.bool b')) := by
      rw [List.getD_eq_getElem?_getD, List.getElem?_eq_getElem hlt] at hgd
      rw [List.getElem?_eq_getElem hlt]
      simpa using hgd
     exact hR.rt.2 d _ hget
    ·exact hR.rt.2 k av hk
   by_cases hbw : b = want
   ·rw [if_pos (by simp [Region.wanted, hg, hy, hbw])]
    exact run1 _ (hset want hbw.symm) (h.1 (by simp [hbw]))
   ·rw [if_neg (by simp [Region.wanted, hg, hy, hbw])]
    refine ⟨fun f _ => trivial, ?_⟩
    have hb' : (!want) = b := by cases b <;> cases want <;> simp_all
    exact next _ w F Γ H _ ds ⟨hR.sr, putT_ok (hset _ hb') o.dst udf_ok, by rw [put_defers]; exact hR.dr⟩ (Ext.refl hn) (h.2 (by simpa using hbw))
end
end Go.Abs
end
section
set_option autoImplicit false
set_option linter.unusedVariables false
set_option linter.unusedSimpArgs false
namespace Go.Abs
/-! ### One value, whatever is asked of it -/
section det
variable {E : Env} {H : List AObj} {K : AV → Prop}
theorem rdRow_det {T : TypeId} {sz : Nat} {xs : List (List D)} {i k : Nat} : rdRow E T sz xs i k K → ∃ v, K v ∧ ∀ K' : AV → Prop, K' v → rdRow E T sz xs i k K' := by
 unfold rdRow
 split
 ·exact fun ⟨a, b, h⟩ => ⟨_, h, fun _ h' => ⟨a, b, h'⟩⟩
 ·exact fun ⟨a, b, h⟩ => ⟨_, h, fun _ h' => ⟨a, b, h'⟩⟩
 ·exact fun h => h.elim
theorem aload_det {T : TypeId} {x : AV} : aload E T H K x → ∃ v, K v ∧ ∀ K' : AV → Prop, K' v → aload E T H K' x := by
 unfold aload
 repeat' split
 all_goals first
  | exact fun h => h.elim
  | exact fun h => rdRow_det h
  | exact fun h => ⟨_, h, fun _ h' => h'⟩
  | exact fun ⟨a, h⟩ => ⟨_, h, fun _ h' => ⟨a, h'⟩⟩
theorem aint_det {op : BinOp} {k k' : IntKind} {a b : Int} : aint op k a k' b K → ∃ v, K v ∧ ∀ K' : AV → Prop, K' v → aint op k a k' b K' := by
 unfold aint
 split
 all_goals first
  | exact fun ⟨a, b, h⟩ => ⟨_, h, fun _ h' => ⟨a, b, h'⟩⟩
  | exact fun ⟨a, h⟩ => ⟨_, h, fun _ h' => ⟨a, h'⟩⟩
theorem bEq_det {op : BinOp} {r : Bool} : bEq op r K → ∃ v, K v ∧ ∀ K' : AV → Prop, K' v → bEq op r K' := by
 unfold bEq
 split
 all_goals first
  | exact fun h => ⟨_, h, fun _ h' => h'⟩
  | exact fun h => h.elim
theorem abin_det {op : BinOp} {T : TypeId} {c : Bool} {x y : AV} : abin E op T c x y K → ∃ v, K v ∧ ∀ K' : AV → Prop, K' v → abin E op T c x y K' := by
 unfold abin
 split
 ·exact aint_det
 ·split
  ·exact bEq_det
  ·exact fun h => h.elim
 ·unfold astr
  split
  all_goals first
   | exact fun h => h.elim
   | exact fun ⟨a, h⟩ => ⟨_, h, fun _ h' => ⟨a, h'⟩⟩
   | exact fun h => ⟨_, h, fun _ h' => h'⟩
 ·unfold acmp
  repeat' split
  all_goals first
   | exact fun h => h.elim
   | exact bEq_det
   | exact fun ⟨a, b, h⟩ => let ⟨v, h1, h2⟩ := bEq_det h; ⟨v, h1, fun _ h' => ⟨a, b, h2 _ h'⟩⟩
   | exact fun ⟨a, h⟩ => let ⟨v, h1, h2⟩ := bEq_det h; ⟨v, h1, fun _ h' => ⟨a, h2 _ h'⟩⟩
theorem aun_det {op : UnOp} {x : AV} : aun op x K → ∃ v, K v ∧ ∀ K' : AV → Prop, K' v → aun op x K' := by
 unfold aun
 split
 all_goals first
  | exact fun h => ⟨_, h, fun _ h' => h'⟩
  | exact fun h => h.elim
theorem aconv_det {s d : TypeId} {x : AV} : aconv E s d x K → ∃ v, K v ∧ ∀ K' : AV → Prop, K' v → aconv E s d x K' := by
 unfold aconv
 split
 all_goals first
  | exact fun h => ⟨_, h, fun _ h' => h'⟩
  | exact fun h => h.elim
theorem anil_det {x : AV} : anil x K → ∃ v, K v ∧ ∀ K' : AV → Prop, K' v → anil x K' := by
 unfold anil
 split
 all_goals first
  | exact fun h => ⟨_, h, fun _ h' => h'⟩
  | exact fun h => h.elim
theorem rowPtr_det {sz : Nat} {x : AV} {n : Int} : rowPtr H sz x n K → ∃ v, K v ∧ ∀ K' : AV → Prop, K' v → rowPtr H sz x n K' := by
 unfold rowPtr
 repeat' split
 all_goals first
  | exact fun h => h.elim
  | exact fun ⟨a, b, c, d, h⟩ => ⟨_, h, fun _ h' => ⟨a, b, c, d, h'⟩⟩
  | exact fun ⟨a, b, c, h⟩ => ⟨_, h, fun _ h' => ⟨a, b, c, h'⟩⟩
theorem aidx_det {T : TypeId} {x i : AV} : aidx E T H x i K → ∃ v, K v ∧ ∀ K' : AV → Prop, K' v → aidx E T H x i K' := by
 unfold aidx
 repeat' split
 all_goals first
  | exact fun h => h.elim
  | exact rowPtr_det
  | exact fun ⟨a, b, h⟩ => ⟨_, h, fun _ h' => ⟨a, b, h'⟩⟩
  | exact fun ⟨a, b, h⟩ => h.elim
theorem afldAddr_det {T : TypeId} {x : AV} {f : Nat} : afldAddr E T x f K → ∃ v, K v ∧ ∀ K' : AV → Prop, K' v → afldAddr E T x f K' := by
 unfold afldAddr
 repeat' split
 all_goals first
  | exact fun h => h.elim
  | exact fun ⟨a, h⟩ => h.elim
  | exact fun ⟨a, h⟩ => ⟨_, h, fun _ h' => ⟨a, h'⟩⟩
theorem apart_det {t : TypeId} {cs : List AV} {off : Nat} : apart E t cs off K → ∃ v, K v ∧ ∀ K' : AV → Prop, K' v → apart E t cs off K' := by
 unfold apart
 repeat' split
 all_goals first
  | exact fun h => h.elim
  | exact fun h => ⟨_, h, fun _ h' => h'⟩
  | exact fun ⟨a, h⟩ => ⟨_, h, fun _ h' => ⟨a, h'⟩⟩
theorem afld_det {T : TypeId} {x : AV} {f : Nat} : afld E T x f K → ∃ v, K v ∧ ∀ K' : AV → Prop, K' v → afld E T x f K' := by
 unfold afld
 repeat' split
 all_goals first
  | exact fun h => h.elim
  | exact apart_det
theorem aext_det {x : AV} {i : Nat} : aext x i K → ∃ v, K v ∧ ∀ K' : AV → Prop, K' v → aext x i K' := by
 unfold aext
 repeat' split
 all_goals first
  | exact fun h => h.elim
  | exact fun h => ⟨_, h, fun _ h' => h'⟩
theorem aslice_det {T : TypeId} {x : AV} {lo hi mx : Option AV} : aslice E T H x lo hi mx K → ∃ v, K v ∧ ∀ K' : AV → Prop, K' v → aslice E T H x lo hi mx K' := by
 unfold aslice
 repeat' split
 all_goals first
  | exact fun h => h.elim
  | exact fun ⟨a, b, c, d, e, h⟩ => ⟨_, h, fun _ h' => ⟨a, b, c, d, e, h'⟩⟩
  | exact fun ⟨a, b, c, d, h⟩ => ⟨_, h, fun _ h' => ⟨a, b, c, d, h'⟩⟩
  | exact fun ⟨a, b, c, h⟩ => ⟨_, h, fun _ h' => ⟨a, b, c, h'⟩⟩
  | exact fun ⟨a, b, h⟩ => ⟨_, h, fun _ h' => ⟨a, b, h'⟩⟩
theorem alen_det {T : TypeId} {x : AV} : alen E T H x K → ∃ v, K v ∧ ∀ K' : AV → Prop, K' v → alen E T H x K' := by
 unfold alen
 repeat' split
 all_goals first
  | exact fun h => h.elim
  | exact fun h => ⟨_, h, fun _ h' => h'⟩
theorem abuild_det {T : TypeId} {ps : List (Nat × AV)} : abuild E T ps K → ∃ v, K v ∧ ∀ K' : AV → Prop, K' v → abuild E T ps K' := by
 unfold abuild
 repeat' split
 all_goals first
  | exact fun h => h.elim
  | exact fun h => ⟨_, h, fun _ h' => h'⟩
theorem alook_det {T : TypeId} {x k : AV} {ok : Bool} : alook E T H x k ok K → ∃ v, K v ∧ ∀ K' : AV → Prop, K' v → alook E T H x k ok K' := by
 unfold alook
 repeat' split
 all_goals first
  | exact fun h => h.elim
  | exact fun h => h.2.elim
  | exact fun ⟨a, b, h⟩ => ⟨_, h, fun _ h' => ⟨a, b, h'⟩⟩
  | exact fun ⟨a, h⟩ => ⟨_, h, fun _ h' => ⟨a, h'⟩⟩
theorem apureCall_det {c : Call} {ρ : Operand → AV} : apureCall E c ρ H K → ∃ v, K v ∧ ∀ K' : AV → Prop, K' v → apureCall E c ρ H K' := by
 unfold apureCall
 repeat' split
 all_goals first
  | exact fun h => h.elim
  | exact alen_det
  | exact fun h => ⟨_, h, fun _ h' => h'⟩
theorem apure_det {o : Op} {ρ : Operand → AV} : apure E o ρ H K → ∃ v, K v ∧ ∀ K' : AV → Prop, K' v → apure E o ρ H K' := by
 unfold apure
 split
 ·exact fun h => ⟨_, h, fun _ h' => h'⟩
 ·exact fun h => ⟨_, h, fun _ h' => h'⟩
 ·split
  ·rename_i p _
   cases p with
   | true => simp only [Br_true]; exact fun h => ⟨_, h, fun _ h' => h'⟩
   | false => simp only [Br_false]; exact fun h => ⟨_, h, fun _ h' => h'⟩
  ·exact fun h => h.elim
 ·exact aload_det
 ·exact anil_det
 ·exact abin_det
 ·exact aun_det
 ·exact aconv_det
 ·repeat' split
  all_goals first
   | exact fun h => h.elim
   | exact fun h => ⟨_, h, fun _ h' => h'⟩
 ·exact fun ⟨a, h⟩ => ⟨_, h, fun _ h' => ⟨a, h'⟩⟩
 ·exact aslice_det
 ·exact afldAddr_det
 ·exact afld_det
 ·exact aidx_det
 ·exact aext_det
 ·exact fun ⟨a, h⟩ => let ⟨v, h1, h2⟩ := abuild_det h; ⟨v, h1, fun _ h' => ⟨a, h2 _ h'⟩⟩
 ·exact alook_det
 ·exact apureCall_det
 ·exact fun h => h.elim
theorem abuildS_det {T : TypeId} {n : Nat} {ps : List (Nat × AV)} : abuildS E T n ps K → ∃ v, K v ∧ ∀ K' : AV → Prop, K' v → abuildS E T n ps K' := by
 unfold abuildS
 repeat' split
 all_goals first
  | exact fun h => h.elim
  | exact fun ⟨a, b, h⟩ => ⟨_, h, fun _ h' => ⟨a, b, h'⟩⟩
  | exact fun ⟨a, b, h⟩ => h.elim
end det
/-! ### Operations that leave what is owned as it is -/
def qcallF (E : Env) (g : FuncId) (args : List AV) (H : List AObj) (K : AV → Prop) : Prop := match E.ext g with
 | some f => (match f args with
  | some v => K v
  | none => False)
 | none => ∃ v, ACalls E g args H (fun r H' => r = v ∧ H' = H) ∧ K v
def qcall (E : Env) (c : Call) (ρ : Operand → AV) (H : List AObj) (K : AV → Prop) : Prop := match c.callee with
 | .builtin .append => False
 | .builtin .delete => False
 | .builtin .clear => False
 | .value f => (match ρ f with
  | .d (.func g caps) => qcallF E g (c.args.toList.map ρ ++ caps.map .d) H K
  | .func g caps => qcallF E g (c.args.toList.map ρ ++ caps) H K
  | _ => False)
 | .builtin _ => apureCall E c ρ H K
 | .invoke _ _ => False
def qop (E : Env) (o : Op) (ρ : Operand → AV) (H : List AObj) (K : AV → Prop) : Prop := match o with
 | .alloc _ => False
 | .box _ _ => False
 | .store _ _ _ => False
 | .buildSlice T n ps => abuildS E T n (ps.toList.map fun (i, x) => (i, ρ x)) K
 | .makeSlice _ _ _ => False
 | .makeMap _ _ => False
 | .mapUpdate _ _ _ _ => False
 | .insert _ _ _ _ => False
 | .range _ _ => False
 | .next _ _ => False
 | .entry _ => False
 | .call c => qcall E c ρ H K
 | o => apure E o ρ H K
theorem qcallF_acallF {E : Env} {g : FuncId} {args : List AV} {H : List AObj} {K : AV → Prop} (h : qcallF E g args H K) :
  ∃ v, K v ∧ acallF E g args H (fun r H' => r = v ∧ H' = H) (fun r H' => r = v ∧ H' = H) := by
 unfold qcallF at h
 unfold acallF
 cases hx : E.ext g with
 | some f =>
  simp only [hx] at h ⊢
  cases hf : f args with
  | some v => simp only [hf] at h ⊢; exact ⟨v, h, rfl, trivial⟩
  | none => simp only [hf] at h
 | none =>
  simp only [hx] at h ⊢
  obtain ⟨v, h1, h2⟩ := h
  exact ⟨v, h2, h1⟩
theorem qcall_acall {E : Env} {c : Call} {ρ : Operand → AV} {H : List AObj} {K : AV → Prop} (h : qcall E c ρ H K) :
  ∃ v, K v ∧ acall E c ρ H (fun r H' => r = v ∧ H' = H) (fun r H' => r = v ∧ H' = H) := by
 obtain ⟨callee, args, ts⟩ := c
 cases callee with
 | value f =>
  unfold qcall at h
  unfold acall
  simp only at h ⊢
  split at h
  ·rename_i g caps hρ
   simp only [hρ]
   exact qcallF_acallF h
  ·rename_i g caps hρ
   simp only [hρ]
   exact qcallF_acallF h
  ·exact h.elim
 | invoke r m => exact h.elim
 | builtin b =>
  by_cases hb : b = .append ∨ b = .delete ∨ b = .clear
  ·rcases hb with rfl | rfl | rfl <;> exact h.elim
  ·have e1 : qcall E ⟨.builtin b, args, ts⟩ ρ H K = apureCall E ⟨.builtin b, args, ts⟩ ρ H K := by cases b <;> first | rfl | exact absurd (by simp) hb
   have e2 : ∀ K1 K2, acall E ⟨.builtin b, args, ts⟩ ρ H K1 K2 = apureCall E ⟨.builtin b, args, ts⟩ ρ H (fun v => K1 v H) := fun K1 K2 => by cases b <;> first | rfl | exact absurd (by simp) hb
   rw [e1] at h
   obtain ⟨v, h1, h2⟩ := apureCall_det h
   refine ⟨v, h1, ?_⟩
   rw [e2]
   exact h2 _ ⟨rfl, rfl⟩
theorem qop_aop {E : Env} {o : Op} {ρ : Operand → AV} {H : List AObj} {K : AV → Prop} (h : qop E o ρ H K) :
  ∃ v, K v ∧ aop E o ρ H (fun r H' => r = v ∧ H' = H) (fun r H' => r = v ∧ H' = H) := by
 cases o
 case alloc => exact h.elim
 case box => exact h.elim
 case store => exact h.elim
 case makeSlice => exact h.elim
 case makeMap => exact h.elim
 case mapUpdate => exact h.elim
 case insert => exact h.elim
 case range => exact h.elim
 case next => exact h.elim
 case entry => exact h.elim
 case buildSlice T n ps =>
  obtain ⟨v, h1, h2⟩ := abuildS_det (show abuildS E T n _ K from h)
  exact ⟨v, h1, h2 (fun v' => v' = v ∧ H = H) ⟨rfl, rfl⟩⟩
 case call c => exact qcall_acall (show qcall E c ρ H K from h)
 case binOp op T x y yT =>
  obtain ⟨v, h1, h2⟩ := abin_det (show abin E op T (isC x || isC y) (ρ x) (ρ y) K from h)
  exact ⟨v, h1, abin_aopBin (h2 (fun v' => v' = v ∧ H = H) ⟨rfl, rfl⟩)⟩
 all_goals
  simp only [qop] at h
  obtain ⟨v, h1, h2⟩ := apure_det h
  refine ⟨v, h1, ?_⟩
  simp only [aop]
  exact h2 _ (by simp)
/-! ### They look at their operands alone -/
theorem mapPair_congr {ρ ρ' : Operand → AV} (l : List (Nat × Operand)) (h : ∀ x ∈ l.map (·.2), ρ x = ρ' x) : (l.map fun (i, x) => (i, ρ x)) = l.map fun (i, x) => (i, ρ' x) :=
 List.map_congr_left fun p hp => by
  obtain ⟨i, x⟩ := p
  simp only [h x (List.mem_map.2 ⟨(i, x), hp, rfl⟩)]
theorem qcall_congr {E : Env} {c : Call} {ρ ρ' : Operand → AV} {H : List AObj} {K : AV → Prop} (h : ∀ x ∈ c.operands, ρ x = ρ' x) : qcall E c ρ H K = qcall E c ρ' H K := by
 obtain ⟨callee, args, ts⟩ := c
 have ha : args.toList.map ρ = args.toList.map ρ' := List.map_congr_left fun x hx => h x (by simp [Call.operands]; right; simpa using hx)
 cases callee with
 | value f =>
  have hf : ρ f = ρ' f := h f (by simp [Call.operands])
  simp only [qcall, hf, ha]
 | invoke r m => rfl
 | builtin b =>
  have key : apureCall E ⟨.builtin b, args, ts⟩ ρ H K = apureCall E ⟨.builtin b, args, ts⟩ ρ' H K := by
   unfold apureCall
   cases b <;> try rfl
   case max => simp only [ha]
   case min => simp only [ha]
   case cap => simp only [ha]
   simp only
   cases hargs : args.toList with
   | nil => rfl
   | cons x xs =>
    cases ts.toList with
    | nil => rfl
    | cons T Ts =>
     have : ρ x = ρ' x := h x (by
      have hm : x ∈ args.toList := by rw [hargs]; simp
      simp [Call.operands]; simpa using hm)
     simp only [this]
  cases b <;> first | rfl | exact key
theorem qop_congr {E : Env} {o : Op} {ρ ρ' : Operand → AV} {H : List AObj} {K : AV → Prop} (h : ∀ x ∈ o.operands, ρ x = ρ' x) : qop E o ρ H K = qop E o ρ' H K := by
 cases o <;> simp only [Op.operands] at h <;> simp only [qop, apure]
 case call c => exact qcall_congr h
 case buildSlice T n ps => rw [mapPair_congr ps.toList (fun x hx => h x (by simpa using hx))]
 case build T ps => rw [mapPair_congr ps.toList (fun x hx => h x (by simpa using hx))]
 case makeFunc fn first caps =>
  cases fn <;> simp only
  rw [List.map_congr_left (l := caps.toList) fun x hx => h x (by simp; right; simpa using hx)]
 case slice t x lo hi mx => cases lo <;> cases hi <;> cases mx <;> simp_all
 all_goals (first | rfl | (simp_all; done))
/-! ### Orders -/
theorem getD_set_ne_bool {l : Array Bool} {j k : Nat} {b d : Bool} (h : j ≠ k) : (l.setIfInBounds j b).getD k d = l.getD k d := by
 simp [Array.getD_eq_getD_getElem?, Array.getElem?_setIfInBounds_ne h]
section
variable {E : Env} {n0 : Nat} {ops : Array Oper} {H : List AObj}
def wantA (ops : List Oper) (o : Oper) (t : List AV) : Option Bool := match o.guard with
 | none => some true
 | some (j, want) => match gval ops t j with
  | some (_, .d (.bool b)) => some (b == want)
  | some (_, .d (.tup [])) => some false
  | _ => none
def YA (E : Env) (ops : List Oper) (H : List AObj) (o : Oper) (v : AV) (t : List AV) : Prop :=
 (wantA ops o t = some true ∧ aop E o.op (ev E t) H (fun r H' => r = v ∧ H' = H) (fun r H' => r = v ∧ H' = H) ∧ ∀ ρ : Operand → AV, (∀ x ∈ o.op.operands, ev E t x = ρ x) → aop E o.op ρ H (fun r H' => r = v ∧ H' = H) (fun r H' => r = v ∧ H' = H)) ∨
 (wantA ops o t = some false ∧ v = udf)
def QOp (E : Env) (ops : Array Oper) (H : List AObj) (i : Nat) (K : List AV → Prop) (t : List AV) : Prop :=
 ∃ o, ops[i]? = some o ∧ ∃ v, YA E ops.toList H o v t ∧ K (putT t o.dst v)
theorem QOp.mono {i : Nat} {K K' : List AV → Prop} {t : List AV} (h : ∀ t, K t → K' t) (hh : QOp E ops H i K t) : QOp E ops H i K' t := by
 obtain ⟨o, h1, v, h2, h3⟩ := hh
 exact ⟨o, h1, v, h2, h _ h3⟩
theorem ev_put {t : List AV} {dst : Option Tmp} {v : AV} {x : Operand} (h : ∀ d, dst = some d → x ≠ .tmp d) : ev E (putT t dst v) x = ev E t x := by
 cases dst with
 | none => rfl
 | some d => cases x with
  | tmp i =>
   have hne : d ≠ i := fun e => h d rfl (e ▸ rfl)
   simp [ev, putT, List.getD_eq_getElem?_getD, List.getElem?_set_ne hne]
  | _ => rfl
theorem gval_put {opl : List Oper} {t : List AV} {dst : Option Tmp} {v : AV} {j : Nat} (h : ∀ d, dst = some d → ((opl[j]?).bind (·.dst)) ≠ some d) : gval opl (putT t dst v) j = gval opl t j := by
 cases dst with
 | none => rfl
 | some d =>
  unfold gval
  cases hj : opl[j]? with
  | none => rfl
  | some o => cases hd : o.dst with
   | none => simp [hd]
   | some d' =>
    have hne : d ≠ d' := fun e => h d rfl (by subst e; simp [hj, hd])
    simp [hd, putT, List.getD_eq_getElem?_getD, List.getElem?_set_ne hne]
theorem wantA_put {o : Oper} {t : List AV} {dst : Option Tmp} {v : AV} (h : ∀ d, dst = some d → d ∉ o.looksAt ops) : wantA ops.toList o (putT t dst v) = wantA ops.toList o t := by
 unfold wantA
 cases hg : o.guard with
 | none => rfl
 | some gw =>
  obtain ⟨j, want⟩ := gw
  simp only
  rw [gval_put (fun d hd he => h d hd (by
   rw [Array.getElem?_toList] at he
   simp [Oper.looksAt, hg, he]))]
theorem evs_put {o : Oper} {t : List AV} {dst : Option Tmp} {v : AV} (h : ∀ d, dst = some d → d ∉ o.looksAt ops) : ∀ x ∈ o.op.operands, ev E (putT t dst v) x = ev E t x := fun x hx =>
 ev_put fun d hd hxd => h d hd (by
  subst hxd
  exact List.mem_append_left _ (List.mem_filterMap.2 ⟨.tmp d, by simpa using hx, rfl⟩))
theorem YA.put {o : Oper} {v : AV} {t : List AV} {dst : Option Tmp} {u : AV} (h : ∀ d, dst = some d → d ∉ o.looksAt ops) (hy : YA E ops.toList H o v t) : YA E ops.toList H o v (putT t dst u) := by
 rcases hy with ⟨h1, h2, h3⟩ | ⟨h1, h2⟩
 ·have e : ∀ x ∈ o.op.operands, ev E t x = ev E (putT t dst u) x := fun x hx => (evs_put (E := E) h x hx).symm
  exact .inl ⟨by rw [wantA_put h]; exact h1, h3 _ e, fun ρ hρ => h3 ρ fun x hx => (e x hx).trans (hρ x hx)⟩
 ·exact .inr ⟨by rw [wantA_put h]; exact h1, h2⟩
theorem YA.unput {o : Oper} {v : AV} {t : List AV} {dst : Option Tmp} {u : AV} (h : ∀ d, dst = some d → d ∉ o.looksAt ops) (hy : YA E ops.toList H o v (putT t dst u)) : YA E ops.toList H o v t := by
 rcases hy with ⟨h1, h2, h3⟩ | ⟨h1, h2⟩
 ·have e : ∀ x ∈ o.op.operands, ev E (putT t dst u) x = ev E t x := evs_put (E := E) h
  exact .inl ⟨by rw [← wantA_put (v := u) h]; exact h1, h3 _ e, fun ρ hρ => h3 ρ fun x hx => (e x hx).trans (hρ x hx)⟩
 ·exact .inr ⟨by rw [← wantA_put (v := u) h]; exact h1, h2⟩
theorem putT_comm (t : List AV) {x y : Option Tmp} (v u : AV) (h : ∀ d, x = some d → y ≠ some d) : putT (putT t x v) y u = putT (putT t y u) x v := by
 cases x with
 | none => rfl
 | some d => cases y with
  | none => rfl
  | some e =>
   have hne : d ≠ e := fun he => h d rfl (he ▸ rfl)
   exact List.set_comm _ _ hne
def WA (E : Env) (ops : Array Oper) (H : List AObj) (N : Nat) (LN : Array Bool) (B : List AV → Prop) : Nat → Array Bool → List AV → Prop
 | 0, listed, t => listed = LN ∧ B t
 | fuel + 1, listed, t => Region.ready .any ops listed ≠ [] ∧ ∀ i ∈ Region.ready .any ops listed, i < N ∧ QOp E ops H i (WA E ops H N LN B fuel (listed.setIfInBounds i true)) t
theorem QOp_put {j : Nat} {oi oj : Oper} {v : AV} (hj : ops[j]? = some oj) (hap : oi.apart ops oj = true) {K : List AV → Prop} {t : List AV}
  (hy : YA E ops.toList H oi v t) (h : QOp E ops H j K (putT t oi.dst v)) : QOp E ops H j (fun t' => YA E ops.toList H oi v t' ∧ K (putT t' oi.dst v)) t := by
 obtain ⟨h1, h2, h3⟩ := Oper.apart_spec hap
 obtain ⟨o, ho, u, hu, hK⟩ := h
 rw [hj] at ho
 obtain rfl := Option.some.inj ho
 exact ⟨oj, hj, u, hu.unput h1, hy.put h3, by rw [← putT_comm t v u h2]; exact hK⟩
theorem WA_first {N : Nat} {LN : Array Bool} {B : List AV → Prop} {i : Nat} {oi : Oper} {v : AV} (hi : ops[i]? = some oi) (hiN : i < N) (hLN : ∀ j, j < N → j < ops.size → LN.getD j false = true)
  (hwait : ∀ j oj, N ≤ j → ops[j]? = some oj → ∀ k, k < N → ∃ e ∈ oj.after, Region.binds .any e = true ∧ e.on = k) :
  ∀ (fuel : Nat) (listed : Array Bool) (t : List AV),
   (∀ j oj, ops[j]? = some oj → j ≠ i → listed.getD j true = false → (∀ e ∈ oj.after, Region.binds .any e = true → e.on ≠ i) → oi.apart ops oj = true) →
   i ∈ Region.ready .any ops listed → YA E ops.toList H oi v t →
   WA E ops H N LN B fuel (listed.setIfInBounds i true) (putT t oi.dst v) → WA E ops H N LN B (fuel + 1) listed t := by
 have tail : ∀ (listed : Array Bool) j, i ∈ Region.ready .any ops listed → j ∈ Region.ready .any ops listed → j < N := fun listed j hr hj => by
  rcases Nat.lt_or_ge j N with h | h
  ·exact h
  ·exfalso
   obtain ⟨_, oj, hoj, hall⟩ := mem_ready.1 hj
   obtain ⟨e, he, hb, hon⟩ := hwait j oj h hoj i hiN
   have h1 := hall e he hb
   have h0 := (mem_ready.1 hr).1
   rw [hon] at h1
   rcases Nat.lt_or_ge i listed.size with h' | h'
   ·simp [h'] at h0 h1; rw [h0] at h1; cases h1
   ·simp [Array.getElem?_eq_none h'] at h1
 intro fuel
 induction fuel with
 | zero =>
  intro listed t _ hr hy Hh
  refine ⟨fun h => (by rw [h] at hr; cases hr), fun j hj => ?_⟩
  have hjN := tail listed j hr hj
  by_cases hji : j = i
  ·subst hji; exact ⟨hjN, oi, hi, v, hy, Hh⟩
  ·exfalso
   obtain ⟨hun, oj, hoj, _⟩ := mem_ready.1 hj
   have h1 := hLN j hjN (Array.getElem?_eq_some_iff.1 hoj).1
   rw [← Hh.1] at h1
   have hne : i ≠ j := Ne.symm hji
   rw [getD_set_ne_bool hne] at h1
   rcases Nat.lt_or_ge j listed.size with h' | h'
   ·simp [h'] at h1 hun
    rw [hun] at h1; cases h1
   ·simp [Array.getElem?_eq_none h'] at h1
 | succ fuel ih =>
  intro listed t hfree hr hy Hh
  refine ⟨fun h => (by rw [h] at hr; cases hr), fun j hj => ?_⟩
  have hjN := tail listed j hr hj
  by_cases hji : j = i
  ·subst hji; exact ⟨hjN, oi, hi, v, hy, Hh⟩
  ·have h1 := (Hh.2 j (ready_mono hj hji)).2
   obtain ⟨hjun, oj, hoj, hall⟩ := mem_ready.1 hj
   have hnot : ∀ e ∈ oj.after, Region.binds .any e = true → e.on ≠ i := fun e he hb heq => by
    have h1 := hall e he hb
    have h0 := (mem_ready.1 hr).1
    rw [heq] at h1
    rcases Nat.lt_or_ge i listed.size with h' | h'
    ·simp [h'] at h0 h1; rw [h0] at h1; cases h1
    ·simp [Array.getElem?_eq_none h'] at h1
   have h2 := QOp_put hoj (hfree j oj hoj hji hjun hnot) hy h1
   have hfree' : ∀ k ok, ops[k]? = some ok → k ≠ i → (listed.setIfInBounds j true).getD k true = false →
     (∀ e ∈ ok.after, Region.binds .any e = true → e.on ≠ i) → oi.apart ops ok = true := fun k ok hk hki hun hno => by
    refine hfree k ok hk hki ?_ hno
    by_cases hjk : j = k
    ·subst hjk; exact hjun
    ·rw [getD_set_ne_bool hjk] at hun; exact hun
   refine ⟨hjN, h2.mono (fun t' h3 => ih (listed.setIfInBounds j true) t' hfree' (ready_mono hr (Ne.symm hji)) h3.1 ?_)⟩
   rw [Array.setIfInBounds_comm _ _ hji]
   exact h3.2
end
end Go.Abs
end
section
set_option autoImplicit false
set_option linter.unusedVariables false
set_option linter.unusedSimpArgs false
namespace Go.Abs
def isEff : Op → Bool
 | .alloc _ => true
 | .box _ _ => true
 | .store _ _ _ => true
 | .makeSlice _ _ _ => true
 | .makeMap _ _ => true
 | .mapUpdate _ _ _ _ => true
 | .insert _ _ _ _ => true
 | .range _ _ => true
 | .next _ _ => true
 | .entry _ => true
 | .call c => match c.callee with
  | .builtin .append => true
  | .builtin .delete => true
  | .builtin .clear => true
  | _ => false
 | _ => false
def qpre : List Oper → List Oper
 | [] => []
 | o :: r => match isEff o.op with
  | true => []
  | false => o :: qpre r
def qtail : List Oper → List Oper
 | [] => []
 | o :: r => match isEff o.op with
  | true => o :: r
  | false => qtail r
theorem q_append : ∀ l : List Oper, qpre l ++ qtail l = l
 | [] => rfl
 | o :: r => by
  simp only [qpre, qtail]
  cases isEff o.op with
  | true => rfl
  | false => simp [q_append r]
def setN : Nat → Array Bool → Array Bool
 | 0, l => l
 | k + 1, l => (setN k l).setIfInBounds k true
def drawOK (ops : Array Oper) (N : Nat) : Bool :=
 (List.range N).all (fun k => (Region.ready .any ops (setN k (Array.replicate ops.size false))).contains k && Region.free .any ops (setN k (Array.replicate ops.size false)) k) &&
 (List.range (ops.size - N)).all (fun j => Region.ready .any ops (setN (N + j) (Array.replicate ops.size false)) == [N + j]) &&
 (Region.ready .any ops (setN ops.size (Array.replicate ops.size false))).isEmpty &&
 (List.range (ops.size - N)).all (fun j => (List.range N).all fun k => match ops[N + j]? with
  | some o => o.after.any fun e => Region.binds .any e && e.on == k
  | none => false)
def adraw (E : Env) (ops : List Oper) : List Oper → K3 → K3
 | [], K, t, H, ds => K t H ds
 | o :: r, K, t, H, ds => match o.guard with
  | none => qop E o.op (ev E t) H (fun v => adraw E ops r K (putT t o.dst v) H ds)
  | some (j, want) => match gval ops t j with
   | some (d, .d (.bool b)) => Br (b == want)
     (qop E o.op (ev E (t.set d (.d (.bool want)))) H (fun v => adraw E ops r K (putT (t.set d (.d (.bool want))) o.dst v) H ds))
     (adraw E ops r K (putT (t.set d (.d (.bool (!want)))) o.dst udf) H ds)
   | some (_, .d (.tup [])) => adraw E ops r K (putT t o.dst udf) H ds
   | _ => False
section
variable {E : Env} {n0 : Nat} {w : World} {F : Nat → Prop} {Γ : List Slot} {H : List AObj} {ops : Array Oper}
theorem qcallF_det {g : FuncId} {args : List AV} {K : AV → Prop} (h : qcallF E g args H K) : ∃ v, K v ∧ ∀ K' : AV → Prop, K' v → qcallF E g args H K' := by
 unfold qcallF at h ⊢
 cases hx : E.ext g with
 | some f =>
  simp only [hx] at h ⊢
  cases hf : f args with
  | some v => simp only [hf] at h ⊢; exact ⟨v, h, fun _ h' => h'⟩
  | none => simp only [hf] at h
 | none =>
  simp only [hx] at h ⊢
  obtain ⟨v, h1, h2⟩ := h
  exact ⟨v, h2, fun _ h' => ⟨v, h1, h'⟩⟩
theorem qcall_det {c : Call} {ρ : Operand → AV} {K : AV → Prop} (h : qcall E c ρ H K) : ∃ v, K v ∧ ∀ K' : AV → Prop, K' v → qcall E c ρ H K' := by
 obtain ⟨callee, args, ts⟩ := c
 cases callee with
 | value f =>
  unfold qcall at h ⊢
  simp only at h ⊢
  split at h
  ·exact qcallF_det h
  ·exact qcallF_det h
  ·exact h.elim
 | invoke r m => exact h.elim
 | builtin b =>
  by_cases hb : b = .append ∨ b = .delete ∨ b = .clear
  ·rcases hb with rfl | rfl | rfl <;> exact h.elim
  ·have e1 : ∀ K, qcall E ⟨.builtin b, args, ts⟩ ρ H K = apureCall E ⟨.builtin b, args, ts⟩ ρ H K := fun K => by cases b <;> first | rfl | exact absurd (by simp) hb
   rw [e1] at h
   simp only [e1]
   exact apureCall_det h
theorem qop_det {o : Op} {ρ : Operand → AV} {K : AV → Prop} (h : qop E o ρ H K) : ∃ v, K v ∧ ∀ K' : AV → Prop, K' v → qop E o ρ H K' := by
 cases o
 case alloc => exact h.elim
 case box => exact h.elim
 case store => exact h.elim
 case makeSlice => exact h.elim
 case makeMap => exact h.elim
 case mapUpdate => exact h.elim
 case insert => exact h.elim
 case range => exact h.elim
 case next => exact h.elim
 case entry => exact h.elim
 case buildSlice T n ps => simp only [qop] at h ⊢; exact abuildS_det h
 case call c => simp only [qop] at h ⊢; exact qcall_det h
 all_goals
  simp only [qop] at h ⊢
  exact apure_det h
theorem ya_of_qop {opl : List Oper} {o : Oper} {t : List AV} {K : AV → Prop} (hw : wantA opl o t = some true) (h : qop E o.op (ev E t) H K) : ∃ v, YA E opl H o v t ∧ K v := by
 obtain ⟨v, h1, h2⟩ := qop_det h
 have key : ∀ ρ : Operand → AV, (∀ x ∈ o.op.operands, ev E t x = ρ x) → aop E o.op ρ H (fun r H' => r = v ∧ H' = H) (fun r H' => r = v ∧ H' = H) := fun ρ hρ => by
  have h3 := h2 (fun r => r = v) rfl
  rw [qop_congr hρ] at h3
  obtain ⟨v', rfl, h4⟩ := qop_aop h3
  exact h4
 exact ⟨v, .inl ⟨hw, key _ fun _ _ => rfl, key⟩, h1⟩
theorem set_self_val {t : List AV} {d : Nat} {av : AV} (h : t.getD d .dead = av) (hne : av ≠ .dead) : t.set d av = t := by
 rcases Nat.lt_or_ge d t.length with hlt | hge
 ·rw [List.getD_eq_getElem?_getD, List.getElem?_eq_getElem hlt] at h
  apply List.ext_getElem?
  intro k
  by_cases hk : d = k
  ·subst hk
   rw [List.getElem?_set_self (by simpa using hlt), List.getElem?_eq_getElem hlt]
   simpa using h.symm
  ·rw [List.getElem?_set_ne hk]
 ·rw [List.getD_eq_getElem?_getD, List.getElem?_eq_none hge] at h
  exact absurd h.symm hne
theorem gval_getD {opl : List Oper} {t : List AV} {j d : Nat} {av : AV} (h : gval opl t j = some (d, av)) : t.getD d .dead = av := by
 unfold gval at h
 split at h
 ·split at h
  ·simp at h; obtain ⟨rfl, h⟩ := h; simpa using h
  ·simp at h
 ·simp at h
theorem adraw_step {opl : List Oper} {o : Oper} {r : List Oper} {K : K3} {t : List AV} {ds : List Nat} (h : adraw E opl (o :: r) K t H ds) : ∃ v, YA E opl H o v t ∧ adraw E opl r K (putT t o.dst v) H ds := by
 simp only [adraw] at h
 cases hg : o.guard with
 | none =>
  rw [hg] at h
  exact ya_of_qop (by simp [wantA, hg]) h
 | some gw =>
  obtain ⟨j, want⟩ := gw
  rw [hg] at h
  simp only at h
  split at h <;> try exact h.elim
  rotate_left
  ·rename_i d hgv
   exact ⟨udf, .inr ⟨by simp [wantA, hg, hgv], rfl⟩, h⟩
  rename_i d b hgv
  have hd := gval_getD hgv
  by_cases hb : b = want
  ·have e : t.set d (.d (.bool want)) = t := set_self_val (by rw [hd, hb]) (by simp)
   have h1 := h.1 (by simp [hb])
   rw [e] at h1
   exact ya_of_qop (by simp [wantA, hg, hgv, hb]) h1
  ·have hb' : (!want) = b := by cases b <;> cases want <;> simp_all
   have e : t.set d (.d (.bool (!want))) = t := set_self_val (by rw [hd, hb']) (by simp)
   have h1 := h.2 (by simpa using hb)
   rw [e] at h1
   exact ⟨udf, .inr ⟨by simp [wantA, hg, hgv, hb], rfl⟩, h1⟩
theorem WA_lex {N : Nat} {K : K3} {ds : List Nat} (hN : N ≤ ops.size)
  (hlex : ∀ k, k < N → k ∈ Region.ready .any ops (setN k (Array.replicate ops.size false)) ∧ Region.free .any ops (setN k (Array.replicate ops.size false)) k = true)
  (hwait : ∀ j oj, N ≤ j → ops[j]? = some oj → ∀ k, k < N → ∃ e ∈ oj.after, Region.binds .any e = true ∧ e.on = k) :
  ∀ (l : List Oper) (k : Nat) (t : List AV), k + l.length = N → (∀ j, j < l.length → l[j]? = ops[k + j]?) → adraw E ops.toList l K t H ds →
   WA E ops H N (setN N (Array.replicate ops.size false)) (fun t' => K t' H ds) l.length (setN k (Array.replicate ops.size false)) t
 | [], k, t, hk, _, h => by
  simp only [List.length_nil, Nat.add_zero] at hk
  subst hk
  exact ⟨rfl, h⟩
 | o :: l, k, t, hk, hl, h => by
  simp only [List.length_cons] at hk
  have h0 : ops[k]? = some o := by have := hl 0 (by simp); simpa using this.symm
  obtain ⟨v, hy, hK⟩ := adraw_step h
  obtain ⟨hr, hf⟩ := hlex k (by omega)
  have hset : ∀ (m j : Nat), j < m → j < ops.size → (setN m (Array.replicate ops.size false)).getD j false = true := by
   intro m
   induction m with
   | zero => intro j hj; omega
   | succ m ih =>
    intro j hj hs
    simp only [setN]
    by_cases hjm : m = j
    ·subst hjm
     have hsz : ∀ m, (setN m (Array.replicate ops.size false)).size = ops.size := by
      intro m
      induction m with
      | zero => simp [setN]
      | succ m ih => simp [setN, ih]
     simp [Array.getD_eq_getD_getElem?, hsz m, hs]
    ·rw [getD_set_ne_bool hjm]
     exact ih j (by omega) hs
  refine WA_first h0 (by omega) (fun j hj hs => hset N j hj hs) hwait l.length _ t (Region.free_spec h0 hf) hr hy ?_
  exact WA_lex hN hlex hwait l (k + 1) _ (by omega) (fun j hj => by
   have := hl (j + 1) (by simp; omega)
   simpa [Nat.add_assoc, Nat.add_comm 1 j] using this) hK
theorem wanted_of {t : List AV} {a : Act} (hT : RT w F Γ t a.tmps) {o : Oper} {b : Bool} (h : wantA ops.toList o t = some b) : Region.wanted o (yielded ops a.tmps) = b := by
 unfold wantA at h
 unfold Region.wanted
 cases hg : o.guard with
 | none => rw [hg] at h; simpa using h
 | some gw =>
  obtain ⟨j, want⟩ := gw
  rw [hg] at h
  simp only at h ⊢
  split at h <;> try (simp at h; done)
  rotate_left
  ·rename_i d hgv
   obtain rfl : false = b := Option.some.inj h
   have hget := gval_getD hgv
   unfold gval at hgv
   cases hoj : ops[j]? with
   | none => simp [hoj] at hgv
   | some oj =>
    cases hdj : oj.dst with
    | none => simp [hoj, hdj] at hgv
    | some d' =>
     simp [hoj, hdj] at hgv
     obtain ⟨rfl, _⟩ := hgv
     have hlt : d' < t.length := by
      rcases Nat.lt_or_ge d' t.length with h | h
      ·exact h
      ·rw [List.getD_eq_getElem?_getD, List.getElem?_eq_none h] at hget; cases hget
     have hget' : t[d']? = some (.d (.tup [])) := by
      rw [List.getD_eq_getElem?_getD, List.getElem?_eq_getElem hlt] at hget
      rw [List.getElem?_eq_getElem hlt]
      simpa using hget
     have hbv := RD_udf (hT.2 d' _ hget').of_d
     have hsz : d' < a.tmps.size := by rw [hT.1]; exact hlt
     have : a.tmps[d']? = some (.tuple #[]) := by rw [getD_of hsz, hbv]
     unfold yielded
     simp [hoj, hdj, this]
  rename_i d b' hgv
  have hget := gval_getD hgv
  unfold gval at hgv
  cases hoj : ops[j]? with
  | none => simp [hoj] at hgv
  | some oj =>
   cases hdj : oj.dst with
   | none => simp [hoj, hdj] at hgv
   | some d' =>
    simp [hoj, hdj] at hgv
    obtain ⟨rfl, _⟩ := hgv
    have hlt : d' < t.length := by
     rcases Nat.lt_or_ge d' t.length with h | h
     ·exact h
     ·rw [List.getD_eq_getElem?_getD, List.getElem?_eq_none h] at hget; cases hget
    have hget' : t[d']? = some (.d (.bool b')) := by
     rw [List.getD_eq_getElem?_getD, List.getElem?_eq_getElem hlt] at hget
     rw [List.getElem?_eq_getElem hlt]
     simpa using hget
    have hbv := RD_bool (hT.2 d' _ hget').of_d
    have hsz : d' < a.tmps.size := by rw [hT.1]; exact hlt
    have : a.tmps[d']? = some (.bool b') := by rw [getD_of hsz, hbv]
    unfold yielded
    simp [hoj, hdj, this]
    simpa using h
theorem quiet_run (hE : EnvOk E) {ro : Option Nat} {n : Nat} {Q : Exit → Act → World → Prop} {o : Oper} {v : AV} {t : List AV} {ds : List Nat} {a : Act} (hy : YA E ops.toList H o v t) (hR : Rel E w F Γ t H ds a) (hn : n0 ≤ Γ.length)
  {X : Act → World → Prop} (hX : ∀ w' F' Γ' u, Rel E w' F' Γ' (putT t o.dst v) H ds (a.put o.dst u) → Ext n0 w F Γ H w' F' Γ' H → X (a.put o.dst u) w') :
  if Region.wanted o (yielded ops a.tmps) then o.wpIn (Wr ro) n E.P a w X Q else (∀ f, o.about E.P w a.eval = some f → (Wr ro).fn f) ∧ X (a.put o.dst undef) w := by
 rcases hy with ⟨hw, hop, _⟩ | ⟨hw, rfl⟩
 ·rw [if_pos (wanted_of hR.rt hw)]
  refine ⟨fun f _ => trivial, ?_⟩
  rw [Oper.semAt_eq _ _ _ (noDefer hop)]
  rcases aop_ok (n0 := n0) hE hR.sr hn hop (ev_ok hR.sr hR.rt) with ⟨u, w', hrun, F', Γ', H', av, hS', hv', ⟨rfl, rfl⟩, hXt, hpre⟩ | ⟨w', hrun, F', Γ', H', av, hS', hv', ⟨rfl, rfl⟩, hXt, hpre⟩ | ⟨g, vs, hrun, hcalls⟩ | ⟨b, fn, tmps, assign, body, hrun, hrounds⟩
  ·rw [hrun]
   exact hX w' F' Γ' u ⟨hS', putT_ok (hR.rt.mono hXt.sub (hXt.stay hR.sr) hpre) o.dst hv', by rw [put_defers]; exact hR.dr.mono hpre⟩ hXt
  ·rw [hrun]
   exact hX w' F' Γ' undef ⟨hS', putT_ok (hR.rt.mono hXt.sub (hXt.stay hR.sr) hpre) o.dst hv', by rw [put_defers]; exact hR.dr.mono hpre⟩ hXt
  ·rw [hrun]
   refine ⟨fun h => by simp [Wr, Fence.wide] at h, Wr_calls (hcalls.mono ?_)⟩
   rintro e w' ⟨u, r', H', F', Γ', rfl, hS', hv', ⟨rfl, rfl⟩, hXt⟩
   have hpre : ∀ (id : Nat) s, Γ[id]? = some s → Γ'[id]? = some s := fun id s hs => by
    rw [hXt.pre id (by rw [← hR.sr.len]; exact (List.getElem?_eq_some_iff.1 hs).1)]; exact hs
   have hX0 : Ext n0 w F Γ H' w' F' Γ' H' := { hXt with pre := fun id hid => hXt.pre id (by rw [← hR.sr.len]; omega), nlen := Nat.le_trans (by rw [← hR.sr.len]; exact hn) hXt.nlen }
   exact hX w' F' Γ' u ⟨hS', putT_ok (hR.rt.mono hXt.sub (hXt.stay hR.sr) hpre) o.dst hv', by rw [put_defers]; exact hR.dr.mono hpre⟩ hX0
  ·rw [hrun]
   refine ⟨fun h => by simp [Wr, Fence.wide] at h, Wr_rounds (RoundIn.mono hrounds ?_)⟩
   rintro e w' ⟨u, r', H', F', Γ', rfl, hS', hv', ⟨rfl, rfl⟩, hXt⟩
   have hpre : ∀ (id : Nat) s, Γ[id]? = some s → Γ'[id]? = some s := fun id s hs => by
    rw [hXt.pre id (by rw [← hR.sr.len]; exact (List.getElem?_eq_some_iff.1 hs).1)]; exact hs
   have hX0 : Ext n0 w F Γ H' w' F' Γ' H' := { hXt with pre := fun id hid => hXt.pre id (by rw [← hR.sr.len]; omega), nlen := Nat.le_trans (by rw [← hR.sr.len]; exact hn) hXt.nlen }
   exact hX w' F' Γ' u ⟨hS', putT_ok (hR.rt.mono hXt.sub (hXt.stay hR.sr) hpre) o.dst hv', by rw [put_defers]; exact hR.dr.mono hpre⟩ hX0
 ·have hf := wanted_of hR.rt hw
  rw [if_neg (by rw [hf]; simp)]
  exact ⟨fun f _ => trivial, hX w F Γ undef ⟨hR.sr, putT_ok hR.rt o.dst udf_ok, by rw [put_defers]; exact hR.dr⟩ (Ext.refl hn)⟩
theorem WA_ok (hE : EnvOk E) {ro : Option Nat} {n N m : Nat} {LN : Array Bool} {B : List AV → Prop} {Q : Exit → Act → World → Prop} {ds : List Nat} : ∀ (fuel : Nat) (listed : Array Bool) (t : List AV), WA E ops H N LN B fuel listed t →
  ∀ (w : World) (F : Nat → Prop) (Γ : List Slot) (a : Act), Rel E w F Γ t H ds a → n0 ≤ Γ.length →
   (∀ t' w' F' Γ' a', B t' → Rel E w' F' Γ' t' H ds a' → Ext n0 w F Γ H w' F' Γ' H → wpAnyIn (Wr ro) n E.P .any ops Q m LN a' w') →
   wpAnyIn (Wr ro) n E.P .any ops Q (m + fuel) listed a w
 | 0, listed, t, h, w, F, Γ, a, hR, hn, hB => by
  obtain ⟨rfl, h⟩ := h
  exact hB t w F Γ a h hR (Ext.refl hn)
 | fuel + 1, listed, t, h, w, F, Γ, a, hR, hn, hB => by
  refine ⟨fun h0 => absurd h0 h.1, fun i hi => ?_⟩
  obtain ⟨_, o, ho, v, hy, hK⟩ := h.2 i hi
  unfold wpOpIn
  simp only [ho]
  exact quiet_run hE hy hR hn (fun w' F' Γ' u hR' hX => WA_ok hE fuel _ _ hK w' F' Γ' _ hR' hX.nlen fun t2 w2 F2 Γ2 a2 hb hR2 hX2 => hB t2 w2 F2 Γ2 a2 hb hR2 (hX.trans (Nat.le_refl _) hX2))
theorem tail_ok {P : Program} {ro : Option Nat} {n : Nat} {Q : Exit → Act → World → Prop} (h0 : Region.ready .any ops (setN ops.size (Array.replicate ops.size false)) = []) :
  ∀ (l : List Oper) (k : Nat), k + l.length = ops.size → (∀ j, j < l.length → l[j]? = ops[k + j]?) → (∀ j, k ≤ j → j < ops.size → Region.ready .any ops (setN j (Array.replicate ops.size false)) = [j]) →
   ∀ a w, wpListIn (Wr ro) n P ops Q l a w → wpAnyIn (Wr ro) n P .any ops Q l.length (setN k (Array.replicate ops.size false)) a w
 | [], k, hk, _, _, a, w, h => by
  simp only [List.length_nil, Nat.add_zero] at hk
  subst hk
  exact ⟨h0, h⟩
 | o :: l, k, hk, hl, hr, a, w, h => by
  simp only [List.length_cons] at hk
  have hk0 : ops[k]? = some o := by have := hl 0 (by simp); simpa using this.symm
  have hrk := hr k (Nat.le_refl _) (by omega)
  refine ⟨fun h => (by rw [hrk] at h; cases h), fun i hi => ?_⟩
  rw [hrk] at hi
  obtain rfl := List.mem_singleton.1 hi
  have next : ∀ a w, wpListIn (Wr ro) n P ops Q l a w → wpAnyIn (Wr ro) n P .any ops Q l.length (setN (i + 1) (Array.replicate ops.size false)) a w :=
   tail_ok h0 l (i + 1) (by omega) (fun j hj => by
    have := hl (j + 1) (by simp; omega)
    simpa [Nat.add_assoc, Nat.add_comm 1 j] using this) (fun j hj => hr j (by omega))
  unfold wpOpIn
  simp only [hk0]
  unfold wpListIn at h
  split at h
  ·rename_i hw
   rw [if_pos hw]
   exact Oper.wpIn_mono next h
  ·rename_i hw
   rw [if_neg hw]
   exact ⟨h.1, next _ _ h.2⟩
theorem sr_drew (hS : SR E w F Γ H) : SR E { w with drawn := w.drawn + 1 } F Γ H := hS.world (Nat.le_refl _) (fun _ _ => rfl)
theorem ext_drew (hn : n0 ≤ Γ.length) : Ext n0 w F Γ H { w with drawn := w.drawn + 1 } F Γ H :=
 ⟨rfl, rfl, rfl, Nat.le_refl _, fun _ _ _ => rfl, fun _ h => h, fun _ h _ => .inl h, fun _ h _ => h, fun _ _ => rfl, hn⟩
theorem draw_ok (hE : EnvOk E) {ro : Option Nat} {n id : Nat} {Q : Exit → Act → World → Prop} {K : K3} {t : List AV} {ds : List Nat} {a : Act} (hB : drawOK ops (qpre ops.toList).length = true)
  (h : adraw E ops.toList (qpre ops.toList) (areg E n0 ops.toList (qtail ops.toList) K) t H ds) (hR : Rel E w F Γ t H ds a) (hn : n0 ≤ Γ.length)
  (hQ : ∀ a' w', Lat E n0 w F Γ H K a' w' → Q .normal a' w') : (Code.region id ops true).wpIn (Wr ro) n E.P Q a w := by
 unfold drawOK at hB
 simp only [Bool.and_eq_true, List.all_eq_true, List.mem_range, beq_iff_eq, List.isEmpty_iff] at hB
 obtain ⟨⟨⟨b1, b2⟩, b3⟩, b4⟩ := hB
 have happ := q_append ops.toList
 have hlen : (qpre ops.toList).length + (qtail ops.toList).length = ops.size := by
  rw [← List.length_append, happ]; simp
 have hpre : ∀ j, j < (qpre ops.toList).length → (qpre ops.toList)[j]? = ops[0 + j]? := fun j hj => by
  have e : ops.toList[j]? = (qpre ops.toList ++ qtail ops.toList)[j]? := by rw [happ]
  rw [Nat.zero_add, ← Array.getElem?_toList, e, List.getElem?_append_left hj]
 have htail : ∀ j, j < (qtail ops.toList).length → (qtail ops.toList)[j]? = ops[(qpre ops.toList).length + j]? := fun j hj => by
  have e : ops.toList[(qpre ops.toList).length + j]? = (qpre ops.toList ++ qtail ops.toList)[(qpre ops.toList).length + j]? := by rw [happ]
  rw [← Array.getElem?_toList, e, List.getElem?_append_right (by omega)]
  congr 1; omega
 have hR1 : Rel E { w with drawn := w.drawn + 1 } F Γ t H ds a := ⟨sr_drew hR.sr, @RT.mono w { w with drawn := w.drawn + 1 } F F Γ Γ (fun _ h => h) (fun _ _ => rfl) (fun _ _ h => h) t a.tmps hR.rt, hR.dr⟩
 refine wpIn_region_any hE.mixed ?_
 have hWA := WA_lex (E := E) (H := H) (ds := ds) (N := (qpre ops.toList).length) (ops := ops) (by omega)
  (fun k hk => by
   obtain ⟨h1, h2⟩ := b1 k hk
   exact ⟨by simpa using h1, h2⟩)
  (fun j oj hj hoj k hk => by
   have hjs := (Array.getElem?_eq_some_iff.1 hoj).1
   have := b4 (j - (qpre ops.toList).length) (by omega) k hk
   rw [show (qpre ops.toList).length + (j - (qpre ops.toList).length) = j by omega, hoj] at this
   simp only [Array.any_eq_true] at this
   obtain ⟨i, hi, hb⟩ := this
   simp only [Bool.and_eq_true, beq_iff_eq] at hb
   exact ⟨_, Array.getElem_mem hi, hb⟩)
  (qpre ops.toList) 0 t (by simp) hpre h
 have := WA_ok (n0 := n0) (m := (qtail ops.toList).length) (Q := Q) (ro := ro) (n := n) hE _ _ _ hWA _ F Γ a hR1 hn (fun t' w' F' Γ' a' hb hR' hX' => by
  refine tail_ok b3 (qtail ops.toList) (qpre ops.toList).length hlen htail (fun j hj hjs => ?_) a' w' ?_
  ·have := b2 (j - (qpre ops.toList).length) (by omega)
   rwa [show (qpre ops.toList).length + (j - (qpre ops.toList).length) = j by omega] at this
  ·have hareg := areg_ok (ro := ro) (n := n) hE ops.toList K (qtail ops.toList) t' H ds hb w' F' Γ' a' hR' hX'.nlen Q
    (fun a2 w2 ⟨F2, Γ2, t2, H2, ds2, hR2, hX2, hK⟩ => hQ a2 w2 ⟨F2, Γ2, t2, H2, ds2, hR2, ((ext_drew hn).trans (Nat.le_refl _) hX').trans (Nat.le_refl _) hX2, hK⟩)
   simpa using hareg)
 have e : (qtail ops.toList).length + (qpre ops.toList).length = ops.size := by omega
 rw [e] at this
 simpa [setN] using this
end
end Go.Abs
end
section
set_option autoImplicit false
set_option linter.unusedVariables false
set_option linter.unusedSimpArgs false
namespace Go.Abs
def isCallOp : Op → Bool
 | .call c => match c.callee with
  | .builtin _ => false
  | _ => true
 | _ => false
def linked (ops : Array Oper) (k i : Nat) : Bool := match ops[k]? with
 | some o => o.after.any fun e => Region.binds .any e && e.on == i
 | none => false
def earlyB (ops : Array Oper) : Nat → List Bool
 | 0 => []
 | n + 1 => earlyB ops n ++ [match ops[n]? with
  | some o => !isEff o.op && !isCallOp o.op && o.after.all (fun e => !Region.binds .any e || (earlyB ops n).getD e.on false)
  | none => false]
def eB (ops : Array Oper) (i : Nat) : Bool := (earlyB ops ops.size).getD i false
def eL (ops : Array Oper) : List Nat := (List.range ops.size).filter fun i => eB ops i
def tL (ops : Array Oper) : List Nat := (List.range ops.size).filter fun i => !eB ops i
def opsAt (ops : Array Oper) (l : List Nat) : List Oper := l.filterMap fun i => ops[i]?
def chained (ops : Array Oper) : List Nat → Bool
 | j :: k :: r => linked ops k j && chained ops (k :: r)
 | _ => true
def draw2 (ops : Array Oper) : Bool :=
 chained ops (tL ops) &&
 (List.range ops.size).all fun i => match ops[i]? with
  | none => false
  | some o => o.after.all (fun e => !Region.binds .any e || (decide (e.on < i) && (!eB ops i || eB ops e.on))) &&
   (List.range ops.size).all fun k => match ops[k]? with
    | none => true
    | some o' => i == k || ((o.dst.isNone || o.dst != o'.dst) && (!eB ops i || linked ops i k || linked ops k i || o.apart ops o'))
def Steps (E : Env) (opl : List Oper) (H : List AObj) : List Oper → List AV → List AV → Prop
 | [], t, tq => tq = t
 | o :: r, t, tq => ∃ v, YA E opl H o v t ∧ Steps E opl H r (putT t o.dst v) tq
def atail (E : Env) (opl el : List Oper) (t0 tq : List AV) : List Oper → K3 → K3
 | [], K, t, H, ds => K t H ds
 | o :: r, K, t, H, ds => match o.guard with
  | none => aop E o.op (ev E t) H (fun v H' => adraw E opl el (fun t' _ _ => t' = tq) t0 H' ds ∧ atail E opl el t0 tq r K (putT t o.dst v) H' ds)
    (fun v H' => adraw E opl el (fun t' _ _ => t' = tq) t0 H' ds ∧ atail E opl el t0 tq r K (putT t o.dst v) H' ds)
  | some (j, want) => match gval opl t j with
   | some (_, .d (.bool b)) => Br (b == want)
     (aop E o.op (ev E t) H (fun v H' => adraw E opl el (fun t' _ _ => t' = tq) t0 H' ds ∧ atail E opl el t0 tq r K (putT t o.dst v) H' ds)
      (fun v H' => adraw E opl el (fun t' _ _ => t' = tq) t0 H' ds ∧ atail E opl el t0 tq r K (putT t o.dst v) H' ds))
     (atail E opl el t0 tq r K (putT t o.dst udf) H ds)
   | some (_, .d (.tup [])) => atail E opl el t0 tq r K (putT t o.dst udf) H ds
   | _ => False
section
variable {E : Env} {n0 : Nat} {w : World} {F : Nat → Prop} {Γ : List Slot} {H : List AObj} {ops : Array Oper}
theorem putT_length (t : List AV) (d : Option Tmp) (v : AV) : (putT t d v).length = t.length := by cases d <;> simp [putT]
theorem putT_ne {t : List AV} {d : Option Tmp} {v : AV} {s : Nat} (h : d ≠ some s) : (putT t d v)[s]? = t[s]? := by
 cases d with
 | none => rfl
 | some d => exact List.getElem?_set_ne (fun e => h (by rw [e]))
theorem putT_self {t : List AV} {d : Nat} {v : AV} (h : d < t.length) : (putT t (some d) v)[d]? = some v := by simp [putT, h]
theorem adraw_steps {opl : List Oper} : ∀ {l : List Oper} {K : K3} {t : List AV} {ds : List Nat}, adraw E opl l K t H ds → ∃ tq, Steps E opl H l t tq ∧ K tq H ds
 | [], K, t, ds, h => ⟨t, rfl, h⟩
 | o :: r, K, t, ds, h => by
  obtain ⟨v, hy, h⟩ := adraw_step h
  obtain ⟨tq, h1, h2⟩ := adraw_steps h
  exact ⟨tq, ⟨v, hy, h1⟩, h2⟩
theorem Steps.end {opl : List Oper} : ∀ {l : List Oper} {t tq : List AV}, Steps E opl H l t tq → tq.length = t.length ∧ ∀ s : Nat, (∀ o ∈ l, o.dst ≠ some s) → tq[s]? = t[s]?
 | [], t, tq, h => by obtain rfl := h; exact ⟨rfl, fun _ _ => rfl⟩
 | o :: r, t, tq, ⟨v, _, h⟩ => by
  obtain ⟨h1, h2⟩ := h.end
  exact ⟨by rw [h1, putT_length], fun s hs => (h2 s fun o' ho' => hs o' (by simp [ho'])).trans (putT_ne (hs o (by simp)))⟩
theorem Steps.at {opl : List Oper} : ∀ {l : List Oper} {t tq : List AV}, Steps E opl H l t tq → l.Pairwise (fun x y => ∀ d, x.dst = some d → y.dst ≠ some d) → ∀ (p : Nat) (o : Oper), l[p]? = some o →
  ∃ v ti, YA E opl H o v ti ∧ ti.length = t.length ∧ (∀ s : Nat, (∀ (q : Nat) o', q < p → l[q]? = some o' → o'.dst ≠ some s) → ti[s]? = t[s]?) ∧
   (∀ (q : Nat) o' s, q < p → l[q]? = some o' → o'.dst = some s → ti[s]? = tq[s]?) ∧ (∀ d, o.dst = some d → d < t.length → tq[d]? = some v)
 | [], t, tq, h, hp, p, o, ho => by simp at ho
 | o0 :: r, t, tq, ⟨v0, hy0, h⟩, hp, p, o, ho => by
  obtain ⟨hp0, hpr⟩ := List.pairwise_cons.1 hp
  have hend := h.end
  cases p with
  | zero =>
   simp at ho
   subst ho
   refine ⟨v0, t, hy0, rfl, fun _ _ => rfl, fun q o' s hq => absurd hq (by omega), fun d hd hlt => ?_⟩
   rw [hend.2 d (fun o' ho' => hp0 o' ho' d hd), hd]
   exact putT_self hlt
  | succ p =>
   obtain ⟨v, ti, k1, k2, k3, k4, k5⟩ := h.at hpr p o (by simpa using ho)
   refine ⟨v, ti, k1, by rw [k2, putT_length], fun s hs => ?_, fun q o' s hq ho' hs => ?_, fun d hd hlt => k5 d hd (by rw [putT_length]; exact hlt)⟩
   ·rw [k3 s (fun q o' hq ho' => hs (q + 1) o' (by omega) (by simpa using ho'))]
    exact putT_ne (hs 0 o0 (by omega) rfl)
   ·cases q with
    | zero =>
     simp at ho'
     subst ho'
     have hr : ∀ o' ∈ r, o'.dst ≠ some s := fun o' ho' => hp0 o' ho' s hs
     rw [k3 s (fun q o' hq ho' => hr o' (List.mem_of_getElem? ho')), hend.2 s hr]
    | succ q => exact k4 q o' s (by omega) (by simpa using ho') hs
theorem aop_congr {o : Op} {ρ ρ' : Operand → AV} {K KW : AV → List AObj → Prop} (h : ∀ x ∈ o.operands, ρ x = ρ' x) : aop E o ρ H K KW = aop E o ρ' H K KW := by
 cases o <;> simp only [Op.operands] at h
 case call c =>
  obtain ⟨callee, args, ts⟩ := c
  have ha : args.toList.map ρ = args.toList.map ρ' := List.map_congr_left fun x hx => h x (by simp [Call.operands]; right; simpa using hx)
  have hm : ∀ x ∈ args.toList, ρ x = ρ' x := fun x hx => h x (by simp [Call.operands]; right; simpa using hx)
  cases callee with
  | value f =>
   have hf : ρ f = ρ' f := h f (by simp [Call.operands])
   simp only [aop, acall, hf, ha]
  | invoke r m => rfl
  | builtin b =>
   have key : ∀ K, apureCall E ⟨.builtin b, args, ts⟩ ρ H K = apureCall E ⟨.builtin b, args, ts⟩ ρ' H K := fun K => by
    unfold apureCall
    cases b <;> try rfl
    case max => simp only [ha]
    case min => simp only [ha]
    case cap => simp only [ha]
    simp only
    cases hargs : args.toList with
    | nil => rfl
    | cons x xs =>
     cases ts.toList with
     | nil => rfl
     | cons T Ts => simp only [hm x (by rw [hargs]; simp)]
   cases b <;> simp only [aop, acall]
   case append =>
    cases hargs : args.toList with
    | nil => rfl
    | cons x xs => cases xs with
     | nil => rfl
     | cons y ys =>
      have h1 := hm x (by rw [hargs]; simp)
      have h2 := hm y (by rw [hargs]; simp)
      rcases ys with _ | ⟨z, zs⟩ <;> rcases ts.toList with _ | ⟨T, _ | ⟨T', _ | ⟨T'', Ts⟩⟩⟩ <;> first | rfl | simp only [h1, h2]
   case delete =>
    cases hargs : args.toList with
    | nil => rfl
    | cons x xs => cases xs with
     | nil => rfl
     | cons y ys =>
      have h1 := hm x (by rw [hargs]; simp)
      have h2 := hm y (by rw [hargs]; simp)
      rcases ys with _ | ⟨z, zs⟩ <;> rcases ts.toList with _ | ⟨T, _ | ⟨T', _ | ⟨T'', Ts⟩⟩⟩ <;> first | rfl | simp only [h1, h2]
   case clear =>
    cases hargs : args.toList with
    | nil => rfl
    | cons x xs =>
     have h1 := hm x (by rw [hargs]; simp)
     rcases xs with _ | ⟨z, zs⟩ <;> rcases ts.toList with _ | ⟨T, _ | ⟨T', Ts⟩⟩ <;> first | rfl | simp only [h1]
   all_goals exact key _
 case buildSlice T n ps => simp only [aop]; rw [mapPair_congr ps.toList (fun x hx => h x (by simpa using hx))]
 case build T ps => simp only [aop, apure]; rw [mapPair_congr ps.toList (fun x hx => h x (by simpa using hx))]
 case makeFunc fn first caps =>
  cases fn <;> simp only [aop, apure]
  rw [List.map_congr_left (l := caps.toList) fun x hx => h x (by simp; right; simpa using hx)]
 case makeMap T r => cases r <;> simp_all [aop]
 case slice t x lo hi mx => cases lo <;> cases hi <;> cases mx <;> simp_all [aop, apure]
 all_goals first | rfl | (simp only [aop, apure]; done) | (simp only [aop, apure]; first | rfl | (simp_all; done))
theorem op_run (hE : EnvOk E) {ro : Option Nat} {n : Nat} {Q : Exit → Act → World → Prop} {o : Oper} {t : List AV} {ds : List Nat} {a : Act} {K : AV → List AObj → Prop} (hR : Rel E w F Γ t H ds a) (hn : n0 ≤ Γ.length)
  (h : aop E o.op (ev E t) H K K) {X : Act → World → Prop} (hX : ∀ v H' w' F' Γ' u, K v H' → Rel E w' F' Γ' (putT t o.dst v) H' ds (a.put o.dst u) → Ext n0 w F Γ H w' F' Γ' H' → X (a.put o.dst u) w') :
  o.wpIn (Wr ro) n E.P a w X Q := by
 refine ⟨fun f _ => trivial, ?_⟩
 rw [Oper.semAt_eq _ _ _ (noDefer h)]
 have call : ∀ {e : Ending} {w' : World}, (∃ v r H' F' Γ', e = .returned v ∧ SR E w' F' Γ' H' ∧ RV w' F' Γ' r v ∧ K r H' ∧ Ext H.length w F Γ H w' F' Γ' H') → ∃ v, e = .returned v ∧ X (a.put o.dst v) w' := by
  rintro e w' ⟨v, r', H', F', Γ', rfl, hS', hv', hK, hXt⟩
  have hpre : ∀ (id : Nat) s, Γ[id]? = some s → Γ'[id]? = some s := fun id s hs => by
   rw [hXt.pre id (by rw [← hR.sr.len]; exact (List.getElem?_eq_some_iff.1 hs).1)]; exact hs
  have hX0 : Ext n0 w F Γ H w' F' Γ' H' := { hXt with pre := fun id hid => hXt.pre id (by rw [← hR.sr.len]; omega), nlen := Nat.le_trans (by rw [← hR.sr.len]; exact hn) hXt.nlen }
  exact ⟨v, rfl, hX r' H' w' F' Γ' v hK ⟨hS', putT_ok (hR.rt.mono hXt.sub (hXt.stay hR.sr) hpre) o.dst hv', by rw [put_defers]; exact hR.dr.mono hpre⟩ hX0⟩
 rcases aop_ok (n0 := n0) hE hR.sr hn h (ev_ok hR.sr hR.rt) with ⟨u, w', hrun, F', Γ', H', av, hS', hv', hK, hXt, hpre⟩ | ⟨w', hrun, F', Γ', H', av, hS', hv', hK, hXt, hpre⟩ | ⟨g, vs, hrun, hcalls⟩ | ⟨b, fn, tmps, assign, body, hrun, hrounds⟩
 ·rw [hrun]
  exact hX av H' w' F' Γ' u hK ⟨hS', putT_ok (hR.rt.mono hXt.sub (hXt.stay hR.sr) hpre) o.dst hv', by rw [put_defers]; exact hR.dr.mono hpre⟩ hXt
 ·rw [hrun]
  exact hX av H' w' F' Γ' undef hK ⟨hS', putT_ok (hR.rt.mono hXt.sub (hXt.stay hR.sr) hpre) o.dst hv', by rw [put_defers]; exact hR.dr.mono hpre⟩ hXt
 ·rw [hrun]
  refine ⟨fun h => by simp [Wr, Fence.wide] at h, Wr_calls (hcalls.mono ?_)⟩
  intro e w' he
  obtain ⟨v, rfl, hx⟩ := call he
  exact hx
 ·rw [hrun]
  refine ⟨fun h => by simp [Wr, Fence.wide] at h, Wr_rounds (RoundIn.mono hrounds ?_)⟩
  intro e w' he
  obtain ⟨v, rfl, hx⟩ := call he
  exact hx
theorem linked_iff {k i : Nat} : linked ops k i = true ↔ ∃ o, ops[k]? = some o ∧ ∃ e ∈ o.after, Region.binds .any e = true ∧ e.on = i := by
 unfold linked
 cases h : ops[k]? with
 | none => simp
 | some o =>
  simp only [Option.some.injEq, exists_eq_left']
  rw [Array.any_eq_true']
  constructor
  ·rintro ⟨e, he, hb⟩
   simp at hb
   exact ⟨e, he, hb.1, hb.2⟩
  ·rintro ⟨e, he, h1, h2⟩
   exact ⟨e, he, by simp [h1, h2]⟩
structure D2 (ops : Array Oper) : Prop where
 chain : ∀ (p : Nat) j k, (tL ops)[p]? = some j → (tL ops)[p + 1]? = some k → linked ops k j = true
 back : ∀ i k, linked ops i k = true → k < i ∧ (eB ops i = true → eB ops k = true)
 dst : ∀ (i k : Nat) (o o' : Oper) d, i ≠ k → ops[i]? = some o → ops[k]? = some o' → o.dst = some d → o'.dst ≠ some d
 apt : ∀ (i k : Nat) (o o' : Oper), i ≠ k → ops[i]? = some o → ops[k]? = some o' → eB ops i = true → linked ops i k = true ∨ linked ops k i = true ∨ o.apart ops o' = true
theorem chained_get : ∀ {l : List Nat}, chained ops l = true → ∀ (p : Nat) j k, l[p]? = some j → l[p + 1]? = some k → linked ops k j = true
 | [], _, p, j, k, h, _ => by simp at h
 | [a], _, p, j, k, h, h' => by simp at h'
 | a :: b :: r, hc, p, j, k, h, h' => by
  simp only [chained, Bool.and_eq_true] at hc
  cases p with
  | zero => simp at h h'; subst h h'; exact hc.1
  | succ p => exact chained_get hc.2 p j k (by simpa using h) (by simpa using h')
theorem d2_of (h : draw2 ops = true) : D2 ops := by
 unfold draw2 at h
 simp only [Bool.and_eq_true, List.all_eq_true, List.mem_range] at h
 obtain ⟨hc, hall⟩ := h
 have each : ∀ (i : Nat) o, ops[i]? = some o → (∀ e ∈ o.after, Region.binds .any e = true → e.on < i ∧ (eB ops i = true → eB ops e.on = true)) ∧
   ∀ (k : Nat) o', ops[k]? = some o' → i ≠ k → (∀ d, o.dst = some d → o'.dst ≠ some d) ∧ (eB ops i = true → linked ops i k = true ∨ linked ops k i = true ∨ o.apart ops o' = true) := fun i o ho => by
  have hi : i < ops.size := (Array.getElem?_eq_some_iff.1 ho).1
  have := hall i hi
  rw [ho] at this
  simp only [Bool.and_eq_true, List.all_eq_true, List.mem_range] at this
  obtain ⟨h1, h2⟩ := this
  refine ⟨fun e he hb => ?_, fun k o' hk hne => ?_⟩
  ·have := (Array.all_eq_true_iff_forall_mem.1 h1) e he
   simp only [hb, Bool.not_true, Bool.false_or, Bool.and_eq_true, decide_eq_true_eq, Bool.or_eq_true, Bool.not_eq_true'] at this
   refine ⟨this.1, fun hE => ?_⟩
   rcases this.2 with h | h
   ·rw [hE] at h; cases h
   ·exact h
  ·have hk' : k < ops.size := (Array.getElem?_eq_some_iff.1 hk).1
   have := h2 k hk'
   rw [hk] at this
   simp only [Bool.or_eq_true, beq_iff_eq, Bool.and_eq_true, Bool.not_eq_true', bne_iff_ne, Option.isNone_iff_eq_none] at this
   rcases this with h | ⟨h3, h4⟩
   ·exact absurd h hne
   ·refine ⟨fun d hd hd' => ?_, fun hE => ?_⟩
    ·rcases h3 with h3 | h3
     ·rw [hd] at h3; cases h3
     ·exact h3 (by rw [hd, hd'])
    ·rcases h4 with ((h4 | h4) | h4) | h4
     ·rw [hE] at h4; cases h4
     ·exact .inl h4
     ·exact .inr (.inl h4)
     ·exact .inr (.inr h4)
 refine ⟨chained_get hc, fun i k hl => ?_, fun i k o o' d hne h1 h2 h3 => ((each i o h1).2 k o' h2 hne).1 d h3, fun i k o o' hne h1 h2 h3 => ((each i o h1).2 k o' h2 hne).2 h3⟩
 obtain ⟨o, ho, e, he, hb, rfl⟩ := linked_iff.1 hl
 exact (each i o ho).1 e he hb
theorem wantA_agree {o : Oper} {t t' : List AV} (h : ∀ d ∈ o.looksAt ops, t[d]? = t'[d]?) : wantA ops.toList o t = wantA ops.toList o t' := by
 unfold wantA
 cases hg : o.guard with
 | none => rfl
 | some gw =>
  obtain ⟨j, want⟩ := gw
  have : gval ops.toList t j = gval ops.toList t' j := by
   unfold gval
   cases hj : ops.toList[j]? with
   | none => rfl
   | some oj =>
    cases hd : oj.dst with
    | none => simp [hd]
    | some d =>
     have hm : d ∈ o.looksAt ops := by
      rw [Array.getElem?_toList] at hj
      simp [Oper.looksAt, hg, hj, hd]
     simp only [hd, List.getD_eq_getElem?_getD, h d hm]
  simp only [this]
theorem ev_agree {o : Oper} {t t' : List AV} (h : ∀ d ∈ o.looksAt ops, t[d]? = t'[d]?) : ∀ x ∈ o.op.operands, ev E t x = ev E t' x := fun x hx => by
 cases x with
 | tmp d =>
  have hm : d ∈ o.looksAt ops := List.mem_append_left _ (List.mem_filterMap.2 ⟨.tmp d, by simpa using hx, rfl⟩)
  simp only [ev, List.getD_eq_getElem?_getD, h d hm]
 | const v => rfl
 | global g => rfl
 | func f => rfl
theorem YA.agree {o : Oper} {v : AV} {t t' : List AV} (h : ∀ d ∈ o.looksAt ops, t[d]? = t'[d]?) (hy : YA E ops.toList H o v t) : YA E ops.toList H o v t' := by
 rcases hy with ⟨h1, h2, h3⟩ | ⟨h1, h2⟩
 ·have e := ev_agree (E := E) h
  exact .inl ⟨by rw [← wantA_agree h]; exact h1, h3 _ e, fun ρ hρ => h3 ρ fun x hx => (e x hx).trans (hρ x hx)⟩
 ·exact .inr ⟨by rw [← wantA_agree h]; exact h1, h2⟩
theorem mem_eL {i : Nat} : i ∈ eL ops ↔ i < ops.size ∧ eB ops i = true := by simp [eL]
theorem mem_tL {i : Nat} : i ∈ tL ops ↔ i < ops.size ∧ eB ops i = false := by simp [tL]
theorem tL_sorted : (tL ops).Pairwise (· < ·) := List.pairwise_lt_range.filter _
theorem eL_sorted : (eL ops).Pairwise (· < ·) := List.pairwise_lt_range.filter _
theorem opsAt_get : ∀ {l : List Nat}, (∀ i ∈ l, i < ops.size) → (opsAt ops l).length = l.length ∧ ∀ (p : Nat) i, l[p]? = some i → (opsAt ops l)[p]? = ops[i]?
 | [], _ => ⟨rfl, fun p i h => by simp at h⟩
 | a :: l, h => by
  obtain ⟨h1, h2⟩ := opsAt_get (l := l) (fun i hi => h i (by simp [hi]))
  have hlt : a < ops.size := h a (by simp)
  have ha : ops[a]? = some ops[a] := Array.getElem?_eq_getElem hlt
  have e : opsAt ops (a :: l) = ops[a] :: opsAt ops l := by simp [opsAt, ha]
  rw [e]
  refine ⟨by simp [h1], fun p i hp => ?_⟩
  cases p with
  | zero => simp at hp; subst hp; simp [ha]
  | succ p => simpa using h2 p i (by simpa using hp)
structure Early (E : Env) (ops : Array Oper) (H : List AObj) (t0 tq : List AV) : Prop where
 len : tq.length = t0.length
 rest : ∀ s : Nat, (∀ (i : Nat) o, ops[i]? = some o → eB ops i = true → o.dst ≠ some s) → tq[s]? = t0[s]?
 at_ : ∀ (i : Nat) o, ops[i]? = some o → eB ops i = true → ∃ v ti, YA E ops.toList H o v ti ∧ (∀ s : Nat, (∀ (k : Nat) o', k < i → ops[k]? = some o' → eB ops k = true → o'.dst ≠ some s) → ti[s]? = t0[s]?) ∧
  (∀ (k : Nat) o' s, k < i → ops[k]? = some o' → eB ops k = true → o'.dst = some s → ti[s]? = tq[s]?) ∧ (∀ d, o.dst = some d → d < t0.length → tq[d]? = some v)
theorem early_of (hD : D2 ops) {t0 tq : List AV} (h : Steps E ops.toList H (opsAt ops (eL ops)) t0 tq) : Early E ops H t0 tq := by
 have hin : ∀ i ∈ eL ops, i < ops.size := fun i hi => (mem_eL.1 hi).1
 obtain ⟨hlen, hget⟩ := opsAt_get hin
 have place : ∀ (i : Nat) o, ops[i]? = some o → eB ops i = true → ∃ p, (eL ops)[p]? = some i ∧ (opsAt ops (eL ops))[p]? = some o := fun i o ho hE => by
  have hm : i ∈ eL ops := mem_eL.2 ⟨(Array.getElem?_eq_some_iff.1 ho).1, hE⟩
  obtain ⟨p, hp⟩ := List.mem_iff_getElem?.1 hm
  exact ⟨p, hp, by rw [hget p i hp]; exact ho⟩
 have back : ∀ (p : Nat) o, (opsAt ops (eL ops))[p]? = some o → ∃ i, (eL ops)[p]? = some i ∧ ops[i]? = some o ∧ eB ops i = true := fun p o ho => by
  have hlt : p < (eL ops).length := by rw [← hlen]; exact (List.getElem?_eq_some_iff.1 ho).1
  have hp : (eL ops)[p]? = some (eL ops)[p] := List.getElem?_eq_getElem hlt
  exact ⟨_, hp, by rw [← hget p _ hp]; exact ho, (mem_eL.1 (List.getElem_mem hlt)).2⟩
 have lt_iff : ∀ {p q i k : Nat}, (eL ops)[p]? = some i → (eL ops)[q]? = some k → (q < p ↔ k < i) := fun {p q i k} hp hq => by
  obtain ⟨hp1, rfl⟩ := List.getElem?_eq_some_iff.1 hp
  obtain ⟨hq1, rfl⟩ := List.getElem?_eq_some_iff.1 hq
  have hs := List.pairwise_iff_getElem.1 (eL_sorted (ops := ops))
  constructor
  ·exact fun h => hs q p hq1 hp1 h
  ·intro h
   rcases Nat.lt_trichotomy q p with h' | h' | h'
   ·exact h'
   ·subst h'; exact absurd h (Nat.lt_irrefl _)
   ·have := hs p q hp1 hq1 h'; omega
 have hpw : (opsAt ops (eL ops)).Pairwise (fun x y => ∀ d, x.dst = some d → y.dst ≠ some d) := by
  rw [List.pairwise_iff_getElem]
  intro p q hp hq hpq d hd
  obtain ⟨i, hi, hio, _⟩ := back p _ (List.getElem?_eq_getElem hp)
  obtain ⟨k, hk, hko, _⟩ := back q _ (List.getElem?_eq_getElem hq)
  have hne : i ≠ k := by
   have := (lt_iff hk hi).1 hpq
   omega
  exact hD.dst i k _ _ d hne hio hko hd
 have hend := h.end
 refine ⟨hend.1, fun s hs => hend.2 s fun o ho => ?_, fun i o ho hE => ?_⟩
 ·obtain ⟨p, hp⟩ := List.mem_iff_getElem?.1 ho
  obtain ⟨i, _, hio, hE⟩ := back p o hp
  exact hs i o hio hE
 ·obtain ⟨p, hp, hpo⟩ := place i o ho hE
  obtain ⟨v, ti, k1, k2, k3, k4, k5⟩ := h.at hpw p o hpo
  refine ⟨v, ti, k1, fun s hs => k3 s fun q o' hq ho' => ?_, fun k o' s hk hko hkE hs => ?_, k5⟩
  ·obtain ⟨k, hk, hko, hkE⟩ := back q o' ho'
   exact hs k o' ((lt_iff hp hk).1 hq) hko hkE
  ·obtain ⟨q, hq, hqo⟩ := place k o' hko hkE
   exact k4 q o' s ((lt_iff hp hq).2 hk) hqo hs
theorem count_set {p q : Nat → Bool} {i : Nat} : ∀ {l : List Nat}, i ∈ l → p i = true → q i = false → (∀ j, q j = true → p j = true) → l.countP q < l.countP p
 | [], h, _, _, _ => by simp at h
 | a :: l, h, hp, hq, hs => by
  have le : ∀ l : List Nat, l.countP q ≤ l.countP p := fun l => List.countP_mono_left fun j _ => hs j
  rw [List.countP_cons, List.countP_cons]
  rcases List.mem_cons.1 h with rfl | h
  ·have := le l
   simp [hp, hq]; omega
  ·have := count_set h hp hq hs
   by_cases hqa : q a = true
   ·simp [hqa, hs a hqa]; omega
   ·simp [hqa]
    split <;> omega
def isL (listed : Array Bool) (k : Nat) : Prop := listed.getD k false = true
theorem isL_set {listed : Array Bool} {i k : Nat} (hi : i < listed.size) : isL (listed.setIfInBounds i true) k ↔ k = i ∨ isL listed k := by
 unfold isL
 by_cases h : i = k
 ·subst h; simp [Array.getD_eq_getD_getElem?, hi]
 ·rw [getD_set_ne_bool h]
  constructor
  ·exact fun h' => .inr h'
  ·rintro (rfl | h')
   ·exact absurd rfl h
   ·exact h'
theorem draw2_run (hE : EnvOk E) (hD : D2 ops) {ro : Option Nat} {n : Nat} {Q : Exit → Act → World → Prop} {K : K3} {t0 tq : List AV} {ds : List Nat} :
  ∀ (fuel : Nat) (listed : Array Bool) (m : Nat) (tS tc : List AV) (H : List AObj), listed.size = ops.size → (List.range ops.size).countP (fun k => !listed.getD k false) ≤ fuel →
   (∀ (p : Nat) k, (tL ops)[p]? = some k → (isL listed k ↔ p < m)) → tS.length = t0.length → tc.length = t0.length →
   (∀ s : Nat, (∀ (k : Nat) o, ops[k]? = some o → isL listed k → o.dst ≠ some s) → tS[s]? = t0[s]?) →
   (∀ (k : Nat) o s, ops[k]? = some o → eB ops k = true → isL listed k → o.dst = some s → tS[s]? = tq[s]?) →
   (∀ s : Nat, (∀ (k : Nat) o, ops[k]? = some o → eB ops k = true → ¬ isL listed k → o.dst ≠ some s) → tc[s]? = tS[s]?) →
   (∀ k i, isL listed k → linked ops k i = true → isL listed i) →
   (∀ (k : Nat) o s, ops[k]? = some o → eB ops k = true → o.dst = some s → tc[s]? = tq[s]?) →
   Early E ops H t0 tq → atail E ops.toList (opsAt ops (eL ops)) t0 tq (opsAt ops ((tL ops).drop m)) K tc H ds →
   ∀ (w : World) (F : Nat → Prop) (Γ : List Slot) (a : Act), Rel E w F Γ tS H ds a → n0 ≤ Γ.length → (∀ a' w', Lat E n0 w F Γ H K a' w' → Q .normal a' w') →
    wpAnyIn (Wr ro) n E.P .any ops Q fuel listed a w := by
 have getF : ∀ {listed : Array Bool}, listed.size = ops.size → ∀ {k : Nat}, k < ops.size → listed.getD k true = listed.getD k false := fun {listed} hs {k} hk => by
  simp [Array.getD_eq_getD_getElem?, hs ▸ hk]
 intro fuel
 induction fuel with
 | zero =>
  intro listed m tS tc H A1 A0 A2 A3 A3' A4 A5 A6 A7 A8 hEar hC w F Γ a hR hn hQ
  have all : ∀ k, k < ops.size → isL listed k := fun k hk => by
   have h0 : (List.range ops.size).countP (fun k => !listed.getD k false) = 0 := by omega
   have := List.countP_eq_zero.1 h0 k (List.mem_range.2 hk)
   simpa [isL] using this
  refine ⟨?_, ?_⟩
  ·rw [List.eq_nil_iff_forall_not_mem]
   intro j hj
   obtain ⟨hun, o, ho, _⟩ := mem_ready.1 hj
   have hlt := (Array.getElem?_eq_some_iff.1 ho).1
   rw [getF A1 hlt] at hun
   have := all j hlt
   unfold isL at this
   rw [this] at hun; cases hun
  ·have hm : (tL ops).drop m = [] := by
    rw [List.drop_eq_nil_iff]
    rcases Nat.lt_or_ge m (tL ops).length with h | h
    ·have hp : (tL ops)[m]? = some (tL ops)[m] := List.getElem?_eq_getElem h
     exact absurd ((A2 m _ hp).1 (all _ (mem_tL.1 (List.getElem_mem h)).1)) (Nat.lt_irrefl _)
    ·exact h
   rw [hm] at hC
   have e : tc = tS := List.ext_getElem? fun s => A6 s fun k o hk _ hnl => absurd (all k (Array.getElem?_eq_some_iff.1 hk).1) hnl
   subst e
   exact hQ a w ⟨F, Γ, tc, H, ds, hR, Ext.refl hn, hC⟩
 | succ fuel ih =>
  intro listed m tS tc H A1 A0 A2 A3 A3' A4 A5 A6 A7 A8 hEar hC w F Γ a hR hn hQ
  refine ⟨fun hnil => ?_, fun i hi => ?_⟩
  ·have all : ∀ k, k < ops.size → isL listed k := by
    intro k
    induction k using Nat.strongRecOn with
    | _ k ihk =>
     intro hk
     by_cases hl : isL listed k
     ·exact hl
     ·exfalso
      have ho : ops[k]? = some ops[k] := Array.getElem?_eq_getElem hk
      have hm : k ∈ Region.ready .any ops listed := by
       rw [mem_ready]
       refine ⟨?_, ops[k], ho, fun e he hb => ?_⟩
       ·rw [getF A1 hk]
        unfold isL at hl
        simpa using hl
       ·have hlk : linked ops k e.on = true := linked_iff.2 ⟨_, ho, e, he, hb, rfl⟩
        have hlt := (hD.back k e.on hlk).1
        exact ihk e.on hlt (by omega)
      rw [hnil] at hm
      cases hm
   have hm : (tL ops).drop m = [] := by
    rw [List.drop_eq_nil_iff]
    rcases Nat.lt_or_ge m (tL ops).length with h | h
    ·have hp : (tL ops)[m]? = some (tL ops)[m] := List.getElem?_eq_getElem h
     exact absurd ((A2 m _ hp).1 (all _ (mem_tL.1 (List.getElem_mem h)).1)) (Nat.lt_irrefl _)
    ·exact h
   rw [hm] at hC
   have e : tc = tS := List.ext_getElem? fun s => A6 s fun k o hk _ hnl => absurd (all k (Array.getElem?_eq_some_iff.1 hk).1) hnl
   subst e
   exact hQ a w ⟨F, Γ, tc, H, ds, hR, Ext.refl hn, hC⟩
  ·obtain ⟨hun, o, ho, hdeps⟩ := mem_ready.1 hi
   have hlt : i < ops.size := (Array.getElem?_eq_some_iff.1 ho).1
   rw [getF A1 hlt] at hun
   have hnl : ¬ isL listed i := fun h => by unfold isL at h; rw [h] at hun; cases hun
   have deps : ∀ k, linked ops i k = true → isL listed k := fun k hk => by
    obtain ⟨o', ho', e, he, hb, rfl⟩ := linked_iff.1 hk
    rw [ho] at ho'
    obtain rfl := Option.some.inj ho'
    exact hdeps e he hb
   have hsetL : ∀ {k : Nat}, isL (listed.setIfInBounds i true) k ↔ k = i ∨ isL listed k := fun {k} => isL_set (by omega)
   have B1 : (listed.setIfInBounds i true).size = ops.size := by simp [A1]
   have B0 : (List.range ops.size).countP (fun k => !(listed.setIfInBounds i true).getD k false) ≤ fuel := by
    have := count_set (p := fun k => !listed.getD k false) (q := fun k => !(listed.setIfInBounds i true).getD k false) (i := i) (List.mem_range.2 hlt) (by simp [hun])
     (by have := (hsetL (k := i)).2 (.inl rfl); unfold isL at this; simp [this]) (fun j hj => by
      by_cases hjl : isL listed j
      ·have := (hsetL (k := j)).2 (.inr hjl)
       unfold isL at this
       simp [this] at hj
      ·unfold isL at hjl; simpa using hjl)
    omega
   have B7 : ∀ k j, isL (listed.setIfInBounds i true) k → linked ops k j = true → isL (listed.setIfInBounds i true) j := fun k j hk hl => by
    rcases hsetL.1 hk with rfl | hk
    ·exact hsetL.2 (.inr (deps j hl))
    ·exact hsetL.2 (.inr (A7 k j hk hl))
   have B4 : ∀ v, ∀ s : Nat, (∀ (k : Nat) o, ops[k]? = some o → isL (listed.setIfInBounds i true) k → o.dst ≠ some s) → (putT tS o.dst v)[s]? = t0[s]? := fun v s hs => by
    rw [putT_ne (hs i o ho (hsetL.2 (.inl rfl)))]
    exact A4 s fun k o' hk hl => hs k o' hk (hsetL.2 (.inr hl))
   unfold wpOpIn
   simp only [ho]
   cases hEi : eB ops i with
   | true =>
    obtain ⟨v, ti, y, r1, r2, r3⟩ := hEar.at_ i o ho hEi
    have agree : ∀ d ∈ o.looksAt ops, ti[d]? = tS[d]? := fun d hd => by
     by_cases hex : ∃ (k : Nat) (o' : Oper), ops[k]? = some o' ∧ o'.dst = some d
     ·obtain ⟨k, o', hk, hdk⟩ := hex
      have only : ∀ (k' : Nat) o'', ops[k']? = some o'' → o''.dst = some d → k' = k := fun k' o'' hk' hd' => by
       by_cases hne : k' = k
       ·exact hne
       ·exact absurd hdk (hD.dst k' k o'' o' d hne hk' hk hd')
      by_cases hki : k = i
      ·subst hki
       rw [r1 d (fun k' o'' hlt' hk' _ hd' => by have := only k' o'' hk' hd'; omega), A4 d (fun k' o'' hk' hl hd' => hnl (by rw [← only k' o'' hk' hd']; exact hl))]
      ·rcases hD.apt i k o o' (Ne.symm hki) ho hk hEi with hl | hl | hap
       ·obtain ⟨hki', hEk⟩ := hD.back i k hl
        rw [r2 k o' d hki' hk (hEk hEi) hdk, A5 k o' d hk (hEk hEi) (deps k hl) hdk]
       ·have hik := (hD.back k i hl).1
        have hknl : ¬ isL listed k := fun h => hnl (A7 k i h hl)
        rw [r1 d (fun k' o'' hlt' hk' _ hd' => by have := only k' o'' hk' hd'; omega), A4 d (fun k' o'' hk' hl' hd' => hknl (by rw [← only k' o'' hk' hd']; exact hl'))]
       ·exact absurd hd ((Oper.apart_spec hap).2.2 d hdk)
     ·rw [r1 d (fun k' o'' _ hk' _ hd' => hex ⟨k', o'', hk', hd'⟩), A4 d (fun k' o'' hk' _ hd' => hex ⟨k', o'', hk', hd'⟩)]
    refine quiet_run hE (y.agree agree) hR hn (fun w' F' Γ' u hR' hX => ih _ m _ tc H B1 B0 (fun p k hp => ?_) (by rw [putT_length]; exact A3) A3' (B4 v) (fun k o' s hk hEk hl hs => ?_) (fun s hs => ?_) B7 A8 hEar hC w' F' Γ' _ hR' hX.nlen
     (fun a' w'' ⟨F2, Γ2, t2, H2, ds2, hR2, hX2, hK⟩ => hQ a' w'' ⟨F2, Γ2, t2, H2, ds2, hR2, hX.trans (Nat.le_refl _) hX2, hK⟩))
    ·rw [hsetL, ← A2 p k hp]
     have hEk := (mem_tL.1 (List.mem_of_getElem? hp)).2
     constructor
     ·rintro (rfl | h)
      ·rw [hEi] at hEk; cases hEk
      ·exact h
     ·exact fun h => .inr h
    ·by_cases hki : k = i
     ·subst hki
      rw [ho] at hk
      obtain rfl := Option.some.inj hk
      rw [hs]
      rcases Nat.lt_or_ge s t0.length with hsl | hsl
      ·rw [putT_self (by omega), r3 s hs hsl]
      ·rw [List.getElem?_eq_none (by rw [putT_length]; omega), List.getElem?_eq_none (by rw [hEar.len]; omega)]
     ·rw [putT_ne (fun h => hD.dst i k o o' s (Ne.symm hki) ho hk h hs)]
      rcases hsetL.1 hl with h | h
      ·exact absurd h hki
      ·exact A5 k o' s hk hEk h hs
    ·by_cases hos : o.dst = some s
     ·rw [A8 i o s ho hEi hos, hos]
      rcases Nat.lt_or_ge s t0.length with hsl | hsl
      ·rw [putT_self (by omega), r3 s hos hsl]
      ·rw [List.getElem?_eq_none (l := putT _ _ _) (by rw [putT_length]; omega), List.getElem?_eq_none (by rw [hEar.len]; omega)]
     ·rw [putT_ne hos]
      refine A6 s fun k o' hk hEk hl => ?_
      by_cases hki : k = i
      ·subst hki
       rw [ho] at hk
       obtain rfl := Option.some.inj hk
       exact hos
      ·exact hs k o' hk hEk fun h => by
        rcases hsetL.1 h with h | h
        ·exact hki h
        ·exact hl h
   | false =>
    obtain ⟨p, hp⟩ := List.mem_iff_getElem?.1 (mem_tL.2 ⟨hlt, hEi⟩)
    have hpm : p = m := by
     rcases Nat.lt_trichotomy p m with h | h | h
     ·exact absurd ((A2 p i hp).2 h) hnl
     ·exact h
     ·exfalso
      have hpl : p < (tL ops).length := (List.getElem?_eq_some_iff.1 hp).1
      have hq : (tL ops)[p - 1]? = some ((tL ops)[p - 1]'(by omega)) := List.getElem?_eq_getElem (by omega)
      have hl := hD.chain (p - 1) _ i hq (by rw [show p - 1 + 1 = p by omega]; exact hp)
      have := (A2 (p - 1) _ hq).1 (deps _ hl)
      omega
    subst hpm
    have hdrop : (tL ops).drop p = i :: (tL ops).drop (p + 1) := by
     obtain ⟨h1, h2⟩ := List.getElem?_eq_some_iff.1 hp
     rw [List.drop_eq_getElem_cons h1, h2]
    have hops : opsAt ops ((tL ops).drop p) = o :: opsAt ops ((tL ops).drop (p + 1)) := by rw [hdrop]; simp [opsAt, ho]
    rw [hops] at hC
    have agree : ∀ d ∈ o.looksAt ops, tc[d]? = tS[d]? := fun d hd => A6 d fun k o' hk hEk hl hdk => by
     have hki : k ≠ i := fun e => by subst e; rw [hEi] at hEk; cases hEk
     rcases hD.apt k i o' o hki hk ho hEk with h | h | h
     ·have := (hD.back k i h).2 hEk; rw [hEi] at this; cases this
     ·exact hl (deps k h)
     ·exact (Oper.apart_spec h).1 d hdk hd
    have next : ∀ (v : AV) (H' : List AObj) (w' : World) (F' : Nat → Prop) (Γ' : List Slot) (a' : Act), Early E ops H' t0 tq → atail E ops.toList (opsAt ops (eL ops)) t0 tq (opsAt ops ((tL ops).drop (p + 1))) K (putT tc o.dst v) H' ds →
      Rel E w' F' Γ' (putT tS o.dst v) H' ds a' → Ext n0 w F Γ H w' F' Γ' H' → wpAnyIn (Wr ro) n E.P .any ops Q fuel (listed.setIfInBounds i true) a' w' := fun v H' w' F' Γ' a' hEar' hC' hR' hX =>
     ih _ (p + 1) _ (putT tc o.dst v) H' B1 B0 (fun q k hq => by
      rw [hsetL, A2 q k hq]
      constructor
      ·rintro (rfl | h)
       ·obtain ⟨h1, h2⟩ := List.getElem?_eq_some_iff.1 hp
        obtain ⟨h3, h4⟩ := List.getElem?_eq_some_iff.1 hq
        have hs := List.pairwise_iff_getElem.1 (tL_sorted (ops := ops))
        rcases Nat.lt_trichotomy q p with h | h | h
        ·omega
        ·omega
        ·have := hs p q h1 h3 h; omega
       ·omega
      ·intro h
       rcases Nat.lt_or_ge q p with h' | h'
       ·exact .inr h'
       ·have : q = p := by omega
        subst this
        rw [hp] at hq
        exact .inl (Option.some.inj hq).symm)
      (by rw [putT_length]; exact A3) (by rw [putT_length]; exact A3') (B4 v)
      (fun k o' s hk hEk hl hs => by
       have hki : k ≠ i := fun e => by subst e; rw [hEi] at hEk; cases hEk
       rw [putT_ne (fun h => hD.dst i k o o' s (Ne.symm hki) ho hk h hs)]
       rcases hsetL.1 hl with h | h
       ·exact absurd h hki
       ·exact A5 k o' s hk hEk h hs)
      (fun s hs => by
       by_cases hos : o.dst = some s
       ·rw [hos]
        rcases Nat.lt_or_ge s t0.length with hsl | hsl
        ·rw [putT_self (by omega), putT_self (by omega)]
        ·rw [List.getElem?_eq_none (by rw [putT_length]; omega), List.getElem?_eq_none (by rw [putT_length]; omega)]
       ·rw [putT_ne hos, putT_ne hos]
        refine A6 s fun k o' hk hEk hl => hs k o' hk hEk fun h => ?_
        rcases hsetL.1 h with h | h
        ·subst h; rw [hEi] at hEk; cases hEk
        ·exact hl h)
      B7 (fun k o' s hk hEk hs => by
       have hki : k ≠ i := fun e => by subst e; rw [hEi] at hEk; cases hEk
       rw [putT_ne (fun h => hD.dst i k o o' s (Ne.symm hki) ho hk h hs)]
       exact A8 k o' s hk hEk hs)
      hEar' hC' w' F' Γ' a' hR' hX.nlen (fun a'' w'' ⟨F2, Γ2, t2, H2, ds2, hR2, hX2, hK⟩ => hQ a'' w'' ⟨F2, Γ2, t2, H2, ds2, hR2, hX.trans (Nat.le_refl _) hX2, hK⟩)
    have go : aop E o.op (ev E tc) H (fun v H' => adraw E ops.toList (opsAt ops (eL ops)) (fun t' _ _ => t' = tq) t0 H' ds ∧ atail E ops.toList (opsAt ops (eL ops)) t0 tq (opsAt ops ((tL ops).drop (p + 1))) K (putT tc o.dst v) H' ds)
      (fun v H' => adraw E ops.toList (opsAt ops (eL ops)) (fun t' _ _ => t' = tq) t0 H' ds ∧ atail E ops.toList (opsAt ops (eL ops)) t0 tq (opsAt ops ((tL ops).drop (p + 1))) K (putT tc o.dst v) H' ds) →
      o.wpIn (Wr ro) n E.P a w (wpAnyIn (Wr ro) n E.P .any ops Q fuel (listed.setIfInBounds i true)) Q := fun h => by
     rw [aop_congr (ev_agree agree)] at h
     refine op_run hE hR hn h fun v H' w' F' Γ' u ⟨hre, hrest⟩ hR' hX => ?_
     obtain ⟨tq', hst, rfl⟩ := adraw_steps hre
     exact next v H' w' F' Γ' _ (early_of hD hst) hrest hR' hX
    unfold atail at hC
    cases hg : o.guard with
    | none =>
     rw [hg] at hC
     rw [if_pos (by simp [Region.wanted, hg])]
     exact go hC
    | some gw =>
     obtain ⟨j, want⟩ := gw
     rw [hg] at hC
     simp only at hC
     split at hC <;> try exact hC.elim
     rotate_left
     ·rename_i d hgv
      have hwA : wantA ops.toList o tS = some false := by
       rw [← wantA_agree agree]
       simp [wantA, hg, hgv]
      rw [if_neg (by rw [wanted_of hR.rt hwA]; simp)]
      refine ⟨fun f _ => trivial, ?_⟩
      exact next udf H w F Γ _ hEar hC ⟨hR.sr, putT_ok hR.rt o.dst udf_ok, by rw [put_defers]; exact hR.dr⟩ (Ext.refl hn)
     rename_i d b hgv
     have hwA : wantA ops.toList o tS = some (b == want) := by
      rw [← wantA_agree agree]
      simp [wantA, hg, hgv]
     have hwd := wanted_of hR.rt hwA
     by_cases hb : (b == want) = true
     ·rw [if_pos (by rw [hwd]; exact hb)]
      exact go (hC.1 hb)
     ·rw [if_neg (by rw [hwd]; exact hb)]
      refine ⟨fun f _ => trivial, ?_⟩
      exact next udf H w F Γ _ hEar (hC.2 (by simpa using hb)) ⟨hR.sr, putT_ok hR.rt o.dst udf_ok, by rw [put_defers]; exact hR.dr⟩ (Ext.refl hn)
theorem draw2_ok (hE : EnvOk E) {ro : Option Nat} {n id : Nat} {Q : Exit → Act → World → Prop} {K : K3} {t : List AV} {ds : List Nat} {a : Act} (hB : draw2 ops = true)
  (h : adraw E ops.toList (opsAt ops (eL ops)) (fun tq H ds => atail E ops.toList (opsAt ops (eL ops)) t tq (opsAt ops (tL ops)) K tq H ds) t H ds) (hR : Rel E w F Γ t H ds a) (hn : n0 ≤ Γ.length)
  (hQ : ∀ a' w', Lat E n0 w F Γ H K a' w' → Q .normal a' w') : (Code.region id ops true).wpIn (Wr ro) n E.P Q a w := by
 have hD := d2_of hB
 obtain ⟨tq, hst, hC⟩ := adraw_steps h
 have hEar := early_of hD hst
 have hR1 : Rel E { w with drawn := w.drawn + 1 } F Γ t H ds a := ⟨sr_drew hR.sr, @RT.mono w { w with drawn := w.drawn + 1 } F F Γ Γ (fun _ h => h) (fun _ _ => rfl) (fun _ _ h => h) t a.tmps hR.rt, hR.dr⟩
 refine wpIn_region_any hE.mixed ?_
 have hnone : ∀ k, ¬ isL (Array.replicate ops.size false) k := fun k h => by
  unfold isL at h
  rw [Array.getD_eq_getD_getElem?, Array.getElem?_replicate] at h
  split at h <;> simp at h
 refine draw2_run (n0 := n0) (t0 := t) (tq := tq) (K := K) hE hD ops.size _ 0 t tq H (by simp) ?_ (fun p k _ => ⟨fun h => absurd h (hnone k), fun h => absurd h (by omega)⟩) rfl hEar.len (fun s _ => rfl)
  (fun k o s _ _ hl _ => absurd hl (hnone k)) (fun s hs => hEar.rest s fun k o hk hEk => hs k o hk hEk (hnone k)) (fun k i hl _ => absurd hl (hnone k)) (fun k o s _ _ _ => rfl) hEar (by simpa using hC) _ F Γ a hR1 hn
  (fun a' w' ⟨F2, Γ2, t2, H2, ds2, hR2, hX2, hK⟩ => hQ a' w' ⟨F2, Γ2, t2, H2, ds2, hR2, (ext_drew hn).trans (Nat.le_refl _) hX2, hK⟩)
 have := List.countP_le_length (p := fun k => !(Array.replicate ops.size false).getD k false) (l := List.range ops.size)
 simpa using this
end
end Go.Abs
end
section
set_option autoImplicit false
set_option linter.unusedVariables false
set_option linter.unusedSimpArgs false
namespace Go.Abs
def backB (ops : Array Oper) : Bool := (List.range ops.size).all fun i => match ops[i]? with
 | none => false
 | some o => o.after.all fun e => !Region.binds .any e || decide (e.on < i)
def setL' (L : Nat → Bool) (i : Nat) : Nat → Bool := fun k => if k = i then true else L k
def AAny (E : Env) (ops : Array Oper) (K : K3) : K3 := fun t H ds => ∃ I : (Nat → Bool) → K3, I (fun _ => false) t H ds ∧
 (∀ L t H ds, I L t H ds → (∀ i, i < ops.size → L i = true) → K t H ds) ∧
 ∀ L t H ds (i : Nat) o, I L t H ds → ops[i]? = some o → L i = false → (∀ e ∈ o.after, Region.binds .any e = true → L e.on = true) →
  (∃ v, YA E ops.toList H o v t ∧ I (setL' L i) (putT t o.dst v) H ds) ∨
  (wantA ops.toList o t = some true ∧ ∃ Kv : AV → List AObj → Prop, aop E o.op (ev E t) H Kv Kv ∧ ∀ v H', Kv v H' → I (setL' L i) (putT t o.dst v) H' ds)
section
variable {E : Env} {n0 : Nat} {ops : Array Oper}
theorem any_run (hE : EnvOk E) (hB : backB ops = true) {ro : Option Nat} {n : Nat} {Q : Exit → Act → World → Prop} {K : K3} {I : (Nat → Bool) → K3}
  (hend : ∀ L t H ds, I L t H ds → (∀ i, i < ops.size → L i = true) → K t H ds)
  (hstep : ∀ L t H ds (i : Nat) o, I L t H ds → ops[i]? = some o → L i = false → (∀ e ∈ o.after, Region.binds .any e = true → L e.on = true) →
   (∃ v, YA E ops.toList H o v t ∧ I (setL' L i) (putT t o.dst v) H ds) ∨
   (wantA ops.toList o t = some true ∧ ∃ Kv : AV → List AObj → Prop, aop E o.op (ev E t) H Kv Kv ∧ ∀ v H', Kv v H' → I (setL' L i) (putT t o.dst v) H' ds)) :
  ∀ (fuel : Nat) (listed : Array Bool) (t : List AV) (H : List AObj) (ds : List Nat), listed.size = ops.size → (List.range ops.size).countP (fun k => !listed.getD k false) ≤ fuel →
   I (fun k => listed.getD k false) t H ds →
   ∀ (w : World) (F : Nat → Prop) (Γ : List Slot) (a : Act), Rel E w F Γ t H ds a → n0 ≤ Γ.length → (∀ a' w', Lat E n0 w F Γ H K a' w' → Q .normal a' w') →
    wpAnyIn (Wr ro) n E.P .any ops Q fuel listed a w := by
 have back : ∀ (k : Nat) o, ops[k]? = some o → ∀ e ∈ o.after, Region.binds .any e = true → e.on < k := fun k o ho => by
  have hk := (Array.getElem?_eq_some_iff.1 ho).1
  have := List.all_eq_true.1 hB k (List.mem_range.2 hk)
  rw [ho] at this
  simp only [Array.all_eq_true_iff_forall_mem, Bool.or_eq_true, Bool.not_eq_true', decide_eq_true_eq] at this
  exact fun e he hb => (this e he).resolve_left (by rw [hb]; simp)
 have getF : ∀ {listed : Array Bool}, listed.size = ops.size → ∀ {k : Nat}, k < ops.size → listed.getD k true = listed.getD k false := fun {listed} hs {k} hk => by
  simp [Array.getD_eq_getD_getElem?, hs ▸ hk]
 intro fuel
 induction fuel with
 | zero =>
  intro listed t H ds A1 A0 hI w F Γ a hR hn hQ
  have all : ∀ k, k < ops.size → listed.getD k false = true := fun k hk => by
   have h0 : (List.range ops.size).countP (fun k => !listed.getD k false) = 0 := by omega
   have := List.countP_eq_zero.1 h0 k (List.mem_range.2 hk)
   simpa using this
  refine ⟨?_, hQ a w ⟨F, Γ, t, H, ds, hR, Ext.refl hn, hend _ t H ds hI all⟩⟩
  rw [List.eq_nil_iff_forall_not_mem]
  intro j hj
  obtain ⟨hun, o, ho, _⟩ := mem_ready.1 hj
  have hlt := (Array.getElem?_eq_some_iff.1 ho).1
  rw [getF A1 hlt, all j hlt] at hun
  cases hun
 | succ fuel ih =>
  intro listed t H ds A1 A0 hI w F Γ a hR hn hQ
  refine ⟨fun hnil => ?_, fun i hi => ?_⟩
  ·have all : ∀ k, k < ops.size → listed.getD k false = true := by
    intro k
    induction k using Nat.strongRecOn with
    | _ k ihk =>
     intro hk
     by_cases hl : listed.getD k false = true
     ·exact hl
     ·exfalso
      have ho : ops[k]? = some ops[k] := Array.getElem?_eq_getElem hk
      have hm : k ∈ Region.ready .any ops listed := by
       rw [mem_ready]
       refine ⟨?_, ops[k], ho, fun e he hb => ?_⟩
       ·rw [getF A1 hk]; simpa using hl
       ·have hlt := back k _ ho e he hb
        exact ihk e.on hlt (by omega)
      rw [hnil] at hm
      cases hm
   exact hQ a w ⟨F, Γ, t, H, ds, hR, Ext.refl hn, hend _ t H ds hI all⟩
  ·obtain ⟨hun, o, ho, hdeps⟩ := mem_ready.1 hi
   have hlt : i < ops.size := (Array.getElem?_eq_some_iff.1 ho).1
   rw [getF A1 hlt] at hun
   have hset : (fun k => (listed.setIfInBounds i true).getD k false) = setL' (fun k => listed.getD k false) i := by
    funext k
    unfold setL'
    by_cases hk : k = i
    ·subst hk; simp [Array.getD_eq_getD_getElem?, A1, hlt]
    ·rw [if_neg hk]
     simp [Array.getD_eq_getD_getElem?, Array.getElem?_setIfInBounds_ne (Ne.symm hk)]
   have B0 : (List.range ops.size).countP (fun k => !(listed.setIfInBounds i true).getD k false) ≤ fuel := by
    have hs : ∀ k, (listed.setIfInBounds i true).getD k false = if k = i then true else listed.getD k false := fun k => congrFun hset k
    have := count_set (p := fun k => !listed.getD k false) (q := fun k => !(listed.setIfInBounds i true).getD k false) (i := i) (List.mem_range.2 hlt) (by simp [hun])
     (by simp [hs]) (fun j hj => by
      rw [hs] at hj
      split at hj
      ·simp at hj
      ·exact hj)
    omega
   unfold wpOpIn
   simp only [ho]
   have next : ∀ (v : AV) (H' : List AObj) (w' : World) (F' : Nat → Prop) (Γ' : List Slot) (a' : Act), I (setL' (fun k => listed.getD k false) i) (putT t o.dst v) H' ds →
     Rel E w' F' Γ' (putT t o.dst v) H' ds a' → Ext n0 w F Γ H w' F' Γ' H' → wpAnyIn (Wr ro) n E.P .any ops Q fuel (listed.setIfInBounds i true) a' w' := fun v H' w' F' Γ' a' hI' hR' hX =>
    ih _ (putT t o.dst v) H' ds (by simp [A1]) B0 (by rw [hset]; exact hI') w' F' Γ' a' hR' hX.nlen (fun a'' w'' ⟨F2, Γ2, t2, H2, ds2, hR2, hX2, hK⟩ => hQ a'' w'' ⟨F2, Γ2, t2, H2, ds2, hR2, hX.trans (Nat.le_refl _) hX2, hK⟩)
   rcases hstep _ t H ds i o hI ho hun hdeps with ⟨v, hy, hI'⟩ | ⟨hg, Kv, hop, hKv⟩
   ·exact quiet_run hE hy hR hn fun w' F' Γ' u hR' hX => next v H w' F' Γ' _ hI' hR' hX
   ·rw [if_pos (wanted_of hR.rt hg)]
    exact op_run hE hR hn hop fun v H' w' F' Γ' u hI' hR' hX => next v H' w' F' Γ' _ (hKv v H' hI') hR' hX
theorem any_ok (hE : EnvOk E) {w : World} {F : Nat → Prop} {Γ : List Slot} {H : List AObj} {ro : Option Nat} {n id : Nat} {Q : Exit → Act → World → Prop} {K : K3} {t : List AV} {ds : List Nat} {a : Act} (hB : backB ops = true)
  (h : AAny E ops K t H ds) (hR : Rel E w F Γ t H ds a) (hn : n0 ≤ Γ.length)
  (hQ : ∀ a' w', Lat E n0 w F Γ H K a' w' → Q .normal a' w') : (Code.region id ops true).wpIn (Wr ro) n E.P Q a w := by
 obtain ⟨I, h0, h1, h2⟩ := h
 have hR1 : Rel E { w with drawn := w.drawn + 1 } F Γ t H ds a := ⟨sr_drew hR.sr, @RT.mono w { w with drawn := w.drawn + 1 } F F Γ Γ (fun _ h => h) (fun _ _ => rfl) (fun _ _ h => h) t a.tmps hR.rt, hR.dr⟩
 refine wpIn_region_any hE.mixed ?_
 have hnone : (fun k => (Array.replicate ops.size false).getD k false) = fun _ => false := by
  funext k
  rw [Array.getD_eq_getD_getElem?, Array.getElem?_replicate]
  split <;> simp
 refine any_run (n0 := n0) hE hB h1 h2 ops.size _ t H ds (by simp) ?_ (by rw [hnone]; exact h0) _ F Γ a hR1 hn
  (fun a' w' ⟨F2, Γ2, t2, H2, ds2, hR2, hX2, hK⟩ => hQ a' w' ⟨F2, Γ2, t2, H2, ds2, hR2, (ext_drew hn).trans (Nat.le_refl _) hX2, hK⟩)
 have := List.countP_le_length (p := fun k => !(Array.replicate ops.size false).getD k false) (l := List.range ops.size)
 simpa using this
end
end Go.Abs
end
section
set_option autoImplicit false
set_option linter.unusedVariables false
set_option linter.unusedSimpArgs false
namespace Go.Abs
def reqs (ops : Array Oper) : Nat → List (List Nat)
 | 0 => []
 | n + 1 => reqs ops n ++ [(List.range n).filter fun i => linked ops n i || (List.range n).any fun j => linked ops n j && ((reqs ops n).getD j []).contains i]
def rq (ops : Array Oper) (k i : Nat) : Bool := ((reqs ops ops.size).getD k []).contains i
def levA (q : Nat → Bool) : List Nat → Nat → Nat → Nat
 | [], _, acc => acc
 | e :: r, p, acc => levA q r (p + 1) (if q e then p + 1 else acc)
def lev (ops : Array Oper) (es : List Nat) (i : Nat) : Nat := levA (rq ops i) es 0 0
def lvL (ops : Array Oper) (es : List Nat) (m : Nat) : List Nat := (List.range ops.size).filter fun i => !es.contains i && lev ops es i == m
def reL (ops : Array Oper) (es : List Nat) (m e : Nat) : List Nat := (List.range ops.size).filter fun i => !es.contains i && decide (lev ops es i ≤ m) && !rq ops e i
def planF (ops : Array Oper) (es : List Nat) : Nat → List Nat → List (Nat × List Nat × List Nat)
 | _, [] => []
 | m, e :: r => (e, reL ops es m e, lvL ops es (m + 1)) :: planF ops es (m + 1) r
def ok3 (ops : Array Oper) (es : List Nat) : Bool :=
 ((List.range ops.size).all fun i => match ops[i]? with
  | none => false
  | some o => o.after.all (fun e => !Region.binds .any e || decide (e.on < i)) &&
   (List.range ops.size).all fun k => match ops[k]? with
    | none => true
    | some o' => i == k || ((o.dst.isNone || o.dst != o'.dst) && (match o'.dst with
     | none => true
     | some d => !(o.looksAt ops).contains d || linked ops i k || linked ops k i))) &&
 es.all (fun e => decide (e < ops.size)) &&
 ((List.range es.length).all fun p => match es[p]?, es[p + 1]? with
  | some e, some e' => rq ops e' e
  | _, _ => true) &&
 (List.range es.length).all fun m => match es[m]? with
  | none => true
  | some e => (reL ops es m e).all fun i => match ops[i]? with
   | none => true
   | some o => (List.range ops.size).all fun k => match ops[k]? with
    | none => true
    | some o' => match o'.dst with
     | none => true
     | some d => !(o.looksAt ops).contains d || linked ops i k
def dgd (E : Env) (opl : List Oper) (o : Oper) (Kv : AV → List AObj → Prop) (t : List AV) (H : List AObj) : Prop := match o.guard with
 | none => aop E o.op (ev E t) H Kv Kv
 | some (j, want) => match gval opl t j with
  | some (_, .d (.bool b)) => Br (b == want) (aop E o.op (ev E t) H Kv Kv) (Kv udf H)
  | some (_, .d (.tup [])) => Kv udf H
  | _ => False
theorem dgd_or {E : Env} {opl : List Oper} {o : Oper} {Kv : AV → List AObj → Prop} {t : List AV} {H : List AObj} (h : dgd E opl o Kv t H) : (wantA opl o t = some true ∧ aop E o.op (ev E t) H Kv Kv) ∨ (wantA opl o t = some false ∧ Kv udf H) := by
 unfold dgd at h
 unfold wantA
 cases hg : o.guard with
 | none => rw [hg] at h; exact .inl ⟨rfl, h⟩
 | some gw =>
  obtain ⟨j, want⟩ := gw
  rw [hg] at h
  simp only at h ⊢
  split at h <;> try exact h.elim
  rotate_left
  ·rename_i d hgv
   try rw [hgv]
   exact .inr ⟨rfl, h⟩
  ·rename_i d b hgv
   try rw [hgv]
   cases hb : b == want with
   | true => exact .inl ⟨by simp [hb], h.1 hb⟩
   | false => exact .inr ⟨by simp [hb], h.2 hb⟩
def dgo (E : Env) (opl : List Oper) : List (Nat × List Nat × List Nat) → K3 → K3
 | [], K, t, H, ds => K t H ds
 | (e, r, l) :: p, K, t, H, ds => match opl[e]? with
  | some o => dgd E opl o (fun v H' => adraw E opl (opsAt opl.toArray r) (fun t' _ _ => t' = putT t o.dst v) (putT t o.dst v) H' ds ∧ adraw E opl (opsAt opl.toArray l) (dgo E opl p K) (putT t o.dst v) H' ds) t H
  | none => False
section
variable {ops : Array Oper} {es : List Nat}
theorem reqs_len : ∀ n, (reqs ops n).length = n
 | 0 => rfl
 | n + 1 => by simp [reqs, reqs_len n]
theorem reqs_stay {k : Nat} : ∀ {m : Nat}, k < m → (reqs ops m).getD k [] = (reqs ops (k + 1)).getD k []
 | 0, h => absurd h (by omega)
 | m + 1, h => by
  by_cases hk : k = m
  ·subst hk; rfl
  ·have hlt : k < m := by omega
   rw [← reqs_stay hlt]
   show (reqs ops m ++ _).getD k [] = _
   rw [List.getD_eq_getElem?_getD, List.getD_eq_getElem?_getD, List.getElem?_append_left (by rw [reqs_len]; exact hlt)]
theorem rq_iff {k i : Nat} (hk : k < ops.size) : rq ops k i = true ↔ i < k ∧ (linked ops k i = true ∨ ∃ j, j < k ∧ linked ops k j = true ∧ rq ops j i = true) := by
 unfold rq
 rw [reqs_stay hk]
 have e : (reqs ops (k + 1)).getD k [] = (List.range k).filter fun i => linked ops k i || (List.range k).any fun j => linked ops k j && ((reqs ops k).getD j []).contains i := by
  show (reqs ops k ++ _).getD k [] = _
  rw [List.getD_eq_getElem?_getD, List.getElem?_append_right (by rw [reqs_len]; exact Nat.le_refl _), reqs_len]
  simp
 rw [e, List.contains_iff_mem, List.mem_filter, List.mem_range, Bool.or_eq_true, List.any_eq_true]
 refine and_congr_right fun hik => or_congr_right ⟨?_, ?_⟩
 ·rintro ⟨j, hj, hb⟩
  rw [Bool.and_eq_true] at hb
  have hjk := List.mem_range.1 hj
  exact ⟨j, hjk, hb.1, by rw [reqs_stay (show j < ops.size by omega), ← reqs_stay hjk]; exact hb.2⟩
 ·rintro ⟨j, hj, h1, h2⟩
  refine ⟨j, List.mem_range.2 hj, ?_⟩
  rw [Bool.and_eq_true]
  exact ⟨h1, by rw [reqs_stay hj, ← reqs_stay (show j < ops.size by omega)]; exact h2⟩
theorem levA_spec (q : Nat → Bool) : ∀ (l : List Nat) (p acc : Nat), (levA q l p acc = acc ∧ ∀ e ∈ l, q e = false) ∨
  ∃ (j e : Nat), l[j]? = some e ∧ q e = true ∧ levA q l p acc = p + j + 1 ∧ ∀ (j' e' : Nat), j < j' → l[j']? = some e' → q e' = false
 | [], p, acc => .inl ⟨rfl, fun e h => by cases h⟩
 | e :: r, p, acc => by
  simp only [levA]
  rcases levA_spec q r (p + 1) (if q e then p + 1 else acc) with ⟨h1, h2⟩ | ⟨j, e', h1, h2, h3, h4⟩
  ·cases hq : q e with
   | true =>
    rw [hq, if_pos rfl] at h1
    exact .inr ⟨0, e, rfl, hq, by rw [if_pos rfl, h1], fun j' e' hj he => by
     cases j' with
     | zero => omega
     | succ j' => exact h2 e' (List.mem_of_getElem? (by simpa using he))⟩
   | false =>
    rw [hq, if_neg (by simp)] at h1
    refine .inl ⟨by rw [if_neg (by simp), h1], fun x hx => ?_⟩
    rcases List.mem_cons.1 hx with rfl | hx
    ·exact hq
    ·exact h2 x hx
  ·refine .inr ⟨j + 1, e', by simpa using h1, h2, by rw [h3]; omega, fun j' x hj hx => ?_⟩
   cases j' with
   | zero => omega
   | succ j' => exact h4 j' x (by omega) (by simpa using hx)
theorem lev_of {i p e : Nat} (h : es[p]? = some e) (hq : rq ops i e = true) : p + 1 ≤ lev ops es i := by
 unfold lev
 rcases levA_spec (rq ops i) es 0 0 with ⟨_, h2⟩ | ⟨j, e', h1, h2, h3, h4⟩
 ·rw [h2 e (List.mem_of_getElem? h)] at hq; cases hq
 ·rw [h3]
  rcases Nat.lt_or_ge j p with hl | hl
  ·rw [h4 p e hl h] at hq; cases hq
  ·omega
theorem lev_at {i m : Nat} (h : lev ops es i = m + 1) : ∃ e, es[m]? = some e ∧ rq ops i e = true := by
 unfold lev at h
 rcases levA_spec (rq ops i) es 0 0 with ⟨h1, _⟩ | ⟨j, e', h1, h2, h3, h4⟩
 ·omega
 ·have : j = m := by omega
  subst this
  exact ⟨e', h1, h2⟩
structure D3 (ops : Array Oper) (es : List Nat) : Prop where
 back : ∀ i k, linked ops i k = true → k < i
 dst : ∀ (i k : Nat) (o o' : Oper) d, i ≠ k → ops[i]? = some o → ops[k]? = some o' → o.dst = some d → o'.dst ≠ some d
 look : ∀ (i k : Nat) (o o' : Oper) d, i ≠ k → ops[i]? = some o → ops[k]? = some o' → o'.dst = some d → d ∈ o.looksAt ops → linked ops i k = true ∨ linked ops k i = true
 lt : ∀ e ∈ es, e < ops.size
 chain : ∀ (p e e' : Nat), es[p]? = some e → es[p + 1]? = some e' → rq ops e' e = true
 again : ∀ (m e i k : Nat) (o o' : Oper) d, es[m]? = some e → i ∈ reL ops es m e → ops[i]? = some o → ops[k]? = some o' → o'.dst = some d → d ∈ o.looksAt ops → linked ops i k = true
theorem d3_of (h : ok3 ops es = true) : D3 ops es := by
 unfold ok3 at h
 simp only [Bool.and_eq_true, List.all_eq_true, List.mem_range] at h
 obtain ⟨⟨⟨h1, h2⟩, h3⟩, h4⟩ := h
 have each := fun (i : Nat) o (ho : ops[i]? = some o) => (by
  have := h1 i (Array.getElem?_eq_some_iff.1 ho).1
  rw [ho] at this
  simp only [Bool.and_eq_true, List.all_eq_true, List.mem_range] at this
  exact this : _ ∧ _)
 refine ⟨fun i k hl => ?_, fun i k o o' d hne ho hk hd => ?_, fun i k o o' d hne ho hk hd hm => ?_, fun e he => by simpa using h2 e he, fun p e e' hp hp' => ?_, fun m e i k o o' d he hi ho hk hd hm => ?_⟩
 ·obtain ⟨o, ho, e, he, hb, rfl⟩ := linked_iff.1 hl
  have := Array.all_eq_true_iff_forall_mem.1 (each i o ho).1 e he
  simpa [hb] using this
 ·have := (each i o ho).2 k (Array.getElem?_eq_some_iff.1 hk).1
  rw [hk] at this
  simp only [Bool.or_eq_true, beq_iff_eq, Bool.and_eq_true, bne_iff_ne, Option.isNone_iff_eq_none] at this
  rcases this with h | ⟨h, _⟩
  ·exact absurd h hne
  ·rcases h with h | h
   ·rw [hd] at h; cases h
   ·exact fun h' => h (by rw [hd, h'])
 ·have := (each i o ho).2 k (Array.getElem?_eq_some_iff.1 hk).1
  rw [hk] at this
  simp only [Bool.or_eq_true, beq_iff_eq, Bool.and_eq_true] at this
  rcases this with h | ⟨_, h⟩
  ·exact absurd h hne
  ·rw [hd] at h
   simp only [Bool.or_eq_true, Bool.not_eq_true', List.contains_eq_mem, decide_eq_false_iff_not] at h
   rcases h with (h | h) | h
   ·exact absurd hm h
   ·exact .inl h
   ·exact .inr h
 ·have hlt := (List.getElem?_eq_some_iff.1 hp).1
  have := h3 p hlt
  rw [hp, hp'] at this
  exact this
 ·have hlt := (List.getElem?_eq_some_iff.1 he).1
  have := h4 m hlt
  rw [he] at this
  simp only [List.all_eq_true] at this
  have := this i hi
  rw [ho] at this
  simp only [List.all_eq_true, List.mem_range] at this
  have := this k (Array.getElem?_eq_some_iff.1 hk).1
  rw [hk] at this
  simp only [hd, Bool.or_eq_true, Bool.not_eq_true', List.contains_eq_mem, decide_eq_false_iff_not] at this
  exact this.resolve_left (fun h => h hm)
theorem rq_lt {k i : Nat} (hk : k < ops.size) (h : rq ops k i = true) : i < k := ((rq_iff hk).1 h).1
theorem rq_link {k i : Nat} (hD : D3 ops es) (h : linked ops k i = true) : rq ops k i = true := by
 obtain ⟨o, ho, _⟩ := linked_iff.1 h
 exact (rq_iff (Array.getElem?_eq_some_iff.1 ho).1).2 ⟨hD.back k i h, .inl h⟩
theorem rq_trans {k j i : Nat} (hD : D3 ops es) (hk : linked ops k j = true) (hj : rq ops j i = true) : rq ops k i = true := by
 obtain ⟨o, ho, _⟩ := linked_iff.1 hk
 have hks := (Array.getElem?_eq_some_iff.1 ho).1
 have hjk := hD.back k j hk
 exact (rq_iff hks).2 ⟨by have := rq_lt (show j < ops.size by omega) hj; omega, .inr ⟨j, hjk, hk, hj⟩⟩
theorem rq_closed {L : Nat → Bool} (hD : D3 ops es) (hc : ∀ k i, L k = true → linked ops k i = true → L i = true) : ∀ (k i : Nat), k < ops.size → L k = true → rq ops k i = true → L i = true := by
 intro k
 induction k using Nat.strongRecOn with
 | _ k ih =>
  intro i hk hL hq
  obtain ⟨_, h | ⟨j, hj, h1, h2⟩⟩ := (rq_iff hk).1 hq
  ·exact hc k i hL h
  ·exact ih j hj i (by omega) (hc k j hL h1) h2
theorem chain_lt (hD : D3 ops es) : ∀ {p q e e' : Nat}, p < q → es[p]? = some e → es[q]? = some e' → e < e' := by
 intro p q
 induction q with
 | zero => intro e e' h; omega
 | succ q ih =>
  intro e e' h hp hq
  have hl : q + 1 < es.length := (List.getElem?_eq_some_iff.1 hq).1
  have hq' : es[q]? = some (es[q]'(by omega)) := List.getElem?_eq_getElem (by omega)
  have hlt := rq_lt (hD.lt _ (List.mem_of_getElem? hq)) (hD.chain q _ e' hq' hq)
  by_cases hpq : p = q
  ·subst hpq
   rw [hp] at hq'
   obtain rfl := Option.some.inj hq'
   exact hlt
  ·have := ih (by omega) hp hq'
   omega
theorem lev_mono (hD : D3 ops es) {k i : Nat} (h : linked ops k i = true) : lev ops es i ≤ lev ops es k := by
 cases hl : lev ops es i with
 | zero => omega
 | succ m =>
  obtain ⟨e, he, hq⟩ := lev_at hl
  exact lev_of he (rq_trans hD h hq)
end
section
variable {E : Env} {ops : Array Oper} {es : List Nat} {H : List AObj}
theorem steps_same {opl : List Oper} : ∀ {l : List Oper} {t : List AV}, Steps E opl H l t t → l.Pairwise (fun x y => ∀ d, x.dst = some d → y.dst ≠ some d) → ∀ o ∈ l, ∃ v, YA E opl H o v t ∧ putT t o.dst v = t
 | [], t, _, _, o, ho => by cases ho
 | x :: r, t, ⟨v, hy, h⟩, hp, o, ho => by
  obtain ⟨hp1, hp2⟩ := List.pairwise_cons.1 hp
  have hend := h.end
  have e : putT t x.dst v = t := by
   refine List.ext_getElem? fun s => ?_
   by_cases hs : x.dst = some s
   ·exact (hend.2 s fun o' ho' => hp1 o' ho' s hs).symm
   ·exact putT_ne hs
  rcases List.mem_cons.1 ho with rfl | ho
  ·exact ⟨v, hy, e⟩
  ·rw [e] at h
   exact steps_same h hp2 o ho
theorem lst_steps (hdst : ∀ (i k : Nat) (o o' : Oper) d, i ≠ k → ops[i]? = some o → ops[k]? = some o' → o.dst = some d → o'.dst ≠ some d) {l : List Nat} (hs : l.Pairwise (· < ·)) (hin : ∀ i ∈ l, i < ops.size) {t0 tq : List AV} (h : Steps E ops.toList H (opsAt ops l) t0 tq) :
  (opsAt ops l).Pairwise (fun x y => ∀ d, x.dst = some d → y.dst ≠ some d) ∧ tq.length = t0.length ∧ (∀ s : Nat, (∀ (i : Nat) o, ops[i]? = some o → i ∈ l → o.dst ≠ some s) → tq[s]? = t0[s]?) ∧
  ∀ (i : Nat) o, ops[i]? = some o → i ∈ l → ∃ v ti, YA E ops.toList H o v ti ∧ (∀ s : Nat, (∀ (k : Nat) o', k < i → ops[k]? = some o' → k ∈ l → o'.dst ≠ some s) → ti[s]? = t0[s]?) ∧
   (∀ (k : Nat) o' s, k < i → ops[k]? = some o' → k ∈ l → o'.dst = some s → ti[s]? = tq[s]?) ∧ (∀ d, o.dst = some d → d < t0.length → tq[d]? = some v) := by
 obtain ⟨hlen, hget⟩ := opsAt_get hin
 have place : ∀ (i : Nat) o, ops[i]? = some o → i ∈ l → ∃ p, l[p]? = some i ∧ (opsAt ops l)[p]? = some o := fun i o ho hm => by
  obtain ⟨p, hp⟩ := List.mem_iff_getElem?.1 hm
  exact ⟨p, hp, by rw [hget p i hp]; exact ho⟩
 have back : ∀ (p : Nat) o, (opsAt ops l)[p]? = some o → ∃ i, l[p]? = some i ∧ ops[i]? = some o ∧ i ∈ l := fun p o ho => by
  have hlt : p < l.length := by rw [← hlen]; exact (List.getElem?_eq_some_iff.1 ho).1
  have hp : l[p]? = some l[p] := List.getElem?_eq_getElem hlt
  exact ⟨_, hp, by rw [← hget p _ hp]; exact ho, List.getElem_mem hlt⟩
 have lt_iff : ∀ {p q i k : Nat}, l[p]? = some i → l[q]? = some k → (q < p ↔ k < i) := fun {p q i k} hp hq => by
  obtain ⟨hp1, rfl⟩ := List.getElem?_eq_some_iff.1 hp
  obtain ⟨hq1, rfl⟩ := List.getElem?_eq_some_iff.1 hq
  have hs := List.pairwise_iff_getElem.1 hs
  constructor
  ·exact fun h => hs q p hq1 hp1 h
  ·intro h
   rcases Nat.lt_trichotomy q p with h' | h' | h'
   ·exact h'
   ·subst h'; exact absurd h (Nat.lt_irrefl _)
   ·have := hs p q hp1 hq1 h'; omega
 have hpw : (opsAt ops l).Pairwise (fun x y => ∀ d, x.dst = some d → y.dst ≠ some d) := by
  rw [List.pairwise_iff_getElem]
  intro p q hp hq hpq d hd
  obtain ⟨i, hi, hio, _⟩ := back p _ (List.getElem?_eq_getElem hp)
  obtain ⟨k, hk, hko, _⟩ := back q _ (List.getElem?_eq_getElem hq)
  have hne : i ≠ k := by
   have := (lt_iff hk hi).1 hpq
   omega
  exact hdst i k _ _ d hne hio hko hd
 have hend := h.end
 refine ⟨hpw, hend.1, fun s hs' => hend.2 s fun o ho => ?_, fun i o ho hE => ?_⟩
 ·obtain ⟨p, hp⟩ := List.mem_iff_getElem?.1 ho
  obtain ⟨i, _, hio, hE⟩ := back p o hp
  exact hs' i o hio hE
 ·obtain ⟨p, hp, hpo⟩ := place i o ho hE
  obtain ⟨v, ti, k1, k2, k3, k4, k5⟩ := h.at hpw p o hpo
  refine ⟨v, ti, k1, fun s hs' => k3 s fun q o' hq ho' => ?_, fun k o' s hk hko hkE hs' => ?_, k5⟩
  ·obtain ⟨k, hk, hko, hkE⟩ := back q o' ho'
   exact hs' k o' ((lt_iff hp hk).1 hq) hko hkE
  ·obtain ⟨q, hq, hqo⟩ := place k o' hko hkE
   exact k4 q o' s ((lt_iff hp hq).2 hk) hqo hs'
theorem mem_lv {m i : Nat} : i ∈ lvL ops es m ↔ i < ops.size ∧ i ∉ es ∧ lev ops es i = m := by
 unfold lvL
 rw [List.mem_filter, List.mem_range]
 simp
theorem mem_re {m e i : Nat} : i ∈ reL ops es m e ↔ i < ops.size ∧ i ∉ es ∧ lev ops es i ≤ m ∧ rq ops e i = false := by
 unfold reL
 rw [List.mem_filter, List.mem_range]
 simp [and_assoc]
theorem lv_sorted {m : Nat} : (lvL ops es m).Pairwise (· < ·) := List.pairwise_lt_range.filter _
theorem re_sorted {m e : Nat} : (reL ops es m e).Pairwise (· < ·) := List.pairwise_lt_range.filter _
def Vm (ops : Array Oper) (es : List Nat) (m k : Nat) : Prop := (k ∉ es ∧ lev ops es k ≤ m) ∨ ∃ p, p < m ∧ es[p]? = some k
structure D3I (E : Env) (ops : Array Oper) (es : List Nat) (K : K3) (t0 : List AV) (ds : List Nat) (L : Nat → Bool) (t : List AV) (H : List AObj) (m : Nat) (tc : List AV) : Prop where
 eff : ∀ (p e : Nat), es[p]? = some e → (L e = true ↔ p < m)
 cl : ∀ k i, L k = true → linked ops k i = true → L i = true
 len : t.length = t0.length
 lenc : tc.length = t0.length
 un : ∀ s : Nat, (∀ (k : Nat) o, ops[k]? = some o → L k = true → o.dst ≠ some s) → t[s]? = t0[s]?
 li : ∀ (k : Nat) o s, ops[k]? = some o → L k = true → o.dst = some s → t[s]? = tc[s]?
 unc : ∀ s : Nat, (∀ (k : Nat) o, ops[k]? = some o → Vm ops es m k → o.dst ≠ some s) → tc[s]? = t0[s]?
 q : ∀ (i : Nat) o, ops[i]? = some o → i ∉ es → lev ops es i ≤ m → L i = false → ∃ v ti, YA E ops.toList H o v ti ∧
  (∀ d ∈ o.looksAt ops, (∀ (k : Nat) o', ops[k]? = some o' → o'.dst = some d → linked ops i k = true → ti[d]? = tc[d]?) ∧
   ((∀ (k : Nat) o', ops[k]? = some o' → o'.dst = some d → linked ops i k = false) → ti[d]? = t0[d]?)) ∧ ∀ d, o.dst = some d → d < t0.length → tc[d]? = some v
 go : dgo E ops.toList (planF ops es m (es.drop m)) K tc H ds
theorem level_up (hD : D3 ops es) {K : K3} {t0 tc1 : List AV} {ds : List Nat} {L : Nat → Bool} {t : List AV} {m : Nat}
  (heff : ∀ (p e : Nat), es[p]? = some e → (L e = true ↔ p < m)) (hcl : ∀ k i, L k = true → linked ops k i = true → L i = true) (hlen : t.length = t0.length) (hlenc : tc1.length = t0.length)
  (hun : ∀ s : Nat, (∀ (k : Nat) o, ops[k]? = some o → L k = true → o.dst ≠ some s) → t[s]? = t0[s]?)
  (hli : ∀ (k : Nat) o s, ops[k]? = some o → L k = true → o.dst = some s → t[s]? = tc1[s]?)
  (hnl : ∀ k, k ∉ es → lev ops es k = m → L k = false)
  (hunc : ∀ s : Nat, (∀ (k : Nat) o, ops[k]? = some o → (Vm ops es m k ∧ ¬ (k ∉ es ∧ lev ops es k = m)) → o.dst ≠ some s) → tc1[s]? = t0[s]?)
  (hq : ∀ (i : Nat) o, ops[i]? = some o → i ∉ es → lev ops es i < m → L i = false → ∃ v, YA E ops.toList H o v tc1 ∧ putT tc1 o.dst v = tc1 ∧
   ∀ (k : Nat) o' d, ops[k]? = some o' → o'.dst = some d → d ∈ o.looksAt ops → linked ops i k = true)
  (h : adraw E ops.toList (opsAt ops (lvL ops es m)) (dgo E ops.toList (planF ops es m (es.drop m)) K) tc1 H ds) :
  ∃ tc, D3I E ops es K t0 ds L t H m tc := by
 obtain ⟨tq, hst, hgo⟩ := adraw_steps h
 obtain ⟨_, e1, e2, e3⟩ := lst_steps hD.dst lv_sorted (fun i hi => (mem_lv.1 hi).1) hst
 have keep : ∀ s : Nat, (∃ (k : Nat) (o : Oper), ops[k]? = some o ∧ o.dst = some s ∧ ¬ (k ∉ es ∧ lev ops es k = m)) → tq[s]? = tc1[s]? := fun s ⟨k, o, hk, hs, hn⟩ => e2 s fun i o' hi hm hd => by
  have hne : i ≠ k := fun e => hn (by subst e; exact ⟨(mem_lv.1 hm).2.1, (mem_lv.1 hm).2.2⟩)
  exact hD.dst i k o' o s hne hi hk hd hs
 refine ⟨tq, heff, hcl, hlen, by rw [e1, hlenc], hun, fun k o s hk hL hs => ?_, fun s hs => ?_, fun i o ho hi hl hL => ?_, hgo⟩
 ·rw [keep s ⟨k, o, hk, hs, fun ⟨n1, n2⟩ => by rw [hnl k n1 n2] at hL; cases hL⟩]
  exact hli k o s hk hL hs
 ·rw [e2 s fun i o hi hm => hs i o hi (.inl ⟨(mem_lv.1 hm).2.1, by rw [(mem_lv.1 hm).2.2]; exact Nat.le_refl _⟩)]
  exact hunc s fun k o hk hv => hs k o hk hv.1
 ·by_cases hlm : lev ops es i = m
  ·obtain ⟨v, ti, k1, k2, k3, k4⟩ := e3 i o ho (mem_lv.2 ⟨(Array.getElem?_eq_some_iff.1 ho).1, hi, hlm⟩)
   refine ⟨v, ti, k1, fun d hd => ⟨fun k o' hk hkd hlk => ?_, fun hno => ?_⟩, fun d hd hlt => k4 d hd (by rw [hlenc]; exact hlt)⟩
   ·have hki := hD.back i k hlk
    by_cases hkm : k ∈ lvL ops es m
    ·exact k3 k o' d hki hk hkm hkd
    ·rw [k2 d fun j o'' hj hjo hjm hjd => (by
      have hne : j ≠ k := fun e => hkm (e ▸ hjm)
      exact hD.dst j k o'' o' d hne hjo hk hjd hkd)]
     exact (keep d ⟨k, o', hk, hkd, fun ⟨n1, n2⟩ => hkm (mem_lv.2 ⟨(Array.getElem?_eq_some_iff.1 hk).1, n1, n2⟩)⟩).symm
   ·rw [k2 d fun j o'' hj hjo hjm hjd => (by
     have hne : i ≠ j := by omega
     rcases hD.look i j o o'' d hne ho hjo hjd hd with h' | h'
     ·rw [hno j o'' hjo hjd] at h'; cases h'
     ·have := hD.back j i h'; omega)]
    refine hunc d fun k o' hk ⟨hv, hnv⟩ hkd => ?_
    have hne : i ≠ k := fun e => hnv (by subst e; exact ⟨hi, hlm⟩)
    rcases hD.look i k o o' d hne ho hk hkd hd with h' | h'
    ·rw [hno k o' hk hkd] at h'; cases h'
    ·have hmono := lev_mono hD h'
     rcases hv with ⟨n1, n2⟩ | ⟨p, hp, hpe⟩
     ·exact hnv ⟨n1, by omega⟩
     ·have hLk := (heff p k hpe).2 hp
      rw [hcl k i hLk h'] at hL; cases hL
  ·obtain ⟨v, y1, y2, y3⟩ := hq i o ho hi (by omega) hL
   refine ⟨v, tc1, y1, fun d hd => ⟨fun k o' hk hkd hlk => ?_, fun hno => ?_⟩, fun d hd hlt => ?_⟩
   ·have hmono := lev_mono hD hlk
    exact (keep d ⟨k, o', hk, hkd, fun ⟨n1, n2⟩ => by omega⟩).symm
   ·refine hunc d fun k o' hk _ hkd => ?_
    have := y3 k o' d hk hkd hd
    rw [hno k o' hk hkd] at this; cases this
   ·rw [keep d ⟨i, o, ho, hd, fun ⟨_, n2⟩ => hlm n2⟩, ← y2, hd]
    exact putT_self (by rw [hlenc]; exact hlt)
theorem back_of (hok : ok3 ops es = true) : backB ops = true := by
 have hD := d3_of hok
 unfold backB
 rw [List.all_eq_true]
 intro i hi
 have hlt := List.mem_range.1 hi
 rw [Array.getElem?_eq_getElem hlt]
 simp only [Array.all_eq_true_iff_forall_mem, Bool.or_eq_true, Bool.not_eq_true', decide_eq_true_eq]
 intro e he
 cases hb : Region.binds .any e with
 | false => exact .inl rfl
 | true => exact .inr (hD.back i e.on (linked_iff.2 ⟨_, Array.getElem?_eq_getElem hlt, e, he, hb, rfl⟩))
theorem det_any (hok : ok3 ops es = true) {K : K3} {t0 : List AV} {ds : List Nat} (h : adraw E ops.toList (opsAt ops (lvL ops es 0)) (dgo E ops.toList (planF ops es 0 es) K) t0 H ds) : AAny E ops K t0 H ds := by
 have hD := d3_of hok
 have size : ∀ {L : Nat → Bool} {k : Nat} {o : Oper}, ops[k]? = some o → k < ops.size := fun h => (Array.getElem?_eq_some_iff.1 h).1
 refine ⟨fun L t H ds' => ds' = ds ∧ ∃ m tc, D3I E ops es K t0 ds L t H m tc, ⟨rfl, 0, ?_⟩, ?_, ?_⟩
 ·refine level_up hD (tc1 := t0) (fun p e _ => ⟨fun h => (by cases h), fun h => absurd h (by omega)⟩) (fun k i h _ => (by cases h)) rfl rfl (fun s _ => rfl) (fun k o s _ h _ => (by cases h)) (fun k _ _ => rfl) (fun s _ => rfl)
   (fun i o _ _ hl _ => absurd hl (by omega)) (by simpa using h)
 ·rintro L t H ds' ⟨rfl, m, tc, hI⟩ hall
  have hm : es.length ≤ m := by
   rcases Nat.lt_or_ge m es.length with hlt | hge
   ·have he : es[m]? = some es[m] := List.getElem?_eq_getElem hlt
    have := (hI.eff m _ he).1 (hall _ (hD.lt _ (List.getElem_mem hlt)))
    omega
   ·exact hge
  have hgo := hI.go
  rw [List.drop_eq_nil_of_le hm] at hgo
  have e : t = tc := List.ext_getElem? fun s => by
   by_cases hw : ∃ (k : Nat) (o : Oper), ops[k]? = some o ∧ o.dst = some s
   ·obtain ⟨k, o, hk, hs⟩ := hw
    exact hI.li k o s hk (hall k (Array.getElem?_eq_some_iff.1 hk).1) hs
   ·rw [hI.un s fun k o hk _ hs => hw ⟨k, o, hk, hs⟩, hI.unc s fun k o hk _ hs => hw ⟨k, o, hk, hs⟩]
  rw [e]
  exact hgo
 ·rintro L t H ds' i o ⟨rfl, m, tc, hI⟩ ho hL hdeps
  have hi : i < ops.size := (Array.getElem?_eq_some_iff.1 ho).1
  have deps : ∀ k, linked ops i k = true → L k = true := fun k hk => by
   obtain ⟨o', ho', e, he, hb, rfl⟩ := linked_iff.1 hk
   rw [ho] at ho'
   obtain rfl := Option.some.inj ho'
   exact hdeps e he hb
  have rqL : ∀ j, rq ops i j = true → L j = true := fun j hj => by
   obtain ⟨_, h | ⟨k, hk, h1, h2⟩⟩ := (rq_iff hi).1 hj
   ·exact deps j h
   ·exact rq_closed hD hI.cl k j (by omega) (deps k h1) h2
  have hset : ∀ k, setL' L i k = true ↔ k = i ∨ L k = true := fun k => by
   unfold setL'
   by_cases h : k = i
   ·simp [h]
   ·simp [h]
  have hcl' : ∀ k j, setL' L i k = true → linked ops k j = true → setL' L i j = true := fun k j hk hl => by
   rcases (hset k).1 hk with rfl | hk
   ·exact (hset j).2 (.inr (deps j hl))
   ·exact (hset j).2 (.inr (hI.cl k j hk hl))
  have hun' : ∀ v, ∀ s : Nat, (∀ (k : Nat) o', ops[k]? = some o' → setL' L i k = true → o'.dst ≠ some s) → (putT t o.dst v)[s]? = t0[s]? := fun v s hs => by
   rw [putT_ne (hs i o ho ((hset i).2 (.inl rfl)))]
   exact hI.un s fun k o' hk hl => hs k o' hk ((hset k).2 (.inr hl))
  by_cases hie : i ∈ es
  ·-- one that writes
   obtain ⟨p, hp⟩ := List.mem_iff_getElem?.1 hie
   have hpm : p = m := by
    have h1 : ¬ p < m := fun h => by rw [(hI.eff p i hp).2 h] at hL; cases hL
    rcases Nat.lt_or_ge m p with h2 | h2
    ·exfalso
     have hpl : p < es.length := (List.getElem?_eq_some_iff.1 hp).1
     have hq : es[p - 1]? = some (es[p - 1]'(by omega)) := List.getElem?_eq_getElem (by omega)
     have hr := hD.chain (p - 1) _ i hq (by rw [show p - 1 + 1 = p by omega]; exact hp)
     have := (hI.eff (p - 1) _ hq).1 (rqL _ hr)
     omega
    ·omega
   subst hpm
   have hdrop : es.drop p = i :: es.drop (p + 1) := by
    obtain ⟨h1, h2⟩ := List.getElem?_eq_some_iff.1 hp
    rw [List.drop_eq_getElem_cons h1, h2]
   have hgo := hI.go
   rw [hdrop] at hgo
   simp only [planF, dgo] at hgo
   rw [Array.getElem?_toList, ho] at hgo
   simp only at hgo
   have hgo := dgd_or hgo
   have agree : ∀ d ∈ o.looksAt ops, tc[d]? = t[d]? := fun d hd => by
    by_cases hw : ∃ (k : Nat) (o' : Oper), ops[k]? = some o' ∧ o'.dst = some d
    ·obtain ⟨k, o', hk, hkd⟩ := hw
     have only : ∀ (k' : Nat) o'', ops[k']? = some o'' → o''.dst = some d → k' = k := fun k' o'' hk' hd' => by
      by_cases hne : k' = k
      ·exact hne
      ·exact absurd hkd (hD.dst k' k o'' o' d hne hk' hk hd')
     have fresh : L k = false → ¬ Vm ops es p k → tc[d]? = t[d]? := fun hLk hV => by
      rw [hI.unc d fun k' o'' hk' hv hd' => hV (only k' o'' hk' hd' ▸ hv), hI.un d fun k' o'' hk' hl hd' => by rw [only k' o'' hk' hd', hLk] at hl; cases hl]
     by_cases hki : k = i
     ·subst hki
      exact fresh hL fun hv => by
       rcases hv with ⟨n1, _⟩ | ⟨q, hq, hqe⟩
       ·exact n1 hie
       ·have := (hI.eff q k hqe).2 hq
        rw [hL] at this; cases this
     ·rcases hD.look i k o o' d (Ne.symm hki) ho hk hkd hd with h' | h'
      ·exact (hI.li k o' d hk (deps k h') hkd).symm
      ·have hLk : L k = false := by
        cases hh : L k with
        | false => rfl
        | true => rw [hI.cl k i hh h'] at hL; cases hL
       refine fresh hLk fun hv => ?_
       have hlev := lev_of hp (rq_link hD h')
       rcases hv with ⟨_, n2⟩ | ⟨q, hq, hqe⟩
       ·omega
       ·have := (hI.eff q k hqe).2 hq
        rw [hLk] at this; cases this
    ·rw [hI.unc d fun k o' hk _ hkd => hw ⟨k, o', hk, hkd⟩, hI.un d fun k o' hk _ hkd => hw ⟨k, o', hk, hkd⟩]
   rw [aop_congr (ev_agree agree), wantA_agree agree] at hgo
   suffices cont : ∀ (v : AV) (H' : List AObj), (adraw E ops.toList (opsAt ops.toList.toArray (reL ops es p i)) (fun t' _ _ => t' = putT tc o.dst v) (putT tc o.dst v) H' ds' ∧ adraw E ops.toList (opsAt ops.toList.toArray (lvL ops es (p + 1))) (dgo E ops.toList (planF ops es (p + 1) (es.drop (p + 1))) K) (putT tc o.dst v) H' ds') →
     ds' = ds' ∧ ∃ m tc, D3I E ops es K t0 ds' (setL' L i) (putT t o.dst v) H' m tc from by
    rcases hgo with ⟨hw, hgo⟩ | ⟨hw, hgo⟩
    ·exact .inr ⟨hw, _, hgo, cont⟩
    ·exact .inl ⟨udf, .inr ⟨hw, rfl⟩, cont udf H hgo⟩
   rintro v H' ⟨hre, hlv⟩
   refine ⟨rfl, p + 1, ?_⟩
   obtain ⟨tq, hst, htq⟩ := adraw_steps hre
   obtain rfl : tq = putT tc o.dst v := htq
   obtain ⟨hpw, _, _, _⟩ := lst_steps hD.dst re_sorted (fun k hk => (mem_re.1 hk).1) (by simpa using hst)
   have hsame := steps_same (by simpa using hst) hpw
   have heff' : ∀ (q e : Nat), es[q]? = some e → (setL' L i e = true ↔ q < p + 1) := fun q e hq => by
    rw [hset, hI.eff q e hq]
    constructor
    ·rintro (rfl | h)
     ·rcases Nat.lt_trichotomy q p with h' | h' | h'
      ·omega
      ·omega
      ·have : p < q := h'
       have hqe := (hI.eff q e hq).1
       have hlt := chain_lt hD h' hp hq
       omega
     ·omega
    ·intro h
     rcases Nat.lt_or_ge q p with h' | h'
     ·exact .inr h'
     ·have : q = p := by omega
      subst this
      rw [hp] at hq
      exact .inl (Option.some.inj hq).symm
   have hlenc' : (putT tc o.dst v).length = t0.length := by rw [putT_length]; exact hI.lenc
   refine level_up hD (tc1 := putT tc o.dst v) heff' hcl' (by rw [putT_length]; exact hI.len) hlenc' (hun' v) (fun k o' s hk hl hs => ?_) (fun k n1 n2 => ?_) (fun s hs => ?_) (fun k o' hk n1 n2 hl => ?_) (by simpa using hlv)
   ·rcases (hset k).1 hl with rfl | hl
    ·rw [ho] at hk
     obtain rfl := Option.some.inj hk
     rw [hs]
     rcases Nat.lt_or_ge s t0.length with hsl | hsl
     ·rw [putT_self (by rw [hI.len]; exact hsl), putT_self (by rw [hI.lenc]; exact hsl)]
     ·rw [List.getElem?_eq_none (by rw [putT_length, hI.len]; exact hsl), List.getElem?_eq_none (by rw [putT_length, hI.lenc]; exact hsl)]
    ·have hki : k ≠ i := fun e => by rw [e, hL] at hl; cases hl
     rw [putT_ne (fun h => hD.dst i k o o' s (Ne.symm hki) ho hk h hs), putT_ne (fun h => hD.dst i k o o' s (Ne.symm hki) ho hk h hs)]
     exact hI.li k o' s hk hl hs
   ·cases hh : setL' L i k with
    | false => rfl
    | true =>
     rcases (hset k).1 hh with rfl | h
     ·exact absurd hie n1
     ·obtain ⟨e, he, hr⟩ := lev_at n2
      rw [hp] at he
      obtain rfl := Option.some.inj he
      have hks : k < ops.size := by
       rcases Nat.lt_or_ge k ops.size with h' | h'
       ·exact h'
       ·unfold rq at hr
        rw [List.getD_eq_getElem?_getD, List.getElem?_eq_none (by rw [reqs_len]; exact h')] at hr
        simp at hr
      rw [rq_closed hD hI.cl k i hks h hr] at hL; cases hL
   ·have hsi : o.dst ≠ some s := hs i o ho ⟨.inr ⟨p, by omega, hp⟩, fun h => h.1 hie⟩
    rw [putT_ne hsi]
    refine hI.unc s fun k o' hk hv => hs k o' hk ⟨?_, fun h => ?_⟩
    ·rcases hv with ⟨n1, n2⟩ | ⟨q, hq, hqe⟩
     ·exact .inl ⟨n1, by omega⟩
     ·exact .inr ⟨q, by omega, hqe⟩
    ·rcases hv with ⟨_, n2⟩ | ⟨q, hq, hqe⟩
     ·omega
     ·exact h.1 (List.mem_of_getElem? hqe)
   ·have hLk : L k = false := by
     cases hh : L k with
     | false => rfl
     | true => rw [(hset k).2 (.inr hh)] at hl; cases hl
    have hrq : rq ops i k = false := by
     cases hh : rq ops i k with
     | false => rfl
     | true => rw [rqL k hh] at hLk; cases hLk
    have hmem : k ∈ reL ops es p i := mem_re.2 ⟨(Array.getElem?_eq_some_iff.1 hk).1, n1, by omega, hrq⟩
    obtain ⟨hlen, hget⟩ := opsAt_get (ops := ops) (l := reL ops es p i) (fun k hk => (mem_re.1 hk).1)
    obtain ⟨q, hq⟩ := List.mem_iff_getElem?.1 hmem
    have hin : o' ∈ opsAt ops (reL ops es p i) := List.mem_of_getElem? (by rw [hget q k hq]; exact hk)
    obtain ⟨u, y1, y2⟩ := hsame o' hin
    exact ⟨u, y1, y2, fun j o'' d hj hjd hdl => hD.again p i k j o' o'' d hp hmem hk hj hjd hdl⟩
  ·-- a quiet one
   have hlm : lev ops es i ≤ m := by
    rcases Nat.lt_or_ge m (lev ops es i) with hlt | hge
    ·exfalso
     obtain ⟨l, hl⟩ : ∃ l, lev ops es i = l + 1 := ⟨lev ops es i - 1, by omega⟩
     obtain ⟨e, he, hr⟩ := lev_at hl
     have := (hI.eff l e he).1 (rqL e hr)
     omega
    ·exact hge
   obtain ⟨v, ti, y1, y2, y3⟩ := hI.q i o ho hie hlm hL
   have agree : ∀ d ∈ o.looksAt ops, ti[d]? = t[d]? := fun d hd => by
    obtain ⟨z1, z2⟩ := y2 d hd
    by_cases hw : ∃ (k : Nat) (o' : Oper), ops[k]? = some o' ∧ o'.dst = some d ∧ linked ops i k = true
    ·obtain ⟨k, o', hk, hkd, hlk⟩ := hw
     rw [z1 k o' hk hkd hlk, hI.li k o' d hk (deps k hlk) hkd]
    ·have hno : ∀ (k : Nat) o', ops[k]? = some o' → o'.dst = some d → linked ops i k = false := fun k o' hk hkd => by
      cases hh : linked ops i k with
      | false => rfl
      | true => exact absurd ⟨k, o', hk, hkd, hh⟩ hw
     rw [z2 hno, hI.un d fun k o' hk hl hkd => ?_]
     have hne : i ≠ k := fun e => by rw [← e, hL] at hl; cases hl
     rcases hD.look i k o o' d hne ho hk hkd hd with h' | h'
     ·rw [hno k o' hk hkd] at h'; cases h'
     ·rw [hI.cl k i hl h'] at hL; cases hL
   refine .inl ⟨v, y1.agree agree, rfl, m, tc, fun p e hp => ?_, hcl', by rw [putT_length]; exact hI.len, hI.lenc, hun' v, fun k o' s hk hl hs => ?_, hI.unc, fun k o' hk n1 n2 hl => ?_, hI.go⟩
   ·rw [hset, hI.eff p e hp]
    exact ⟨fun h => h.resolve_left fun e' => hie (e' ▸ List.mem_of_getElem? hp), .inr⟩
   ·rcases (hset k).1 hl with rfl | hl
    ·rw [ho] at hk
     obtain rfl := Option.some.inj hk
     rw [hs]
     rcases Nat.lt_or_ge s t0.length with hsl | hsl
     ·rw [putT_self (by rw [hI.len]; exact hsl), y3 s hs hsl]
     ·rw [List.getElem?_eq_none (by rw [putT_length, hI.len]; exact hsl), List.getElem?_eq_none (by rw [hI.lenc]; exact hsl)]
    ·have hki : k ≠ i := fun e => by rw [e, hL] at hl; cases hl
     rw [putT_ne (fun h => hD.dst i k o o' s (Ne.symm hki) ho hk h hs)]
     exact hI.li k o' s hk hl hs
   ·have hLk : L k = false := by
     cases hh : L k with
     | false => rfl
     | true => rw [(hset k).2 (.inr hh)] at hl; cases hl
    exact hI.q k o' hk n1 n2 hLk
end
end Go.Abs
end
section
set_option autoImplicit false
set_option linter.unusedVariables false
set_option linter.unusedSimpArgs false
namespace Go.Abs
/-! ### Code -/
abbrev Q3 := Exit → K3
def ALoop (E : Env) (n0 : Nat) (body : Q3 → K3) (Q : Q3) (t : List AV) (H : List AObj) (ds : List Nat) : Prop :=
 ∃ I : Nat → K3, (∃ k, WK E n0 (I k) t H ds) ∧ ∀ k t H ds, I k t H ds → body (fun e t' H' ds' => match e with
  | .normal => ∃ k', k' < k ∧ WK E n0 (I k') t' H' ds'
  | e => Q e t' H' ds') t H ds
def DReg (E : Env) (n0 : Nat) (ops : Array Oper) (Q : Q3) (t : List AV) (H : List AObj) (ds : List Nat) : Prop :=
 (drawOK ops (qpre ops.toList).length = true ∧ adraw E ops.toList (qpre ops.toList) (areg E n0 ops.toList (qtail ops.toList) (Q .normal)) t H ds) ∨
 (draw2 ops = true ∧ adraw E ops.toList (opsAt ops (eL ops)) (fun tq H ds => atail E ops.toList (opsAt ops (eL ops)) t tq (opsAt ops (tL ops)) (Q .normal) tq H ds) t H ds) ∨
 (backB ops = true ∧ AAny E ops (Q .normal) t H ds)
def Krng (E : Env) (n0 : Nat) (Q : Q3) (l : Nat) (t : List AV) (ds : List Nat) (H : List AObj) : Prop := ∃ fn t' ps a b st, H[l]? = some (.loop fn t' ps a b (some st)) ∧ (match st with
 | none => WK E n0 (Q .normal) t (H.set l .none) ds
 | some .ret => WK E n0 (Q .ret) t (H.set l .none) ds
 | some (.exit i) => WK E n0 (Q (.exit i)) t (H.set l .none) ds
 | _ => False)
def arng (E : Env) (n0 : Nat) (g : AV) (t : List AV) (H : List AObj) (ds : List Nat) (ps : List Tmp) (assign body : Code) (Q : Q3) (fn : FuncId) : Prop := match g with
 | .d (.func f caps) => ACalls E f (.yield (H.length + 1) :: caps.map .d) (H ++ [.defr, .loop fn t ps assign body (some none)]) (fun _ H' => Krng E n0 Q (H.length + 1) t (H.length :: ds) H')
 | .func f caps => ACalls E f (.yield (H.length + 1) :: caps) (H ++ [.defr, .loop fn t ps assign body (some none)]) (fun _ H' => Krng E n0 Q (H.length + 1) t (H.length :: ds) H')
 | _ => False
def ARng (E : Env) (n0 : Nat) (g : AV) (t : List AV) (H : List AObj) (ds : List Nat) (ps : List Tmp) (assign body : Code) (Q : Q3) : Prop := ∀ fn, arng E n0 g t H ds ps assign body Q fn
def Qnog (Q : Q3) : Q3 := fun e t H ds => match e with
 | .goto _ => False
 | e => Q e t H ds
section scope
variable {P : Program} {b : Frame} {a : Act} {k : List Item} {cs : List Frame} {w : World} {Q : Exit → Act → World → Prop} {F : Fence} {n : Nat}
theorem stepR_scope {c : Code} : step P (lone (b.atR a (.code (.scope c) :: k)) cs w) = .next (lone (b.atR a (.code c :: .inScope c :: k)) cs w) :=
 step_lone_go (by simp [stepG, stepG.exec, Frame.atR])
theorem stepR_inScope {c : Code} : step P (lone (b.atR a (.inScope c :: k)) cs w) = .next (lone (b.atR a k) cs w) :=
 step_lone_go (by simp [stepG, stepG.exec, Frame.atR])
theorem wpIn_scope {c : Code} (h : c.wpIn F n P (fun e a w => match e with | .goto _ => False | e => Q e a w) a w) : (Code.scope c).wpIn F n P Q a w := by
 intro b k cs hro hb hr
 have h0 : (lone (b.atR a (.code (.scope c) :: k)) cs w).fenced P F := fenced_calm hb hr rfl
 obtain ⟨e, a₁, w₁, hq, harr⟩ := h b (.inScope c :: k) cs hro hb hr
 cases e with
 | normal => exact ⟨.normal, a₁, w₁, hq, .head h0 stepR_scope (StepsIn.trans harr (.one (fenced_calm hb hr rfl) stepR_inScope))⟩
 | exit id' =>
  have hx : exitTo id' (.inScope c :: k) = exitTo id' k := by simp [exitTo]
  exact ⟨.exit id', a₁, w₁, hq, fun k' hk => .head h0 stepR_scope (harr.1 k' (by rw [hx]; exact hk)),
   fun hr' hk => let ⟨k₁, h1, h2⟩ := harr.2 hr' (by rw [hx]; exact hk); ⟨k₁, h1, .head h0 stepR_scope h2⟩⟩
 | goto l => exact hq.elim
 | ret => exact ⟨_, a₁, w₁, hq, .of_steps (.one h0 stepR_scope) harr⟩
 | panic ch => exact ⟨_, a₁, w₁, hq, .of_steps (.one h0 stepR_scope) harr⟩
 | outgrown => exact ⟨_, a₁, w₁, hq, .of_steps (.one h0 stepR_scope) harr⟩
end scope
def awp (E : Env) (n0 : Nat) (rd : Bool) : Code → Q3 → K3
 | .skip, Q, t, H, ds => Q .normal t H ds
 | .label _, Q, t, H, ds => Q .normal t H ds
 | .scope a, Q, t, H, ds => awp E n0 rd a (Qnog Q) t H ds
 | .region _ ops draw, Q, t, H, ds => match draw with
  | false => areg E n0 ops.toList ops.toList (Q .normal) t H ds
  | true => DReg E n0 ops Q t H ds
 | .seq a b, Q, t, H, ds => awp E n0 rd a (fun e t H ds => match e with
  | .normal => awp E n0 rd b Q t H ds
  | e => Q e t H ds) t H ds
 | .cond c a b, Q, t, H, ds => match ev E t c with
  | .d (.bool x) => Br x (awp E n0 rd a Q t H ds) (awp E n0 rd b Q t H ds)
  | _ => False
 | .block id a, Q, t, H, ds => awp E n0 rd a (fun e t H ds => match e with
  | .exit i => if i = id then Q .normal t H ds else Q (.exit i) t H ds
  | e => Q e t H ds) t H ds
 | .loop a, Q, t, H, ds => ALoop E n0 (awp E n0 rd a) Q t H ds
 | .exit id, Q, t, H, ds => Q (.exit id) t H ds
 | .ret, Q, t, H, ds => Q .ret t H ds
 | .rangeFunc g ps assign body, Q, t, H, ds => rd = false ∧ ARng E n0 (ev E t g) t H ds ps.toList assign body Q
 | _, _, _, _, _ => False
theorem arng_lay {E : Env} {n0 : Nat} {ps : Array Tmp} {assign body : Code} {t : List AV} {H : List AObj} {ds : List Nat} {w : World} {F : Nat → Prop} {Γ : List Slot} {a : Act} (fn : FuncId) (hR : Rel E w F Γ t H ds a) (hn : n0 ≤ Γ.length) :
  ∃ (bl : Nat) (W : World) (F2 : Nat → Prop) (Γ2 : List Slot), (Instr.enterLoop fn a.tmps ps assign body none).run E.P w = .ok (bl, [{ target := .collected w.heap.size, args := #[] }]) W ∧
   SR E W F2 Γ2 (H ++ [.defr, .loop fn t ps.toList assign body (some none)]) ∧ RT W F2 Γ2 t a.tmps ∧ DR Γ2 (H.length :: ds) (({ target := .collected w.heap.size, args := #[] } : Deferred) :: a.defers) ∧
   RV W F2 Γ2 (.yield (H.length + 1)) (.func (.yield bl) #[] #[]) ∧ Ext n0 w F Γ H W F2 Γ2 (H ++ [.defr, .loop fn t ps.toList assign body (some none)]) := by
 have hnew1 : (w.alloc (.deferred (some []))).heap[w.heap.size]? = some (.deferred (some [])) := heap_new w _
 obtain ⟨F1, Γ1, H1, av1, s1, rv1, ⟨rfl, rfl⟩, x1, p1⟩ := out_new (n0 := n0) hR.sr hn (w1 := w) rfl rfl rfl rfl (ob := .deferred (some [])) (s := ⟨some w.heap.size, 0, 0, 0⟩) rfl (.inl rfl) (o := .defr) ⟨w.heap.size, rfl, hnew1⟩
  (av := .yield H.length) (v := .func (.yield w.heap.size) #[] #[]) (by rw [← hR.sr.len]; exact .yield (push_get Γ _) rfl) (K := fun v H' => v = .yield H.length ∧ H' = H ++ [.defr]) ⟨rfl, rfl⟩
 have hT1 : RT (w.alloc (.deferred (some []))) F1 Γ1 t a.tmps := hR.rt.mono x1.sub (x1.stay hR.sr) p1
 have hrun : (Instr.enterLoop fn a.tmps ps assign body none).run E.P w = .ok ((w.alloc (.deferred (some []))).heap.size, [{ target := .collected w.heap.size, args := #[] }])
   ((w.alloc (.deferred (some []))).alloc (.loop { state := .ready, pending := none, fn := fn, tmps := a.tmps, params := ps, assign := assign, body := body, defers := w.heap.size })) := rfl
 generalize w.alloc (.deferred (some [])) = w1 at *
 have hnew2 : (w1.alloc (.loop { state := .ready, pending := none, fn := fn, tmps := a.tmps, params := ps, assign := assign, body := body, defers := w.heap.size })).heap[w1.heap.size]? =
  some (.loop { state := .ready, pending := none, fn := fn, tmps := a.tmps, params := ps, assign := assign, body := body, defers := w.heap.size }) := heap_new w1 _
 have hold2 : ∀ b, F1 b → (w1.alloc (.loop { state := .ready, pending := none, fn := fn, tmps := a.tmps, params := ps, assign := assign, body := body, defers := w.heap.size })).heap[b]? = w1.heap[b]? :=
  fun b hb => Go.RowKit.Below.heap_alloc _ _ _ (s1.low b hb)
 obtain ⟨F2, Γ2, H2, av2, s2, rv2, ⟨rfl, rfl⟩, x2, p2⟩ := out_new (n0 := n0) s1 x1.nlen (w1 := w1) rfl rfl rfl rfl
  (ob := .loop { state := .ready, pending := none, fn := fn, tmps := a.tmps, params := ps, assign := assign, body := body, defers := w.heap.size }) (s := ⟨some w1.heap.size, 0, 0, 0⟩) rfl (.inl rfl) (o := .loop fn t ps.toList assign body (some none))
  ⟨w1.heap.size, _, rfl, hnew2, rfl, rfl, rfl, rfl, ⟨rfl, rfl⟩, hT1.1, fun j av hj => (hT1.2 j av hj).mono (fun _ h => h) hold2 (pre_push Γ1 ⟨some w1.heap.size, 0, 0, 0⟩)⟩
  (av := .yield (H.length + 1)) (v := .func (.yield w1.heap.size) #[] #[]) (by
   have e : H.length + 1 = Γ1.length := by rw [s1.len]; simp
   rw [e]; exact .yield (push_get Γ1 _) rfl) (K := fun v H' => v = .yield (H.length + 1) ∧ H' = (H ++ [.defr]) ++ [.loop fn t ps.toList assign body (some none)]) ⟨rfl, rfl⟩
 have hT2 := hT1.mono x2.sub (x2.stay s1) p2
 have x12 := x1.trans (Nat.le_refl _) x2
 have happ : (H ++ [AObj.defr]) ++ [.loop fn t ps.toList assign body (some none)] = H ++ [.defr, .loop fn t ps.toList assign body (some none)] := by simp
 rw [happ] at s2 x12
 refine ⟨_, _, F2, Γ2, hrun, s2, hT2, ?_, rv2, x12⟩
 have hD0 : DR Γ2 ds a.defers := hR.dr.mono fun id s hs => p2 id s (p1 id s hs)
 refine ⟨by simp [hD0.1], fun i id hi => ?_⟩
 cases i with
 | zero =>
  simp at hi
  subst hi
  cases rv1 with
  | yield hs hb => exact ⟨_, w.heap.size, p2 _ _ hs, hb, rfl⟩
 | succ i => simpa using hD0.2 i id (by simpa using hi)
theorem arng_end {E : Env} {n n0 : Nat} {Q : Q3} {t : List AV} {H H' : List AObj} {ds : List Nat} {w w' : World} {F F' : Nat → Prop} {Γ Γ' : List Slot} {tmps : Array Value} {df : List Deferred} {l bl : Nat}
  (hS' : SR E w' F' Γ' H') (hT' : RT w' F' Γ' t tmps) (hD' : DR Γ' ds df) (hv : RV w' F' Γ' (.yield l) (.func (.yield bl) #[] #[])) (hX0 : Ext n0 w F Γ H w' F' Γ' H') (hK : Krng E n0 Q l t ds H') (v : Value) :
  rangePost (Wr none) n E.P bl (fun e a' w' => Lat E n0 w F Γ H (Q e) a' w') { tmps := tmps, defers := df } (.returned v) w' := by
 obtain ⟨fn', t', ps', a', b', st, hl, hm⟩ := hK
 cases hv with
 | yield hs hb2 =>
  rename_i s
  have hro := hS'.obj _ _ _ hs hl
  obtain ⟨b, lp, hb, hh, _, _, _, _, hst, _⟩ := hro
  obtain rfl : b = bl := by rw [hb2] at hb; exact (Option.some.inj hb).symm
  have hnb : lp.state ≠ LoopState.busy := by
   cases st with
   | none => rw [hst.1]; simp
   | some c => rw [hst.1]; simp
  have hpend : lp.pending = st := by
   cases st with
   | none => exact hst.2
   | some c => exact hst.2
  have hend : (Instr.endLoop b).run E.P w' = .ok st (putB w' b (.loop { lp with state := .exhausted })) := by
   simp [Instr.endLoop, run_getLoop hh, hnb, run_setLoop _ hh, hpend]
  generalize (Obj.loop { lp with state := .exhausted }) = ob at hend
  obtain ⟨F4, Γ4, H4, av4, g1, g2, ⟨_, rfl⟩, g4, g5⟩ := out_ob (n0 := n0) hS' hX0.nlen hs hl rfl hb (ob := ob) (o' := .none) trivial (K := fun H4 => H4 = H'.set l .none) rfl
   (v := undef) (av := .dead) (.dead _)
  have hT4 : RT (putB w' b ob) F4 Γ4 t tmps := hT'.mono g4.sub (g4.stay hS') g5
  have hD4 : DR Γ4 ds df := hD'.mono g5
  have hXall := hX0.trans (Nat.le_refl _) g4
  have fin : ∀ (X : K3), WK E n0 X t (H'.set l .none) ds → Lat E n0 w F Γ H X { tmps := tmps, defers := df } (putB w' b ob) := fun X ⟨t5, H5, ds5, hwk, hQ⟩ => by
   obtain ⟨F5, Γ5, k1, k2, k3, k4⟩ := hwk _ F4 Γ4 tmps df g1 hT4 hD4 g4.nlen
   exact ⟨F5, Γ5, t5, H5, ds5, ⟨k1, k2, k3⟩, hXall.trans (Nat.le_refl _) k4, hQ⟩
  refine ⟨st, _, hend, ?_⟩
  cases st with
  | none => exact fin _ hm
  | some c =>
   cases c with
   | ret => exact wpIn_ret (fin _ hm)
   | exit i => exact wpIn_exit (fin _ hm)
   | _ => exact hm.elim
theorem arng_ok {E : Env} (hE : EnvOk E) {n n0 : Nat} {g : Operand} {ps : Array Tmp} {assign body : Code} {Q : Q3} {t : List AV} {H : List AObj} {ds : List Nat} (h : ∀ fn, arng E n0 (ev E t g) t H ds ps.toList assign body Q fn)
  {w : World} {F : Nat → Prop} {Γ : List Slot} {a : Act} (hR : Rel E w F Γ t H ds a) (hn : n0 ≤ Γ.length) :
  (Code.rangeFunc g ps assign body).wpIn (Wr none) n E.P (fun e a' w' => Lat E n0 w F Γ H (Q e) a' w') a w := by
 refine wpIn_rangeFunc fun fn _ => ?_
 have h := h fn
 obtain ⟨bl, W, F2, Γ2, hrun, s2, hT2, hD2, rv2, x12⟩ := arng_lay (n0 := n0) (ps := ps) (assign := assign) (body := body) fn hR hn
 have key : ∃ f cv caps, a.eval g = .func (.func f) #[] cv ∧ RVL W F2 Γ2 caps cv ∧
   ACalls E f (.yield (H.length + 1) :: caps) (H ++ [.defr, .loop fn t ps.toList assign body (some none)]) (fun _ H' => Krng E n0 Q (H.length + 1) t (H.length :: ds) H') := by
  have hg := ev_ok s2 (a := a) hT2 g
  unfold arng at h
  split at h <;> try exact h.elim
  ·rename_i f caps he
   rw [he] at hg
   generalize a.eval g = gv at hg
   have hd := hg.of_d
   cases hd with
   | func f cs vs hs hr =>
    exact ⟨f, vs, caps.map .d, rfl, ⟨by simpa using hs, fun j av hj => by
     rw [List.getElem?_map] at hj
     cases hx : caps[j]? with
     | none => simp [hx] at hj
     | some x => simp [hx] at hj; subst hj; exact .d (hr j x hx)⟩, h⟩
  ·rename_i f caps he
   rw [he] at hg
   generalize a.eval g = gv at hg
   cases hg with
   | func f cs vs hs hr => exact ⟨f, vs, caps, rfl, ⟨hs, hr⟩, h⟩
 obtain ⟨f, cv, caps, hev, hcaps, hcall⟩ := key
 have hV : RVL W F2 Γ2 (.yield (H.length + 1) :: caps) (#[.func (.yield bl) #[] #[]] ++ cv) := by
  refine ⟨by simp [hcaps.1]; omega, fun j av hj => ?_⟩
  cases j with
  | zero =>
   simp at hj; subst hj
   rw [Array.getD_eq_getD_getElem?, Array.getElem?_append_left (by simp)]
   exact rv2
  | succ j =>
   have := hcaps.2 j av (by simpa using hj)
   rw [Array.getD_eq_getD_getElem?, Array.getElem?_append_right (by simp)]
   rw [Array.getD_eq_getD_getElem?] at this
   simpa using this
 generalize (H ++ [.defr, .loop fn t ps.toList assign body (some none)]) = HH at *
 have hc : CallsIn (Wr none) (n - 1) E.P f (#[.func (.yield bl) #[] #[]] ++ cv) W (rangePost (Wr none) n E.P bl (fun e a' w' => Lat E n0 w F Γ H (Q e) a' w') { tmps := a.tmps, defers := ({ target := .collected w.heap.size, args := #[] } : Deferred) :: a.defers }) := by
  refine Wr_calls ((hcall.2 W F2 Γ2 _ s2 hV).mono ?_)
  rintro e w' ⟨v, r, H', F', Γ', rfl, hS', hv', hK, hX⟩
  have hpre : ∀ (id : Nat) s, Γ2[id]? = some s → Γ'[id]? = some s := fun id s hs => by
   rw [hX.pre id (by rw [← s2.len]; exact (List.getElem?_eq_some_iff.1 hs).1)]; exact hs
  have hstay := hX.stay s2
  have hX0 : Ext n0 W F2 Γ2 HH w' F' Γ' H' :=
   { hX with pre := fun id hid => hX.pre id (by rw [← s2.len]; have := x12.nlen; omega), nlen := Nat.le_trans (by rw [← s2.len]; exact x12.nlen) hX.nlen }
  exact arng_end hS' (hT2.mono hX.sub hstay hpre) (hD2.mono hpre) (rv2.mono hX.sub hstay hpre) (x12.trans (Nat.le_refl _) hX0) hK v
 have hres : (resolve a.eval (rangeCall g bl) 0).run E.P W = .ok { target := .fn (.func f) cv, args := #[.func (.yield bl) #[] #[]] } W := by
  have ec : a.eval (.const (.func (.yield bl) #[] #[])) = .func (.yield bl) #[] #[] := rfl
  simp [resolve, rangeCall, hev, ec, Deferred.ofValue]
 have hinv : (invoke (.fn (.func f) cv) #[.func (.yield bl) #[] #[]]).run E.P W = .ok (.enter f (#[.func (.yield bl) #[] #[]] ++ cv)) W := by
  simp only [invoke]; exact hcall.1 _ _
 have hdep : (Wr none).depth.isSome = true → 1 ≤ n := fun h => by simp [Wr, Fence.wide] at h
 exact ⟨bl, _, W, _, W, f, _, W, hrun, hres, fun _ _ => trivial, hinv, hdep, hc⟩
theorem awp_ok {E : Env} (hE : EnvOk E) {ro : Option Nat} {rd : Bool} (hrd : rd = false → ro = none) {n n0 : Nat} : ∀ (c : Code) (Q : Q3) (t : List AV) (H : List AObj) (ds : List Nat), awp E n0 rd c Q t H ds →
  ∀ (w : World) (F : Nat → Prop) (Γ : List Slot) (a : Act), Rel E w F Γ t H ds a → n0 ≤ Γ.length →
   c.wpIn (Wr ro) n E.P (fun e a' w' => Lat E n0 w F Γ H (Q e) a' w') a w
 | .skip, Q, t, H, ds, h, w, F, Γ, a, hR, hn => wpIn_skip ⟨F, Γ, t, H, ds, hR, Ext.refl hn, h⟩
 | .region id ops draw, Q, t, H, ds, h, w, F, Γ, a, hR, hn => by
  cases draw with
  | false =>
   refine wpIn_region_list ?_
   have := areg_ok (ro := ro) (n := n) hE ops.toList (Q .normal) ops.toList t H ds h w F Γ a hR hn (fun e a' w' => Lat E n0 w F Γ H (Q e) a' w') (fun _ _ h => h)
   simpa using this
  | true =>
   rcases h with ⟨h1, h2⟩ | ⟨h1, h2⟩ | ⟨h1, h2⟩
   ·exact draw_ok hE h1 h2 hR hn (fun _ _ h => h)
   ·exact draw2_ok hE h1 h2 hR hn (fun _ _ h => h)
   ·exact any_ok hE h1 h2 hR hn (fun _ _ h => h)
 | .seq x y, Q, t, H, ds, h, w, F, Γ, a, hR, hn => by
  refine wpIn_seq (wpIn_mono (awp_ok hE hrd x _ t H ds h w F Γ a hR hn) ?_)
  rintro e a1 w1 ⟨F1, Γ1, t1, H1, ds1, hR1, hX1, hQ1⟩
  cases e with
  | normal =>
   refine wpIn_mono (awp_ok hE hrd y Q t1 H1 ds1 hQ1 w1 F1 Γ1 a1 hR1 hX1.nlen) ?_
   rintro e a2 w2 ⟨F2, Γ2, t2, H2, ds2, hR2, hX2, hQ2⟩
   exact ⟨F2, Γ2, t2, H2, ds2, hR2, hX1.trans (Nat.le_refl _) hX2, hQ2⟩
  | _ => exact ⟨F1, Γ1, t1, H1, ds1, hR1, hX1, hQ1⟩
 | .cond c x y, Q, t, H, ds, h, w, F, Γ, a, hR, hn => by
  simp only [awp] at h
  split at h <;> try exact h.elim
  rename_i b hc
  have hv := ev_ok hR.sr hR.rt c
  rw [hc] at hv
  have hv' := RD_bool hv.of_d
  exact wpIn_cond_split hv' (fun hb => awp_ok hE hrd x Q t H ds (h.1 hb) w F Γ a hR hn) (fun hb => awp_ok hE hrd y Q t H ds (h.2 hb) w F Γ a hR hn)
 | .block id x, Q, t, H, ds, h, w, F, Γ, a, hR, hn => by
  refine wpIn_block (wpIn_mono (awp_ok hE hrd x _ t H ds h w F Γ a hR hn) ?_)
  rintro e a1 w1 ⟨F1, Γ1, t1, H1, ds1, hR1, hX1, hQ1⟩
  cases e with
  | exit i =>
   simp only [Exit.inBlock] at hQ1 ⊢
   split
   ·rename_i hi; rw [if_pos hi] at hQ1; exact ⟨F1, Γ1, t1, H1, ds1, hR1, hX1, hQ1⟩
   ·rename_i hi; rw [if_neg hi] at hQ1; exact ⟨F1, Γ1, t1, H1, ds1, hR1, hX1, hQ1⟩
  | _ => exact ⟨F1, Γ1, t1, H1, ds1, hR1, hX1, hQ1⟩
 | .loop x, Q, t, H, ds, h, w, F, Γ, a, hR, hn => by
  obtain ⟨I, ⟨k0, t0, H0, ds0, hwk, hI0⟩, hround⟩ := h
  obtain ⟨F0, Γ0, s1, s2, s3, s4⟩ := hwk w F Γ a.tmps a.defers hR.sr hR.rt hR.dr hn
  let J : Nat → Act → World → Prop := fun k a' w' => Lat E n0 w F Γ H (I k) a' w'
  have hJ0 : J k0 a w := ⟨F0, Γ0, t0, H0, ds0, ⟨s1, s2, s3⟩, s4, hI0⟩
  refine wpIn_loop (fun a' w' => ∃ k, J k a' w') (fun a' w' => Classical.epsilon fun k => J k a' w' ∧ ∀ j, J j a' w' → k ≤ j) ⟨k0, hJ0⟩ ?_
  rintro a1 w1 ⟨k1, hk1⟩
  have least : ∀ a' w', (∃ k, J k a' w') → J (Classical.epsilon fun k => J k a' w' ∧ ∀ j, J j a' w' → k ≤ j) a' w' ∧ ∀ j, J j a' w' → (Classical.epsilon fun k => J k a' w' ∧ ∀ j, J j a' w' → k ≤ j) ≤ j := fun a' w' hex => by
   have : ∃ k, J k a' w' ∧ ∀ j, J j a' w' → k ≤ j := by
    obtain ⟨k, hk⟩ := hex
    induction k using Nat.strongRecOn with
    | _ k ih =>
     by_cases hm : ∃ j, j < k ∧ J j a' w'
     ·obtain ⟨j, hj, hJj⟩ := hm; exact ih j hj hJj
     ·exact ⟨k, hk, fun j hj => Nat.le_of_not_lt fun hlt => hm ⟨j, hlt, hj⟩⟩
   exact Classical.epsilon_spec this
  obtain ⟨hm1, _⟩ := least a1 w1 ⟨k1, hk1⟩
  generalize hμ : (Classical.epsilon fun k => J k a1 w1 ∧ ∀ j, J j a1 w1 → k ≤ j) = m1 at hm1 ⊢
  obtain ⟨F1, Γ1, t1, H1, ds1, hR1, hX1, hI1⟩ := hm1
  refine wpIn_mono (awp_ok hE hrd x _ t1 H1 ds1 (hround m1 t1 H1 ds1 hI1) w1 F1 Γ1 a1 hR1 hX1.nlen) ?_
  rintro e a2 w2 ⟨F2, Γ2, t2, H2, ds2, hR2, hX2, hQ2⟩
  cases e with
  | normal =>
   obtain ⟨k', hk', t3, H3, ds3, hwk3, hI3⟩ := hQ2
   obtain ⟨F3, Γ3, u1, u2, u3, u4⟩ := hwk3 w2 F2 Γ2 a2.tmps a2.defers hR2.sr hR2.rt hR2.dr hX2.nlen
   have hJ' : J k' a2 w2 := ⟨F3, Γ3, t3, H3, ds3, ⟨u1, u2, u3⟩, (hX1.trans (Nat.le_refl _) hX2).trans (Nat.le_refl _) u4, hI3⟩
   exact ⟨⟨k', hJ'⟩, Nat.lt_of_le_of_lt ((least a2 w2 ⟨k', hJ'⟩).2 k' hJ') hk'⟩
  | _ => exact ⟨F2, Γ2, t2, H2, ds2, hR2, hX1.trans (Nat.le_refl _) hX2, hQ2⟩
 | .exit id, Q, t, H, ds, h, w, F, Γ, a, hR, hn => wpIn_exit ⟨F, Γ, t, H, ds, hR, Ext.refl hn, h⟩
 | .ret, Q, t, H, ds, h, w, F, Γ, a, hR, hn => wpIn_ret ⟨F, Γ, t, H, ds, hR, Ext.refl hn, h⟩
 | .rangeFunc g ps assign body, Q, t, H, ds, h, w, F, Γ, a, hR, hn => by
  obtain ⟨rfl, h⟩ := h
  obtain rfl := hrd rfl
  exact arng_ok hE h hR hn
 | .scope x, Q, t, H, ds, h, w, F, Γ, a, hR, hn => by
  refine wpIn_scope (wpIn_mono (awp_ok hE hrd x _ t H ds h w F Γ a hR hn) ?_)
  rintro e a1 w1 ⟨F1, Γ1, t1, H1, ds1, hR1, hX1, hQ1⟩
  cases e with
  | goto l => exact hQ1.elim
  | _ => exact ⟨F1, Γ1, t1, H1, ds1, hR1, hX1, hQ1⟩
 | .label _, Q, t, H, ds, h, w, F, Γ, a, hR, hn => wpIn_label ⟨F, Γ, t, H, ds, hR, Ext.refl hn, h⟩
 | .goto _, Q, t, H, ds, h, _, _, _, _, _, _ => h.elim
 | .refuse _, Q, t, H, ds, h, _, _, _, _, _, _ => h.elim
/-! ### A round's contract from its code -/
def putPs : List AV → List Tmp → List AV → List AV
 | t, p :: ps, a :: as => putPs (t.set p a) ps as
 | t, _, _ => t
def Qrnd (E : Env) (n0 id : Nat) (K : AV → List AObj → Prop) : Q3 := fun e t H ds => match e with
 | .normal => WK E n0 (fun _ H' _ => ∃ fn t' ps a b, H'[id]? = some (.loop fn t' ps a b none) ∧ K (.d (.bool true)) (H'.set id (.loop fn t' ps a b (some none)))) t H ds
 | .ret => WK E n0 (fun _ H' _ => ∃ fn t' ps a b, H'[id]? = some (.loop fn t' ps a b none) ∧ K (.d (.bool false)) (H'.set id (.loop fn t' ps a b (some (some .ret))))) t H ds
 | .exit i => WK E n0 (fun _ H' _ => ∃ fn t' ps a b, H'[id]? = some (.loop fn t' ps a b none) ∧ K (.d (.bool false)) (H'.set id (.loop fn t' ps a b (some (some (.exit i)))))) t H ds
 | _ => False
def Qasg (E : Env) (n0 id : Nat) (body : Code) (K : AV → List AObj → Prop) : Q3 := fun e t H ds => match e with
 | .normal => ∃ fn t' ps a, H[id]? = some (.loop fn t' ps a body (some none)) ∧ awp E n0 true body (Qrnd E n0 id K) t (H.set id (.loop fn t' ps a body none)) ds
 | _ => False
theorem RT.putPs {w : World} {F : Nat → Prop} {Γ : List Slot} : ∀ (ps : List Tmp) (as : List AV) (vs : List Value) (t : List AV) (tm : Array Value), RT w F Γ t tm → as.length = vs.length →
  (∀ j av, as[j]? = some av → RV w F Γ av (vs.getD j undef)) → RT w F Γ (putPs t ps as) ((ps.zip vs).foldl (fun tm (p : Tmp × Value) => tm.setIfInBounds p.1 p.2) tm)
 | [], as, vs, t, tm, h, _, _ => by simpa [Abs.putPs] using h
 | p :: ps, [], vs, t, tm, h, hl, _ => by
  have : vs = [] := List.eq_nil_of_length_eq_zero (by simpa using hl.symm)
  subst this
  simpa [Abs.putPs] using h
 | p :: ps, a :: as, [], t, tm, h, hl, _ => by simp at hl
 | p :: ps, a :: as, v :: vs, t, tm, h, hl, hv => by
  simp only [Abs.putPs, List.zip_cons_cons, List.foldl_cons]
  exact RT.putPs ps as vs _ _ (h.set p (by simpa using hv 0 a rfl)) (by simpa using hl) (fun j av hj => by simpa using hv (j + 1) av (by simpa using hj))
theorem ayield_of {E : Env} (hE : EnvOk E) {id : Nat} {args : List AV} {H : List AObj} {K : AV → List AObj → Prop} {fn : FuncId} {t : List AV} {ps : List Tmp} {assign body : Code}
  (ho : H[id]? = some (.loop fn t ps assign body (some none))) (hl : args.length = ps.length)
  (h : awp E H.length true assign (Qasg E H.length id body K) (putPs t ps args) H []) : AYield E id args H K := by
 intro w F Γ vs s b hS hV hs hb
 obtain ⟨b', l, hb', hh, h1, h2, h3, h4, hst, h5⟩ := hS.obj id s _ hs ho
 obtain rfl : b' = b := by rw [hb] at hb'; exact (Option.some.inj hb').symm
 have hn : H.length ≤ Γ.length := by rw [hS.len]; exact Nat.le_refl _
 have hlt : id < H.length := (List.getElem?_eq_some_iff.1 ho).1
 have hsz : vs.size = l.params.size := by rw [hV.1, hl, ← h2]; simp
 have hT : RT w F Γ (putPs t ps args) ((l.params.zip vs).foldl (fun tm (p : Tmp × Value) => tm.setIfInBounds p.1 p.2) l.tmps) := by
  have := RT.putPs (w := w) (F := F) (Γ := Γ) ps args vs.toList t l.tmps h5 (by simp [hV.1]) (fun j av hj => by
   have := hV.2 j av hj
   rwa [Array.getD_eq_getD_getElem?, ← Array.getElem?_toList, ← List.getD_eq_getElem?_getD] at this)
  rw [← h2] at this ⊢
  rw [← Array.foldl_toList]
  simpa using this
 refine ⟨l.fn, (l.params.zip vs).foldl (fun tm (p : Tmp × Value) => tm.setIfInBounds p.1 p.2) l.tmps, l.assign, l.body, ?_, ?_⟩
 ·simp [Instr.yield, run_getLoop hh, hsz]
 rw [h3, h4]
 refine roundIn_of_wpIn (F := Fence.wide) trivial ?_
 refine wpIn_mono (awp_ok (ro := some b') (rd := true) (n := 0) hE (fun h => by cases h) assign _ _ H [] h w F Γ _ ⟨hS, hT, ⟨rfl, fun i id hi => by simp at hi⟩⟩ hn) ?_
 rintro e a1 w1 ⟨F1, Γ1, t1, H1, ds1, hR1, hX1, hq⟩
 cases e with
 | normal =>
  obtain ⟨fn1, t1', ps1, as1, ho1, hbody⟩ := hq
  have hs1 : Γ1[id]? = some s := by rw [hX1.pre id hlt]; exact hs
  obtain ⟨b1, l1, hb1, hh1, k1, k2, k3, k4, kst, k5⟩ := hR1.sr.obj id s _ hs1 ho1
  obtain rfl : b1 = b' := by rw [hb] at hb1; exact (Option.some.inj hb1).symm
  have hbeg : (Instr.beginRound b1).run E.P w1 = .ok () (putB w1 b1 (.loop { l1 with state := .busy })) := by
   simp [Instr.beginRound, run_getLoop hh1, run_setLoop _ hh1, kst.1]
  have hnF : ∀ (ob : Obj) q, F1 q → (putB w1 b1 ob).heap[q]? = w1.heap[q]? := fun ob q hq => putB_other w1 b1 q ob fun e => by subst e; exact hR1.sr.sep id s _ q hs1 ho1 rfl hb hq
  obtain ⟨F2, Γ2, H2, av2, s2, _, ⟨_, rfl⟩, x2, p2⟩ := out_ob (n0 := H.length) hR1.sr hX1.nlen hs1 ho1 rfl hb (ob := .loop { l1 with state := .busy }) (o' := .loop fn1 t1' ps1 as1 body none)
   ⟨b1, { l1 with state := .busy }, hb, putB_same hh1 _, k1, k2, k3, k4, rfl, k5.1, fun j av hj => (k5.2 j av hj).mono (fun _ h => h) (hnF _) (fun _ _ h => h)⟩
   (K := fun H2 => H2 = H1.set id (.loop fn1 t1' ps1 as1 body none)) rfl (v := undef) (av := .dead) (.dead _)
  refine ⟨_, hbeg, ?_⟩
  generalize (Obj.loop { l1 with state := .busy }) = ob1 at s2 x2 hbeg ⊢
  have hT2 : RT (putB w1 b1 ob1) F2 Γ2 t1 a1.tmps := hR1.rt.mono x2.sub (x2.stay hR1.sr) p2
  have hD2 : DR Γ2 ds1 a1.defers := hR1.dr.mono p2
  refine wpIn_mono (awp_ok (ro := some b1) (rd := true) (n := 0) hE (fun h => by cases h) body _ t1 _ ds1 hbody _ F2 Γ2 a1 ⟨s2, hT2, hD2⟩ x2.nlen) ?_
  rintro e a3 w3 ⟨F3, Γ3, t3, H3, ds3, hR3, hX3, hq3⟩
  have hX13 := (hX1.trans (Nat.le_refl _) x2).trans (Nat.le_refl _) hX3
  have fin : ∀ (bv : Bool) (jmp : Option Code) (st : Option Code), bv = jmp.isNone → st = jmp → (WK E H.length (fun _ H' _ => ∃ fn t' ps a b, H'[id]? = some (.loop fn t' ps a b none) ∧ K (.d (.bool bv)) (H'.set id (.loop fn t' ps a b (some st)))) t3 H3 ds3) →
    ∃ v w', (Instr.endRound b1 jmp).run E.P w3 = .ok v w' ∧ ∃ v' r H' F' Γ', Ending.returned v = .returned v' ∧ SR E w' F' Γ' H' ∧ RV w' F' Γ' r v' ∧ K r H' ∧ Ext H.length w F Γ H w' F' Γ' H' := by
   rintro bv jmp st rfl rfl ⟨t4, H4, ds4, hwk, fn4, t4', ps4, as4, bd4, ho4, hK⟩
   obtain ⟨F4, Γ4, g1, g2, g3, g4⟩ := hwk w3 F3 Γ3 a3.tmps a3.defers hR3.sr hR3.rt hR3.dr hX3.nlen
   have hX14 := hX13.trans (Nat.le_refl _) g4
   have hs4 : Γ4[id]? = some s := by rw [hX14.pre id hlt]; exact hs
   obtain ⟨b4, l4, hb4, hh4, q1, q2, q3, q4, qst, q5⟩ := g1.obj id s _ hs4 ho4
   obtain rfl : b4 = b1 := by rw [hb] at hb4; exact (Option.some.inj hb4).symm
   have hnF4 : ∀ (ob : Obj) q, F4 q → (putB w3 b4 ob).heap[q]? = w3.heap[q]? := fun ob q hq => putB_other w3 b4 q ob fun e => by subst e; exact g1.sep id s _ q hs4 ho4 rfl hb hq
   obtain ⟨F5, Γ5, H5, av5, s5, r5, ⟨rfl, hK5⟩, x5, p5⟩ := out_ob (n0 := H.length) g1 hX14.nlen hs4 ho4 rfl hb (ob := .loop { l4 with state := if st.isNone then .ready else .done, pending := st }) (o' := .loop fn4 t4' ps4 as4 bd4 (some st))
    ⟨b4, _, hb, putB_same hh4 _, q1, q2, q3, q4, by cases st <;> exact ⟨rfl, rfl⟩, q5.1, fun j av hj => (q5.2 j av hj).mono (fun _ h => h) (hnF4 _) (fun _ _ h => h)⟩
    (K := K (.d (.bool st.isNone))) hK (v := .bool st.isNone) (av := .d (.bool st.isNone)) (.d (.bool _))
   exact ⟨_, _, by simp [Instr.endRound, run_getLoop hh4, run_setLoop _ hh4], _, _, H5, F5, Γ5, rfl, s5, r5, hK5, hX14.trans (Nat.le_refl _) x5⟩
  cases e with
  | normal => exact fin true none none rfl rfl hq3
  | ret => exact fin false (some .ret) (some .ret) rfl rfl hq3
  | exit i => exact fin false (some (.exit i)) (some (.exit i)) rfl rfl hq3
  | _ => exact hq3.elim
 | _ => exact hq.elim
end Go.Abs
end
