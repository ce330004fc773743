/-
  Maps that are made, written, emptied.
-/
import Derived.Test.YtjljjakfebfpfaaDoorAbs6
set_option autoImplicit false
set_option linter.unusedVariables false
set_option linter.unusedSimpArgs false
namespace Go.Abs

def amkmap (E : Env) (T : TypeId) (r : Option AV) (H : List AObj) (K : AV → List AObj → Prop) : Prop := match r with
  | none => K (.mapo H.length) (H ++ [.map []])
  | some (.d (.int _ _)) => (match kd E T with
    | some (.map _ _) => K (.mapo H.length) (H ++ [.map []])
    | _ => False)
  | _ => False
def amapup (E : Env) (T : TypeId) (H : List AObj) (m k v : AV) (K : List AObj → Prop) : Prop := match kd E T with
  | some (.map kt _) => (match E.key kt, m, k, v.low with
    | some g, .mapo id, .d kd, .d vd => (match H.getD id .none with
      | .map es => g kd = true ∧ (∀ p ∈ es, g p.1 = true) ∧ K (H.set id (.map (dput es kd vd)))
      | _ => False)
    | _, _, _, _ => False)
  | _ => False
def adel (E : Env) (T : TypeId) (H : List AObj) (m k : AV) (K : List AObj → Prop) : Prop := match kd E T with
  | some (.map kt _) => (match E.key kt, m, k with
    | some g, .mapo id, .d kd => (match H.getD id .none with
      | .map es => g kd = true ∧ (∀ p ∈ es, g p.1 = true) ∧ K (H.set id (.map (ddel es kd)))
      | _ => False)
    | some g, .d .nilm, .d kd => g kd = true ∧ K H
    | _, _, _ => False)
  | _ => False
def aclear (E : Env) (T : TypeId) (H : List AObj) (m : AV) (K : List AObj → Prop) : Prop := match kd E T with
  | some (.map _ _) => (match m with
    | .mapo id => (match H.getD id .none with
      | .map es => K (H.set id (.map []))
      | _ => False)
    | .d .nilm => K H
    | _ => False)
  | _ => False

section
variable {E : Env} {w : World} {F : Nat → Prop} {Γ : List Slot} {H : List AObj} {n0 : Nat}

/-- A block of its own, written anew. -/
def putB (w : World) (b : Nat) (ob : Obj) : World := { w with heap := w.heap.setIfInBounds b ob }
theorem putB_other (w : World) (b k : Nat) (ob : Obj) (h : k ≠ b) : (putB w b ob).heap[k]? = w.heap[k]? := by
  simp [putB, Array.getElem?_setIfInBounds_ne (Ne.symm h)]
theorem putB_same {w : World} {b : Nat} {o : Obj} (h : w.heap[b]? = some o) (ob : Obj) : (putB w b ob).heap[b]? = some ob := by
  have hlt : b < w.heap.size := (Array.getElem?_eq_some_iff.1 h).1
  simp [putB, hlt]
theorem putB_id {w : World} {b : Nat} {o : Obj} (h : w.heap[b]? = some o) : putB w b o = w := by
  unfold putB
  have e : w.heap.setIfInBounds b o = w.heap := by
    apply Array.ext_getElem?
    intro i
    by_cases hi : i = b
    · subst hi; exact (putB_same h o).trans h.symm
    · exact putB_other w b i o hi
  rw [e]

theorem out_ob (hS : SR E w F Γ H) (hn : n0 ≤ Γ.length) {id b : Nat} {s : Slot} {o o' : AObj} (hs : Γ[id]? = some s) (ho : H[id]? = some o) (hl : o.live = true) (hb : s.b = some b)
    {ob : Obj} (hro : RO (putB w b ob) F Γ s o') {K : List AObj → Prop} (hK : K (H.set id o')) {v : Value} {av : AV} (hv : RV (putB w b ob) F Γ av v) : Out E n0 w F Γ H v (putB w b ob) (fun a H' => a = av ∧ K H') := by
  have hnotF : ¬ F b := hS.sep id s o b hs ho hl hb
  have hnotL : ¬ LiveB Γ (H.set id .none) b := fun ⟨j, sj, oj, h1, h2, h3, h4⟩ => by
    rcases set_get h2 with ⟨_, rfl, _⟩ | ⟨hne, h2⟩
    · simp [AObj.live] at h3
    · exact hne (hS.inj id j s sj o oj b hs h1 ho h2 hl h3 hb h4)
  have hother : ∀ k, k ≠ b → (putB w b ob).heap[k]? = w.heap[k]? := fun k hk => putB_other w b k ob hk
  have hSw : SR E (putB w b ob) F Γ (H.set id .none) := (hS.dead id).world (by simp [putB]) (fun k hk => hother k (by
    rintro rfl
    rcases hk with hk | hk
    · exact hnotF hk
    · exact hnotL hk))
  have hS' : SR E (putB w b ob) F Γ ((H.set id .none).set id o') := hSw.revive hs hro (fun b' hb' => by
    rw [hb] at hb'
    obtain rfl := Option.some.inj hb'
    exact ⟨hnotF, by rw [List.set_set]; exact hnotL⟩)
  rw [List.set_set] at hS'
  refine ⟨F, Γ, _, av, hS', hv, ⟨rfl, hK⟩, ⟨rfl, rfl, rfl, by simp [putB], fun k hk hlive => hother k (fun e => hlive (by subst e; exact ⟨id, s, o, hs, ho, hl, hb⟩)), fun _ h => h, fun _ h _ => .inl h, fun k hk hlt => ?_, fun _ _ => rfl, hn⟩, fun _ _ h => h⟩
  obtain ⟨j, sj, oj, h1, h2, h3, h4⟩ := hk
  rcases set_get h2 with ⟨rfl, rfl, _⟩ | ⟨_, h2⟩
  · rw [hs] at h1
    obtain rfl := Option.some.inj h1
    exact ⟨id, s, o, hs, ho, hl, h4⟩
  · exact ⟨j, sj, oj, h1, h2, h3, h4⟩

theorem run_setMap {P : Program} {r : Nat} {es : Array MapEntry} {clock : Nat} (o : Obj) (hb : w.heap[r]? = some (.map es clock)) : (setObj r o).run P w = .ok () (putB w r o) :=
  MapKept.run_setObj_map o hb

theorem amkmap_ok (hE : EnvOk E) (hS : SR E w F Γ H) (hn : n0 ≤ Γ.length) {T : TypeId} {r : Option AV} {K : AV → List AObj → Prop} (h : amkmap E T r H K) {rv : Option Value} (hr : OV w F Γ r rv) :
    ∃ u w', (Instr.makeMap T rv).run E.P w = .ok u w' ∧ Out E n0 w F Γ H u w' K := by
  have hnew : (w.alloc (.map #[] 0)).heap[w.heap.size]? = some (.map #[] 0) := heap_new w _
  have out : K (.mapo H.length) (H ++ [.map []]) → Out E n0 w F Γ H (.map (some w.heap.size)) (w.alloc (.map #[] 0)) K := fun h =>
    out_new hS hn rfl rfl rfl rfl (s := ⟨some w.heap.size, 0, 0, 0⟩) rfl (.inl rfl) (o := .map []) ⟨w.heap.size, #[], 0, rfl, hnew, rfl, fun i k v hi => by simp at hi, fun i j mi mj hi => by simp at hi⟩
      (av := .mapo H.length) (by rw [← hS.len]; exact .mapo (push_get Γ _) rfl) h
  unfold amkmap at h
  split at h
  · cases rv with
    | none => exact ⟨_, _, by simp [Instr.makeMap], out h⟩
    | some v => exact hr.elim
  · rename_i k n
    split at h <;> try exact h.elim
    rename_i kt e hkd
    obtain ⟨d, hf, hrun⟩ := kd_some hE hkd
    simp only [Kd.fits] at hf
    subst hf
    cases rv with
    | none => exact hr.elim
    | some v =>
      have := RD_int (RV.of_d hr)
      subst this
      exact ⟨_, _, by simp [Instr.makeMap, hrun, asInt, asIntOf], out h⟩
  · exact h.elim

theorem getD_arr {arr : Array MapEntry} {i : Nat} {me : MapEntry} (h : arr[i]? = some me) : arr.toList.getD i default = me := by
  rw [List.getD_eq_getElem?_getD, Array.getElem?_toList, h]; rfl

theorem amapup_ok (hE : EnvOk E) (hS : SR E w F Γ H) (hn : n0 ≤ Γ.length) {T : TypeId} {m k v : AV} {K : List AObj → Prop} (h : amapup E T H m k v K) {mv kv vv : Value}
    (hm : RV w F Γ m mv) (hk : RV w F Γ k kv) (hv : RV w F Γ v vv) :
    ∃ w', (Instr.mapUpdate T mv kv vv).run E.P w = .ok () w' ∧ Out E n0 w F Γ H undef w' (fun _ H' => K H') := by
  unfold amapup at h
  split at h <;> try exact h.elim
  rename_i kt e hkd
  obtain ⟨d, hf, hr⟩ := kd_some hE hkd
  simp only [Kd.fits] at hf
  subst hf
  split at h <;> try exact h.elim
  rename_i g id kd vd hg hvd
  split at h <;> try exact h.elim
  rename_i es ho
  obtain ⟨hgk, hes, hK⟩ := h
  have hkd := hk.of_d
  have hvl := hv.low
  rw [hvd] at hvl
  have hvd' := hvl.of_d
  cases hm with
  | mapo hs hb =>
    rename_i s b
    obtain ⟨ho', b', arr, clock, hb', hh, hR⟩ := obj_at hS hs ho rfl
    obtain rfl : b' = b := by rw [hb] at hb'; exact (Option.some.inj hb').symm
    have hfind := re_find hE hg (w := w) (F := F) hR hgk hkd hes
    have hchk := fun e => (hE.key kt g hg).chk w F kd kv e hgk hkd
    have hnF : ∀ q, F q → q ≠ b' := fun q hq e => by subst e; exact hS.sep id s _ q hs ho' rfl hb hq
    have hstay : ∀ (ob : Obj) q, F q → (putB w b' ob).heap[q]? = w.heap[q]? := fun ob q hq => putB_other w b' q ob (hnF q hq)
    have fin : ∀ (arr' : Array MapEntry) (clock' : Nat), RE (putB w b' (.map arr' clock')) F (dput es kd vd) arr' clock' → Out E n0 w F Γ H undef (putB w b' (.map arr' clock')) (fun _ H' => K H') := fun arr' clock' hR' => by
      obtain ⟨F', Γ', H', av, g1, g2, ⟨rfl, g3⟩, g4⟩ := out_ob (v := undef) (av := .dead) hS hn hs ho' rfl hb (ob := .map arr' clock') (o' := .map (dput es kd vd))
        ⟨b', arr', clock', hb, putB_same hh _, hR'.1, hR'.2.1, hR'.2.2⟩ hK (.dead _)
      exact ⟨F', Γ', H', .dead, g1, g2, g3, g4⟩
    cases hi : es.findIdx? (fun p => dkeq kd p.1) with
    | none =>
      rw [hi] at hfind
      refine ⟨_, by simp [Instr.mapUpdate, hr, run_getMap hh, hchk, hfind, run_setMap _ hh]; rfl, fin _ _ ?_⟩
      have e1 : dput es kd vd = es ++ [(kd, vd)] := by unfold dput; rw [hi]
      rw [e1]
      refine ⟨by simp [hR.1], fun i k v hik => ?_, fun i j mi mj h1 h2 he => ?_⟩
      · rcases Nat.lt_trichotomy i es.length with hlt | heq | hgt
        · rw [List.getElem?_append_left hlt] at hik
          obtain ⟨me, m1, m2, m3, m4⟩ := hR.2.1 i k v hik
          exact ⟨me, by rw [Array.getElem?_push_lt (by rw [hR.1]; exact hlt)]; rw [Array.getElem?_eq_getElem (by rw [hR.1]; exact hlt)] at m1; exact m1, m2.mono (fun _ h => h) (hstay _), m3.mono (fun _ h => h) (hstay _), by omega⟩
        · subst heq
          rw [List.getElem?_append_right (Nat.le_refl _)] at hik
          simp at hik
          obtain ⟨rfl, rfl⟩ := hik
          exact ⟨{ key := kv, val := vv, born := clock }, by rw [← hR.1]; simp, hkd.mono (fun _ h => h) (hstay _), hvd'.mono (fun _ h => h) (hstay _), Nat.lt_succ_self _⟩
        · rw [List.getElem?_eq_none (by simp; omega)] at hik
          simp at hik
      · have hold : ∀ (i : Nat) (mi : MapEntry), (arr.push { key := kv, val := vv, born := clock })[i]? = some mi → (i < arr.size ∧ arr[i]? = some mi ∧ mi.born < clock) ∨ (i = arr.size ∧ mi.born = clock) := fun i mi h => by
          rcases Nat.lt_trichotomy i arr.size with hlt | heq | hgt
          · rw [Array.getElem?_push_lt hlt] at h
            have h' : arr[i]? = some mi := by rw [Array.getElem?_eq_getElem hlt]; exact h
            refine .inl ⟨hlt, h', ?_⟩
            have hle : i < es.length := by rw [← hR.1]; exact hlt
            obtain ⟨me, m1, _, _, m4⟩ := hR.2.1 i es[i].1 es[i].2 (List.getElem?_eq_getElem hle)
            rw [h'] at m1
            obtain rfl := Option.some.inj m1
            exact m4
          · subst heq
            simp at h
            subst h
            exact .inr ⟨rfl, rfl⟩
          · rw [Array.getElem?_eq_none (by simp; omega)] at h
            simp at h
        rcases hold i mi h1 with ⟨a1, a2, a3⟩ | ⟨a1, a2⟩ <;> rcases hold j mj h2 with ⟨b1, b2, b3⟩ | ⟨b1, b2⟩
        · exact hR.2.2 i j mi mj a2 b2 he
        · omega
        · omega
        · omega
    | some i =>
      rw [hi] at hfind
      have hi' := hi
      rw [List.findIdx?_eq_some_iff_getElem] at hi'
      obtain ⟨hlt, hkeq, _⟩ := hi'
      have hgi : es[i]? = some es[i] := List.getElem?_eq_getElem hlt
      obtain ⟨me, m1, m2, m3, m4⟩ := hR.2.1 i es[i].1 es[i].2 hgi
      simp only [Option.map_some] at hfind
      rw [getD_arr m1] at hfind
      have hstays := (hE.key kt g hg).stay w F kd es[i].1 kv me.key hgk (hes _ (List.getElem_mem hlt)) hkeq hkd m2
      refine ⟨_, by simp [Instr.mapUpdate, hr, run_getMap hh, hchk, hfind, m1, hstays, run_setMap _ hh]; rfl, fin _ _ ?_⟩
      have e1 : dput es kd vd = es.set i (kd, vd) := by unfold dput; rw [hi]
      rw [e1]
      refine ⟨by simp [hR.1], fun j k v hjk => ?_, fun j l mj ml h1 h2 he => ?_⟩
      · rcases set_get hjk with ⟨rfl, hkv, _⟩ | ⟨hne, hjk⟩
        · simp at hkv
          obtain ⟨rfl, rfl⟩ := hkv
          exact ⟨{ me with key := kv, val := vv }, by simp [Array.getElem?_modify, m1], hkd.mono (fun _ h => h) (hstay _), hvd'.mono (fun _ h => h) (hstay _), m4⟩
        · obtain ⟨mj, n1, n2, n3, n4⟩ := hR.2.1 j k v hjk
          exact ⟨mj, by simp [Array.getElem?_modify, hne, n1], n2.mono (fun _ h => h) (hstay _), n3.mono (fun _ h => h) (hstay _), n4⟩
      · have old : ∀ (j : Nat) (mj : MapEntry), (arr.modify i fun e => { e with key := kv, val := vv })[j]? = some mj → ∃ m0, arr[j]? = some m0 ∧ m0.born = mj.born := fun j mj h => by
          rw [Array.getElem?_modify] at h
          split at h
          · cases hj : arr[j]? with
            | none => simp [hj] at h
            | some m0 => simp [hj] at h; exact ⟨m0, rfl, by rw [← h]⟩
          · exact ⟨mj, h, rfl⟩
        obtain ⟨a, a1, a2⟩ := old j mj h1
        obtain ⟨b, b1, b2⟩ := old l ml h2
        exact hR.2.2 j l a b a1 b1 (by rw [a2, b2, he])

theorem erase_get {α : Type} {l : List α} {i j : Nat} {x : α} (h : (l.eraseIdx i)[j]? = some x) : ∃ j', l[j']? = some x ∧ j' = if j < i then j else j + 1 := by
  rw [List.getElem?_eraseIdx] at h
  split at h
  · rename_i hlt; exact ⟨j, h, by rw [if_pos hlt]⟩
  · rename_i hlt; exact ⟨j + 1, h, by rw [if_neg hlt]⟩

theorem adel_ok (hE : EnvOk E) (hS : SR E w F Γ H) (hn : n0 ≤ Γ.length) {T T' ty : TypeId} {m k : AV} {K : List AObj → Prop} (h : adel E T H m k K) {mv kv : Value}
    (hm : RV w F Γ m mv) (hk : RV w F Γ k kv) :
    ∃ w', (Builtin.delete_ #[T, T'] ty #[mv, kv]).run E.P w = .ok (.tuple #[]) w' ∧ Out E n0 w F Γ H (.tuple #[]) w' (fun a H' => a = .d (.tup []) ∧ K H') := by
  have htup : ∀ w', RV w' F Γ (.d (.tup [])) (.tuple #[]) := fun w' => .d (.tup [] #[] rfl (fun j d hj => by simp at hj))
  unfold adel at h
  split at h <;> try exact h.elim
  rename_i kt e hkd
  obtain ⟨d, hf, hr⟩ := kd_some hE hkd
  simp only [Kd.fits] at hf
  subst hf
  split at h <;> try exact h.elim
  · rename_i g id kd hg
    split at h <;> try exact h.elim
    rename_i es ho
    obtain ⟨hgk, hes, hK⟩ := h
    have hkd := hk.of_d
    cases hm with
    | mapo hs hb =>
      rename_i s b
      obtain ⟨ho', b', arr, clock, hb', hh, hR⟩ := obj_at hS hs ho rfl
      obtain rfl : b' = b := by rw [hb] at hb'; exact (Option.some.inj hb').symm
      have hfind := re_find hE hg (w := w) (F := F) hR hgk hkd hes
      have hchk := fun e => (hE.key kt g hg).chk w F kd kv e hgk hkd
      have hnF : ∀ q, F q → q ≠ b' := fun q hq e => by subst e; exact hS.sep id s _ q hs ho' rfl hb hq
      have hstay : ∀ (ob : Obj) q, F q → (putB w b' ob).heap[q]? = w.heap[q]? := fun ob q hq => putB_other w b' q ob (hnF q hq)
      cases hi : es.findIdx? (fun p => dkeq kd p.1) with
      | none =>
        rw [hi] at hfind
        have e1 : ddel es kd = es := by unfold ddel; rw [hi]
        rw [e1] at hK
        refine ⟨_, by simp [Builtin.delete_, hr, run_getMap hh, hchk, hfind, run_setMap _ hh]; rfl, ?_⟩
        refine out_ob hS hn hs ho' rfl hb (o' := .map es) ⟨b', arr, clock, hb, putB_same hh _, hR.1, fun i k v hik => ?_, hR.2.2⟩ hK (htup _)
        obtain ⟨me, m1, m2, m3, m4⟩ := hR.2.1 i k v hik
        exact ⟨me, m1, m2.mono (fun _ h => h) (hstay _), m3.mono (fun _ h => h) (hstay _), m4⟩
      | some i =>
        rw [hi] at hfind
        have hi' := hi
        rw [List.findIdx?_eq_some_iff_getElem] at hi'
        obtain ⟨hlt, hkeq, _⟩ := hi'
        have hgi : es[i]? = some es[i] := List.getElem?_eq_getElem hlt
        obtain ⟨me, m1, m2, m3, m4⟩ := hR.2.1 i es[i].1 es[i].2 hgi
        simp only [Option.map_some] at hfind
        have e1 : ddel es kd = es.eraseIdx i := by unfold ddel; rw [hi]
        rw [e1] at hK
        have hlt' : i < arr.size := by rw [hR.1]; exact hlt
        have earr : (arr.eraseIdxIfInBounds i).toList = arr.toList.eraseIdx i := by
          unfold Array.eraseIdxIfInBounds
          rw [dif_pos hlt']
          simp
        have hge : ∀ j, (arr.eraseIdxIfInBounds i)[j]? = (arr.toList.eraseIdx i)[j]? := fun j => by rw [← Array.getElem?_toList, earr]
        refine ⟨_, by simp [Builtin.delete_, hr, run_getMap hh, hchk, hfind, run_setMap _ hh]; rfl, ?_⟩
        refine out_ob hS hn hs ho' rfl hb (o' := .map (es.eraseIdx i)) ⟨b', _, clock, hb, putB_same hh _, ?_, fun j k v hjk => ?_, fun j l mj ml h1 h2 he => ?_⟩ hK (htup _)
        · rw [← Array.length_toList, earr, List.length_eraseIdx, List.length_eraseIdx]
          simp [hR.1, hlt]
        · obtain ⟨j', hj', hjj⟩ := erase_get hjk
          obtain ⟨mj, n1, n2, n3, n4⟩ := hR.2.1 j' k v hj'
          refine ⟨mj, ?_, n2.mono (fun _ h => h) (hstay _), n3.mono (fun _ h => h) (hstay _), n4⟩
          rw [hge, List.getElem?_eraseIdx]
          rw [← Array.getElem?_toList] at n1
          split
          · rename_i hlt; rw [if_pos hlt] at hjj; subst hjj; exact n1
          · rename_i hlt; rw [if_neg hlt] at hjj; subst hjj; exact n1
        · rw [hge] at h1 h2
          obtain ⟨j', h1, hj⟩ := erase_get h1
          obtain ⟨l', h2, hl⟩ := erase_get h2
          rw [Array.getElem?_toList] at h1 h2
          have := hR.2.2 j' l' mj ml h1 h2 he
          split at hj <;> split at hl <;> omega
  · rename_i g kd hg
    obtain ⟨hgk, hK⟩ := h
    have hkd := hk.of_d
    have hv := hm.of_d
    cases hv with
    | nilm =>
      have hchk := fun e => (hE.key kt g hg).chk w F kd kv e hgk hkd
      exact ⟨w, by simp [Builtin.delete_, hr, hchk], F, Γ, H, _, hS, htup w, ⟨rfl, hK⟩, Ext.refl hn, fun _ _ h => h⟩

theorem aclear_ok (hE : EnvOk E) (hS : SR E w F Γ H) (hn : n0 ≤ Γ.length) {T ty : TypeId} {m : AV} {K : List AObj → Prop} (h : aclear E T H m K) {mv : Value} (hm : RV w F Γ m mv) :
    ∃ w', (Builtin.clear_ #[T] ty #[mv]).run E.P w = .ok (.tuple #[]) w' ∧ Out E n0 w F Γ H (.tuple #[]) w' (fun a H' => a = .d (.tup []) ∧ K H') := by
  have htup : ∀ w', RV w' F Γ (.d (.tup [])) (.tuple #[]) := fun w' => .d (.tup [] #[] rfl (fun j d hj => by simp at hj))
  unfold aclear at h
  split at h <;> try exact h.elim
  rename_i kt e hkd
  obtain ⟨d, hf, hr⟩ := kd_some hE hkd
  simp only [Kd.fits] at hf
  subst hf
  split at h <;> try exact h.elim
  · rename_i id
    split at h <;> try exact h.elim
    rename_i es ho
    cases hm with
    | mapo hs hb =>
      rename_i s b
      obtain ⟨ho', b', arr, clock, hb', hh, hR⟩ := obj_at hS hs ho rfl
      obtain rfl : b' = b := by rw [hb] at hb'; exact (Option.some.inj hb').symm
      refine ⟨_, by simp [Builtin.clear_, hr, run_getMap hh, run_setMap _ hh]; rfl, ?_⟩
      exact out_ob hS hn hs ho' rfl hb (o' := .map []) ⟨b', #[], clock, hb, putB_same hh _, rfl, fun i k v hi => by simp at hi, fun i j mi mj hi => by simp at hi⟩ h (htup _)
  · have hv := hm.of_d
    cases hv with
    | nilm => exact ⟨w, by simp [Builtin.clear_, hr], F, Γ, H, _, hS, htup w, ⟨rfl, h⟩, Ext.refl hn, fun _ _ h => h⟩
end
end Go.Abs
