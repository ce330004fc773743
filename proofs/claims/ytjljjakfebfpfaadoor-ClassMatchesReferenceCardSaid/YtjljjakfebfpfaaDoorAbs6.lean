/-
  Rows that are made, written out, appended to.
-/
import Derived.Test.YtjljjakfebfpfaaDoorAbs5
set_option autoImplicit false
set_option linter.unusedVariables false
set_option linter.unusedSimpArgs false
namespace Go.Abs

/-- So many elements of so many bytes find room. -/
def room (n bytes : Nat) : Prop := n * bytes ≤ 140737488355328 ∧ n ≤ 9223372036854775807
theorem room_of {n bytes : Nat} (h : n ≤ 1000000000) (hb : bytes ≤ 100000) : room n bytes := by
  refine ⟨?_, by omega⟩
  have := Nat.mul_le_mul h hb
  omega

section
variable {E : Env} {w w' : World} {F F' : Nat → Prop} {Γ Γ' : List Slot} {H H' : List AObj}

theorem kd_under {T : TypeId} {k : Kd} (hE : EnvOk E) (h : kd E T = some k) : ∃ d, E.P.underlying T = some d ∧ k.fits d := by
  unfold kd at h
  cases hi : E.ty T with
  | none => simp [hi] at h
  | some i => simp [hi] at h; subst h; exact hE.desc T i hi

def rep {α : Type} (z : List α) : Nat → List α
  | 0 => []
  | n + 1 => z ++ rep z n
theorem rep_length {α : Type} (z : List α) : ∀ n, (rep z n).length = n * z.length
  | 0 => by simp [rep]
  | n + 1 => by simp [rep, rep_length z n, Nat.succ_mul, Nat.add_comm]
theorem rep_get {α : Type} (z : List α) : ∀ (n k : Nat) (d : α), (rep z n)[k]? = some d → z[k % z.length]? = some d
  | 0, k, d, h => by simp [rep] at h
  | n + 1, k, d, h => by
    simp only [rep, List.getElem?_append] at h
    split at h
    · rename_i hlt; rwa [Nat.mod_eq_of_lt hlt]
    · rename_i hge
      have := rep_get z n _ d h
      have hz : 0 < z.length := by
        rcases Nat.eq_zero_or_pos z.length with h0 | h0
        · have : z = [] := List.eq_nil_of_length_eq_zero h0
          subst this
          simp at *
        · exact h0
      rwa [← Nat.mod_eq_sub_mod (by omega)] at this

theorem made_get (z : Array Value) (n k : Nat) (h : k < n) : (madeCells z n).getD k undef = z[k % z.size]! := by
  simp [madeCells, Array.getD_eq_getD_getElem?, h]

theorem made_CV {n : Nat} {cs : List AV} {z : Array Value} (hz : CV w F Γ cs z) (hp : 0 < n → 0 < cs.length) : CV w F Γ (rep cs n) (madeCells z (n * cs.length)) := by
  have hk : ∀ k, k < n * cs.length → (madeCells z (n * cs.length)).getD k undef = z.getD (k % cs.length) undef := fun k hk => by
    have hn : 0 < n := by rcases Nat.eq_zero_or_pos n with h | h; (subst h; simp at hk); exact h
    have hlt : k % z.size < z.size := Nat.mod_lt _ (by rw [hz.1]; exact hp hn)
    rw [made_get _ _ _ hk, ← hz.1, Array.getElem!_eq_getD, Array.getD_eq_getD_getElem?, Array.getD_eq_getD_getElem?, Array.getElem?_eq_getElem hlt]
    rfl
  have hmod : ∀ k, k < n * cs.length → k % cs.length < cs.length := fun k hk => by
    have hn : 0 < n := by rcases Nat.eq_zero_or_pos n with h | h; (subst h; simp at hk); exact h
    exact Nat.mod_lt _ (hp hn)
  refine ⟨by rw [size_madeCells, rep_length], fun j hj => ?_, fun j d hj => ?_⟩
  · rw [size_madeCells] at hj
    rw [hk j hj]
    exact hz.2.1 _ (by rw [hz.1]; exact hmod j hj)
  · have hjl := (List.getElem?_eq_some_iff.1 hj).1
    rw [rep_length] at hjl
    rw [hk j hjl]
    exact hz.2.2 _ _ (rep_get cs n j d hj)

/-! ### Rows out of a flat list of cells -/
def chunk (sz : Nat) : Nat → List D → List (List D)
  | 0, _ => []
  | n + 1, l => l.take sz :: chunk sz n (l.drop sz)
theorem chunk_length (sz : Nat) : ∀ (n : Nat) (l : List D), (chunk sz n l).length = n
  | 0, _ => rfl
  | n + 1, l => by simp [chunk, chunk_length sz n]
theorem chunk_get (sz : Nat) : ∀ (n : Nat) (l : List D) (i : Nat) (x : List D), l.length = n * sz → (chunk sz n l)[i]? = some x → x.length = sz ∧ ∀ j d, x[j]? = some d → j < sz ∧ l[i * sz + j]? = some d
  | 0, l, i, x, _, h => by simp [chunk] at h
  | n + 1, l, 0, x, hl, h => by
    simp [chunk] at h
    subst h
    rw [Nat.succ_mul] at hl
    refine ⟨by simp; omega, fun j d hj => ?_⟩
    rw [List.getElem?_take] at hj
    split at hj
    · exact ⟨by assumption, by simpa using hj⟩
    · simp at hj
  | n + 1, l, i + 1, x, hl, h => by
    simp [chunk] at h
    rw [Nat.succ_mul] at hl
    obtain ⟨h1, h2⟩ := chunk_get sz n (l.drop sz) i x (by simp; omega) h
    refine ⟨h1, fun j d hj => ?_⟩
    obtain ⟨h3, h4⟩ := h2 j d hj
    rw [List.getElem?_drop] at h4
    exact ⟨h3, by rw [Nat.succ_mul, show i * sz + sz + j = sz + (i * sz + j) by omega]; exact h4⟩

/-- A row that may be written no more, as plain data. -/
def AV.low : AV → AV
  | .svalf sz xs => .d (.slice sz xs)
  | a => a
theorem RV.low {w : World} {F : Nat → Prop} {Γ : List Slot} {a : AV} {v : Value} (h : RV w F Γ a v) : RV w F Γ a.low v := by
  cases h with
  | svalf h => exact .d h
  | dead v => exact .dead v
  | d h => exact .d h
  | pvar hs hb => exact .pvar hs hb
  | parr hs hb => exact .parr hs hb
  | pval h hi => exact .pval h hi
  | sfull hs hA => exact .sfull hs hA
  | spart hs hn ha => exact .spart hs hn ha
  | mapo hs hb => exact .mapo hs hb
  | func f cs vs hs hr => exact .func f cs vs hs hr
  | yield hs hb => exact .yield hs hb
  | iface t d v hr => exact .iface t d v hr
  | agg cs vs hs h1 hr => exact .agg cs vs hs h1 hr
  | tup cs vs hs hr => exact .tup cs vs hs hr
theorem CV.low {w : World} {F : Nat → Prop} {Γ : List Slot} {cs : List AV} {vs : Array Value} (h : CV w F Γ cs vs) : CV w F Γ (cs.map AV.low) vs := by
  refine ⟨by simpa using h.1, h.2.1, fun j d hj => ?_⟩
  rw [List.getElem?_map] at hj
  cases hx : cs[j]? with
  | none => simp [hx] at hj
  | some x => simp [hx] at hj; subst hj; exact (h.2.2 j x hx).low

/-- A row written out: it is never written again. -/
def abuildS (E : Env) (T : TypeId) (n : Nat) (ps : List (Nat × AV)) (K : AV → Prop) : Prop := match kd E T with
  | some (.slice e) => (match E.ty e with
    | some te => te.size ≠ 0 ∧ n * te.size ≤ 16777216 ∧ (match afill (fun i => some (i * te.size, te.size)) (rep (te.zero.map .d) n) ps with
      | some cs => (match allD (cs.map AV.low) with
        | some ds => K (.svalf te.size (chunk te.size n ds))
        | none => False)
      | none => False)
    | none => False)
  | _ => False

theorem sr_freezeNew (hS : SR E w F Γ H) {ob : Obj} : SR E (w.alloc ob) (fun b => F b ∨ b = w.heap.size) Γ H ∧ ∀ n0, n0 ≤ Γ.length → Ext n0 w F Γ H (w.alloc ob) (fun b => F b ∨ b = w.heap.size) Γ H := by
  have hold : ∀ b, b < w.heap.size → (w.alloc ob).heap[b]? = w.heap[b]? := fun b hb => Go.RowKit.Below.heap_alloc _ _ _ hb
  have h1 : SR E (w.alloc ob) F Γ H := hS.world (by simp) (fun b hb => hold b (by
    rcases hb with hb | hb
    · exact hS.low b hb
    · exact live_lt hS hb))
  refine ⟨⟨h1.len, fun id s o hs ho => (h1.obj id s o hs ho).mono (fun _ h => .inl h) (fun _ _ => rfl) (fun _ _ h => h) (fun _ _ _ => rfl), fun id s o b hs ho hl hb hF => ?_, h1.inj, fun b hb => ?_, fun g sz xs hg => (h1.glob g sz xs hg).mono (fun _ h => .inl h) (fun _ _ => rfl) (fun _ _ h => h)⟩, fun n0 hn => ⟨rfl, rfl, rfl, by simp, fun b hb _ => hold b hb, fun _ h => .inl h, fun b hb hlt => ?_, fun b hb _ => hb, fun _ _ => rfl, hn⟩⟩
  · rcases hF with hF | hF
    · exact h1.sep id s o b hs ho hl hb hF
    · subst hF
      exact Nat.lt_irrefl _ (live_lt hS ⟨id, s, o, hs, ho, hl, hb⟩)
  · rcases hb with hb | hb
    · exact h1.low b hb
    · subst hb; simp
  · rcases hb with hb | hb
    · exact .inl hb
    · omega

theorem abuildS_ok {n0 : Nat} (hE : EnvOk E) (hS : SR E w F Γ H) (hn : n0 ≤ Γ.length) {T : TypeId} {n : Nat} {ps : List (Nat × AV)} {qs : Array (Nat × Value)} {K : AV → Prop} (h : abuildS E T n ps K) (hp : PV w F Γ ps qs.toList) :
    ∃ v w', (Instr.buildSlice T n qs).run E.P w = .ok v w' ∧ Out E n0 w F Γ H v w' (fun av H' => K av ∧ H' = H) := by
  unfold abuildS at h
  split at h <;> try exact h.elim
  rename_i e hk
  obtain ⟨d, hf, hr⟩ := kd_some hE hk
  simp only [Kd.fits] at hf
  subst hf
  split at h <;> try exact h.elim
  rename_i te hte
  obtain ⟨hz0, hlim, h⟩ := h
  split at h <;> try exact h.elim
  rename_i cs hcs
  split at h <;> try exact h.elim
  rename_i ds hds
  obtain ⟨zv, hzv, hcv⟩ := zeroC_ok (T := e) (z := te.zero.map .d) hE (by simp [zeroC, hte])
  obtain ⟨inf, zv', i1, i2, i3, i4, i5, i6, i7, _⟩ := hE.info e te hte
  have hzl : (te.zero.map AV.d).length = te.size := by simp [i6]
  have hesz : esz E e = some te.size := by simp [esz, hte]
  have hCV := made_CV (n := n) (hcv w F Γ) (by rw [hzl]; omega)
  rw [hzl] at hCV
  obtain ⟨vs', hfill, hcv0⟩ := fill_ok _ ps qs.toList _ _ cs hp hCV hcs
  obtain ⟨hS2, hext⟩ := sr_freezeNew (ob := .cells vs' e) hS
  have hcv' := hcv0.low
  have hdsl : ds.length = n * te.size := by
    have h1 := hCV.1
    have h2 := hcv0.1
    have h3 : cs.length = ds.length := by
      have := congrArg List.length (allD_some hds)
      simpa using this
    have h4 : vs'.size = (madeCells zv.cells (n * te.size)).size := by
      have := fill_ok (w := w) (F := F) (Γ := Γ) _ ps qs.toList _ _ _ hp hCV hcs
      clear this
      have key : ∀ (place : Nat → Option (Nat × Nat)) (ps : List (Nat × AV)) (c o : List AV), afill place c ps = some o → o.length = c.length := by
        intro place ps
        induction ps with
        | nil => intro c o h; simp [afill] at h; subst h; rfl
        | cons p ps ih =>
          obtain ⟨i, v⟩ := p
          intro c o h
          simp only [afill] at h
          split at h
          · split at h
            · rename_i hc
              rw [ih _ _ h, splice_length _ _ _ (by omega)]
            · simp at h
          · simp at h
      have := key _ _ _ _ hcs
      rw [size_madeCells, h2, this, rep_length, hzl]
    rw [h4, size_madeCells] at h2
    omega
  refine ⟨.slice (some ⟨w.heap.size, 0, none⟩) n n, _, ?_, _, Γ, H, .svalf te.size (chunk te.size n ds), hS2, ?_, ⟨h, rfl⟩, hext n0 hn, fun _ _ h => h⟩
  · have e1 : ¬ n * te.size > 2 ^ 24 := by simp; omega
    have e2 : (Array.range (n * te.size)).map (fun x => zv.cells[x % zv.cells.size]!) = madeCells zv.cells (n * te.size) := rfl
    simp only [Instr.buildSlice, Sem.run_bind, hr, Result.andThen_ok, esz_ok hE hesz, e1, if_false]
    by_cases hnz : n * te.size = 0
    · have hn0 : n = 0 := by rcases Nat.mul_eq_zero.1 hnz with h | h; exact h; exact absurd h hz0
      subst hn0
      have e3 : madeCells zv.cells (0 * te.size) = #[] := by apply Array.eq_empty_of_size_eq_zero; rw [size_madeCells]; simp
      rw [e3] at hfill
      have e4 : ∀ f : Nat → Value, Array.map f (Array.range 0) = #[] := fun f => Array.eq_empty_of_size_eq_zero (by simp)
      simp [hfill, newRow, e4]
    · simp only [hnz, if_false, Sem.run_bind, hzv, Result.andThen_ok, Sem.run_pure, e2, hfill, newRow, run_newObj]
      rfl
  · have hlen : (chunk te.size n ds).length = n := chunk_length _ _ _
    have := RD.slice (w := w.alloc (.cells vs' e)) (F := fun b => F b ∨ b = w.heap.size) te.size (chunk te.size n ds) (some ⟨w.heap.size, 0, none⟩) n (fun i j => vs'.getD (i * te.size + j) undef) (by omega) (fun _ => rfl)
      (fun x hx => by obtain ⟨i, hi⟩ := List.mem_iff_getElem?.1 hx; exact (chunk_get _ _ _ _ _ hdsl hi).1)
      (fun i x j d hx hd => by
        obtain ⟨h1, h2⟩ := (chunk_get _ _ _ _ _ hdsl hx).2 j d hd
        have hlt := (List.getElem?_eq_some_iff.1 h2).1
        have hsz : vs'.size = ds.length := by rw [hcv'.1, allD_some hds]; simp
        refine ⟨hcv'.2.1 _ (by omega), _, rfl, .inr rfl, ?_⟩
        rw [add_plain, Nat.zero_add, cell_of_heap (heap_new w _)]
        exact getD_of (by omega))
      (fun i x j d hx hd => by
        obtain ⟨h1, h2⟩ := (chunk_get _ _ _ _ _ hdsl hx).2 j d hd
        have := hcv'.2.2 (i * te.size + j) (.d d) (by rw [allD_some hds, List.getElem?_map, h2]; rfl)
        exact this.of_d.mono (fun _ h => .inl h) (fun b hb => Go.RowKit.Below.heap_alloc _ _ _ (hS.low b hb)))
    rw [hlen] at this
    have h2 := RV.svalf (Γ := Γ) (w := w.alloc (.cells vs' e)) (F := fun b => F b ∨ b = w.heap.size) (sz := te.size) (xs := chunk te.size n ds) (A := some ⟨w.heap.size, 0, none⟩) (by rw [hlen]; exact this)
    rw [hlen] at h2
    exact h2

/-! ### make -/
def amake (E : Env) (T : TypeId) (H : List AObj) (l c : AV) (K : AV → List AObj → Prop) : Prop := match kd E T, l, c with
  | some (.slice e), .d (.int _ n), .d (.int _ m) => (match E.ty e with
    | some te => te.size ≠ 0 ∧ n = m ∧ 0 ≤ n ∧ room n.toNat te.bytes ∧ K (.sfull H.length) (H ++ [.arr e te.size (List.replicate n.toNat te.zero)])
    | none => False)
  | _, _, _ => False

theorem amake_ok {n0 : Nat} (hE : EnvOk E) (hS : SR E w F Γ H) (hn : n0 ≤ Γ.length) {T : TypeId} {l c : AV} {K : AV → List AObj → Prop} (h : amake E T H l c K) {lv cv : Value} (hl : RV w F Γ l lv) (hc : RV w F Γ c cv) :
    ∃ v w', (Instr.makeSlice T lv cv).run E.P w = .ok v w' ∧ Out E n0 w F Γ H v w' K := by
  unfold amake at h
  split at h <;> try exact h.elim
  rename_i e kl n kc m hk
  obtain ⟨d, hu, hf⟩ := kd_under hE hk
  simp only [Kd.fits] at hf
  subst hf
  split at h <;> try exact h.elim
  rename_i te hte
  obtain ⟨hz0, rfl, h0, ⟨hb, h63⟩, hK⟩ := h
  obtain rfl := RD_int hl.of_d
  obtain rfl := RD_int hc.of_d
  obtain ⟨inf, zv, i1, i2, i3, i4, i5, i6, i7, _⟩ := hE.info e te hte
  have hzl : te.zero.length = te.size := i6
  have hbytes : (inf.bytes : Int) * n ≤ 281474976710656 := by
    have : (n.toNat * te.bytes : Nat) ≤ 281474976710656 := by omega
    have h2 : ((n.toNat * te.bytes : Nat) : Int) ≤ 281474976710656 := by omega
    rw [i3, Int.mul_comm]
    rw [Int.natCast_mul, Int.toNat_of_nonneg h0] at h2
    exact h2
  have hr := run_make (P := E.P) w T e inf zv hu i1 i4 kl kc n n h0 (Int.le_refl _) hbytes (by omega)
  rw [i2] at hr
  have hcv : ∀ w F Γ, CV w F Γ (te.zero.map .d) zv.cells := fun w F Γ => by
    obtain ⟨zv', h1, h2⟩ := zeroC_ok (T := e) (z := te.zero.map .d) hE (by simp [zeroC, hte])
    have h3 : (zeroValue e).run E.P w = .ok zv w := by simp [zeroValue, typeInfo, i1, i4]
    have h4 := h1 w
    rw [h3] at h4
    injection h4 with h4 _
    subst h4
    exact h2 w F Γ
  have hCV := made_CV (n := n.toNat) (hcv w F Γ) (by simp [hzl]; omega)
  simp only [List.length_map, hzl] at hCV
  refine ⟨_, _, hr, ?_⟩
  refine out_new hS hn rfl rfl rfl rfl (s := ⟨some w.heap.size, te.size, n.toNat, n.toNat⟩) rfl (.inl rfl) (av := .sfull H.length) (o := .arr e te.size (List.replicate n.toNat te.zero))
    ⟨rfl, by simp, by simp, fun x hx => by rw [List.eq_of_mem_replicate hx]; exact hzl, .inr ⟨w.heap.size, _, rfl, heap_new w _, by rw [size_madeCells], fun i x j d hx hd => ?_⟩⟩ ?_ hK
  · have hx' : x = te.zero ∧ i < n.toNat := by
      rw [List.getElem?_replicate] at hx
      split at hx
      · exact ⟨(Option.some.inj hx).symm, by assumption⟩
      · simp at hx
    obtain ⟨rfl, hi⟩ := hx'
    have hj := (List.getElem?_eq_some_iff.1 hd).1
    have hlt : i * te.size + j < n.toNat * te.size := by
      have := Nat.mul_le_mul_right te.size (Nat.succ_le_of_lt hi)
      rw [Nat.succ_mul] at this
      omega
    have hget : (rep (te.zero.map AV.d) n.toNat)[i * te.size + j]? = some (.d d) := by
      have hl2 : i * te.size + j < (rep (te.zero.map AV.d) n.toNat).length := by rw [rep_length]; simp [hzl]; exact hlt
      have h1 := List.getElem?_eq_getElem hl2
      have h2 := rep_get _ _ _ _ h1
      have h3 : (i * te.size + j) % te.size = j := by rw [Nat.mul_comm, Nat.mul_add_mod]; exact Nat.mod_eq_of_lt (by omega)
      simp only [List.length_map, hzl, h3, List.getElem?_map, hd, Option.map_some] at h2
      rw [h1, h2]
    exact ⟨hCV.2.1 _ (by rw [size_madeCells]; exact hlt), (hCV.2.2 _ _ hget).of_d.mono (fun _ h => h) (fun b hb => Go.RowKit.Below.heap_alloc _ _ _ (hS.low b hb))⟩
  · rw [← hS.len]
    exact .sfull (push_get Γ _) (fun b hb => by simp at hb; subst hb; rfl)

/-! ### append -/
def srcRows (H : List AObj) (sz : Nat) (x : AV) (K : List (List D) → Prop) : Prop := match x with
  | .d (.slice sz' xs) => sz' = sz ∧ K xs
  | .d .nils => K []
  | .svalf sz' xs => sz' = sz ∧ K xs
  | .sfull id => (match H.getD id .none with
    | .arr _ sz' xs => sz' = sz ∧ K xs
    | _ => False)
  | .spart id lo n => (match H.getD id .none with
    | .arr _ sz' xs => sz' = sz ∧ lo + n ≤ xs.length ∧ K ((xs.drop lo).take n)
    | _ => False)
  | _ => False

/-- Cells that show rows, by a function of their number. -/
def RowsAt (w : World) (F : Nat → Prop) (sz : Nat) (xs : List (List D)) (f : Nat → Value) : Prop :=
  ∀ i x j d, xs[i]? = some x → x[j]? = some d → (f (i * sz + j)).oneCell' = true ∧ RD w F d (f (i * sz + j))

theorem rows_one {sz : Nat} {xs : List (List D)} {f : Nat → Value} (hl : ∀ x ∈ xs, x.length = sz) (h : RowsAt w F sz xs f) {k : Nat} (hk : k < xs.length * sz) : (f k).oneCell' = true := by
  have hsz : 0 < sz := by rcases Nat.eq_zero_or_pos sz with h0 | h0; (subst h0; simp at hk); exact h0
  have hi : k / sz < xs.length := by rw [Nat.div_lt_iff_lt_mul hsz]; exact hk
  have hx : xs[k / sz]? = some xs[k / sz] := List.getElem?_eq_getElem hi
  have hxl : xs[k / sz].length = sz := hl _ (List.getElem_mem hi)
  have hj : k % sz < sz := Nat.mod_lt _ hsz
  have := (h _ _ (k % sz) _ hx (List.getElem?_eq_getElem (by omega))).1
  rwa [Nat.div_add_mod' k sz] at this

theorem src_val {sz : Nat} {xs : List (List D)} {v : Value} (hd : RD w F (.slice sz xs) v) : ∃ A c f, v = .slice A xs.length c ∧ (∀ y ∈ xs, y.length = sz) ∧
    (0 < xs.length → ∃ a, A = some a ∧ ∀ k, k < xs.length * sz → w.cell? (a.add k) = some (f k)) ∧ RowsAt w F sz xs f := by
  obtain ⟨A, c, rfl, hc, ha, hl, hcells⟩ := hd.slice_inv
  refine ⟨A, c, fun k => (w.cell? ((A.getD default).add k)).getD undef, rfl, hl, fun h0 => ?_, fun i x j d hx hdd => ?_⟩
  · obtain ⟨a, rfl⟩ := Option.isSome_iff_exists.1 (ha h0)
    refine ⟨a, rfl, fun k hk => ?_⟩
    have hsz : 0 < sz := by rcases Nat.eq_zero_or_pos sz with h0 | h0; (subst h0; simp at hk); exact h0
    obtain ⟨a', u, e, _, _, hu, _⟩ := hcells (k / sz) (k % sz) (by rw [Nat.div_lt_iff_lt_mul hsz]; exact hk) (Nat.mod_lt _ hsz)
    obtain rfl := Option.some.inj e
    rw [Nat.div_add_mod' k sz] at hu
    simp [hu]
  · have hi := (List.getElem?_eq_some_iff.1 hx).1
    have hxl : x.length = sz := hl _ (List.mem_of_getElem? hx)
    have hj := (List.getElem?_eq_some_iff.1 hdd).1
    obtain ⟨a', u, e, _, h1, hu, hrd⟩ := hcells i j hi (by omega)
    subst e
    have e : cel xs i j = d := by simp [cel, List.getD_eq_getElem?_getD, hx, hdd]
    rw [e] at hrd
    simp [hu, h1, hrd]

theorem srcRows_ok (hS : SR E w F Γ H) {sz : Nat} {x : AV} {K : List (List D) → Prop} (h : srcRows H sz x K) {v : Value} (hv : RV w F Γ x v) :
    ∃ ys A c f, K ys ∧ v = .slice A ys.length c ∧ (∀ y ∈ ys, y.length = sz) ∧ (0 < ys.length → ∃ a, A = some a ∧ ∀ k, k < ys.length * sz → w.cell? (a.add k) = some (f k)) ∧ RowsAt w F sz ys f := by
  unfold srcRows at h
  split at h
  · obtain ⟨rfl, hK⟩ := h
    obtain ⟨A, c, f, h1⟩ := src_val hv.of_d
    exact ⟨_, A, c, f, hK, h1⟩
  · have hd := hv.of_d
    cases hd with
    | nils => exact ⟨[], none, 0, fun _ => undef, h, rfl, fun y hy => by simp at hy, fun h => by simp at h, fun i x j d hx => by simp at hx⟩
  · obtain ⟨rfl, hK⟩ := h
    cases hv with
    | svalf hd =>
      obtain ⟨A, c, f, h1⟩ := src_val hd
      exact ⟨_, A, c, f, hK, h1⟩
  · split at h <;> try exact h.elim
    rename_i id _ ty sz' xs ho
    obtain ⟨rfl, hK⟩ := h
    cases hv with
    | sfull hs hA =>
      rename_i s A
      obtain ⟨_, hz, hlen, hcap, hl, hro⟩ := obj_at hS hs ho rfl
      rcases hro with ⟨hn, hc0⟩ | ⟨b, c, hb, hh, hcs, hcells⟩
      · have : xs = [] := List.eq_nil_of_length_eq_zero (by omega)
        subst this
        exact ⟨[], A, s.cap, fun _ => undef, hK, by rw [hlen], hl, fun h => by simp at h, fun i x j d hx => by simp at hx⟩
      · refine ⟨xs, A, s.cap, fun k => c.getD k undef, hK, by rw [hlen], hl, fun _ => ⟨_, hA b hb, fun k hk => ?_⟩, hcells⟩
        rw [add_plain, Nat.zero_add, cell_of_heap hh]
        have := Nat.mul_le_mul_right sz' hcap
        exact getD_of (by omega)
  · split at h <;> try exact h.elim
    rename_i id lo n _ ty sz' xs ho
    obtain ⟨rfl, hle, hK⟩ := h
    cases hv with
    | spart hs hn ha =>
      rename_i cc s A
      obtain ⟨_, hz, hlen, hcap, hl, hro⟩ := obj_at hS hs ho rfl
      have hyl : ((xs.drop lo).take n).length = n := by simp; omega
      have hget : ∀ (i : Nat) (x : List D), ((xs.drop lo).take n)[i]? = some x → i < n ∧ xs[lo + i]? = some x := fun i x hx => by
        rw [List.getElem?_take] at hx
        split at hx
        · rw [List.getElem?_drop] at hx; exact ⟨by assumption, hx⟩
        · simp at hx
      rcases hro with ⟨hnn, hc0⟩ | ⟨b, c, hb, hh, hcs, hcells⟩
      · have hn0 : n = 0 := by omega
        subst hn0
        exact ⟨_, A, cc, fun _ => undef, hK, by simp, fun y hy => by simp at hy, fun h => by simp at h, fun i x j d hx => by simp at hx⟩
      · refine ⟨_, A, cc, fun k => c.getD (lo * sz' + k) undef, hK, by rw [hyl], fun y hy => hl _ (List.mem_of_mem_drop (List.mem_of_mem_take hy)), fun h0 => ?_, fun i x j d hx hd => ?_⟩
        · obtain ⟨b', hb', rfl⟩ := ha (by omega)
          rw [hb] at hb'
          obtain rfl := Option.some.inj hb'
          refine ⟨_, rfl, fun k hk => ?_⟩
          rw [hyl] at hk
          rw [add_plain, cell_of_heap hh, hz]
          have h1 := Nat.mul_le_mul_right sz' (show lo + n ≤ s.cap by omega)
          rw [Nat.add_mul] at h1
          exact getD_of (by omega)
        · obtain ⟨_, hx'⟩ := hget i x hx
          have := hcells _ _ j d hx' hd
          rw [Nat.add_mul, Nat.add_assoc] at this
          exact this
  · exact h.elim

def aapp (E : Env) (T T' : TypeId) (H : List AObj) (s x : AV) (K : AV → List AObj → Prop) : Prop := match kd E T with
  | some (.slice e) => (match E.ty e with
    | some te => T' = T ∧ te.size ≠ 0 ∧ srcRows H te.size x (fun ys => match s with
      | .d .nils => room ys.length te.bytes ∧ K (.sfull H.length) (H ++ [.arr e te.size ys])
      | .svalf sz xs => sz = te.size ∧ (0 < ys.length ∨ xs.length = 0) ∧ room (xs.length + ys.length) te.bytes ∧ K (.sfull H.length) (H ++ [.arr e te.size (xs ++ ys)])
      | .sfull id => (match H.getD id .none with
        | .arr e' sz xs => e' = e ∧ sz = te.size ∧ room (xs.length + ys.length) te.bytes ∧ K (.sfull H.length) (H.set id .none ++ [.arr e te.size (xs ++ ys)])
        | _ => False)
      | _ => False)
    | none => False)
  | _ => False

theorem ofFn_list (n : Nat) (f : Nat → Value) : (List.ofFn (n := n) fun j => f j.1).length = n ∧ ∀ j u, (List.ofFn (n := n) fun j => f j.1)[j]? = some u → j < n ∧ u = f j := by
  refine ⟨by simp, fun j u h => ?_⟩
  rw [List.getElem?_ofFn] at h
  split at h
  · exact ⟨by assumption, (Option.some.inj h).symm⟩
  · simp at h

/-- Old rows, new rows, and whatever lies behind them. -/
theorem rows_append {sz : Nat} {xs ys : List (List D)} {f g h : Nat → Value} (hx : ∀ x ∈ xs, x.length = sz) (hy : ∀ y ∈ ys, y.length = sz) (hf : RowsAt w F sz xs f) (hg : RowsAt w F sz ys g)
    (h1 : ∀ k, k < xs.length * sz → h k = f k) (h2 : ∀ k, k < ys.length * sz → h (xs.length * sz + k) = g k) : RowsAt w F sz (xs ++ ys) h := by
  intro i x j d hi hd
  rw [List.getElem?_append] at hi
  split at hi
  · rename_i hlt
    have hj : j < sz := by have := (List.getElem?_eq_some_iff.1 hd).1; rwa [hx _ (List.mem_of_getElem? hi)] at this
    have hk : i * sz + j < xs.length * sz := by
      have := Nat.mul_le_mul_right sz (Nat.succ_le_of_lt hlt)
      rw [Nat.succ_mul] at this
      omega
    rw [h1 _ hk]
    exact hf i x j d hi hd
  · rename_i hge
    have hj : j < sz := by have := (List.getElem?_eq_some_iff.1 hd).1; rwa [hy _ (List.mem_of_getElem? hi)] at this
    have hlt := (List.getElem?_eq_some_iff.1 hi).1
    have hk : (i - xs.length) * sz + j < ys.length * sz := by
      have := Nat.mul_le_mul_right sz (Nat.succ_le_of_lt hlt)
      rw [Nat.succ_mul] at this
      omega
    have e : i * sz + j = xs.length * sz + ((i - xs.length) * sz + j) := by
      rw [← Nat.add_assoc, ← Nat.add_mul]
      congr 2
      omega
    rw [e, h2 _ hk]
    exact hg _ x j d hi hd

/-- append, run: what comes out, and where it lies. 'A, n, c': the row that is appended to. -/
theorem append_new {n0 : Nat} (hS : SR E w F Γ H) (hn : n0 ≤ Γ.length) {e : TypeId} {sz : Nat} {xs ys : List (List D)} (hx : ∀ x ∈ xs, x.length = sz) (hy : ∀ y ∈ ys, y.length = sz)
    {f g : Nat → Value} (hf : RowsAt w F sz xs f) (hg : RowsAt w F sz ys g) {z : Array Value} (hz : z.size = sz) {cap : Nat} (hcap : xs.length + ys.length ≤ cap)
    {H1 : List AObj} (hH1 : H1 = H ∨ ∃ id, H1 = H.set id .none) {K : AV → List AObj → Prop} (hK : K (.sfull H.length) (H1 ++ [.arr e sz (xs ++ ys)])) :
    Out E n0 w F Γ H (.slice (some ⟨w.heap.size, 0, none⟩) (xs.length + ys.length) cap)
      (w.drew.alloc (.cells ((List.ofFn (n := xs.length * sz) fun j => f j.1).toArray ++ (List.ofFn (n := ys.length * sz) fun j => g j.1).toArray ++ Builtin.zeroCells z (cap - (xs.length + ys.length))) e)) K := by
  obtain ⟨l1, g1⟩ := ofFn_list (xs.length * sz) f
  obtain ⟨l2, g2⟩ := ofFn_list (ys.length * sz) g
  have hsz : ((List.ofFn (n := xs.length * sz) fun j => f j.1).toArray ++ (List.ofFn (n := ys.length * sz) fun j => g j.1).toArray ++ Builtin.zeroCells z (cap - (xs.length + ys.length))).size = cap * sz := by
    rw [Array.size_append, Array.size_append, size_zeroCells, hz]
    simp only [List.size_toArray, l1, l2]
    rw [← Nat.add_mul, ← Nat.add_mul]
    congr 1; omega
  refine out_new hS hn (w1 := w.drew) rfl rfl rfl rfl (s := ⟨some w.heap.size, sz, xs.length + ys.length, cap⟩) rfl hH1 (av := .sfull H.length) (o := .arr e sz (xs ++ ys))
    ⟨rfl, by simp, by simp; exact hcap, fun x hx' => ?_, .inr ⟨w.heap.size, _, rfl, heap_new w.drew _, hsz.symm, ?_⟩⟩ ?_ hK
  · rcases List.mem_append.1 hx' with h | h
    · exact hx x h
    · exact hy x h
  · have hold : ∀ b, F b → (w.drew.alloc (.cells ((List.ofFn (n := xs.length * sz) fun j => f j.1).toArray ++ (List.ofFn (n := ys.length * sz) fun j => g j.1).toArray ++ Builtin.zeroCells z (cap - (xs.length + ys.length))) e)).heap[b]? = w.heap[b]? :=
      fun b hb => Go.RowKit.Below.heap_alloc w.drew _ _ (hS.low b hb)
    have key := rows_append (w := w) (F := F) (h := fun k => ((List.ofFn (n := xs.length * sz) fun j => f j.1).toArray ++ (List.ofFn (n := ys.length * sz) fun j => g j.1).toArray ++ Builtin.zeroCells z (cap - (xs.length + ys.length))).getD k undef) hx hy hf hg
      (fun k hk => by
        show Array.getD _ k undef = f k
        rw [Array.getD_eq_getD_getElem?, Array.getElem?_append_left (by rw [Array.size_append]; simp [l1]; omega), Array.getElem?_append_left (by simp [l1]; exact hk), List.getElem?_toArray, List.getElem?_ofFn]
        simp [hk])
      (fun k hk => by
        show Array.getD _ (xs.length * sz + k) undef = g k
        rw [Array.getD_eq_getD_getElem?, Array.getElem?_append_left (by rw [Array.size_append]; simp [l1, l2]; omega), Array.getElem?_append_right (by simp [l1]), List.getElem?_toArray, List.getElem?_ofFn]
        simp [l1, hk])
    exact fun i x j d hi hd => ⟨(key i x j d hi hd).1, (key i x j d hi hd).2.mono (fun _ h => h) hold⟩
  · rw [← hS.len]
    exact .sfull (push_get Γ _) (fun b hb => by simp at hb; subst hb; rfl)

theorem holds_list {sz : Nat} {n : Nat} {f : Nat → Value} {a : Addr} (h : ∀ k, k < n * sz → w.cell? (a.add k) = some (f k)) :
    ∀ j v, (List.ofFn (n := n * sz) fun j => f j.1)[j]? = some v → w.cell? (a.add j) = some v := fun j v hj => by
  obtain ⟨h1, rfl⟩ := (ofFn_list (n * sz) f).2 j v hj
  exact h j h1

/-- A row that keeps its place: appended nothing to, or read on as it is. -/
theorem out_same {n0 : Nat} (hS : SR E w F Γ H) (hn : n0 ≤ Γ.length) {e : TypeId} {sz : Nat} {A : Option Addr} {K : AV → List AObj → Prop} {H1 : List AObj} (hH1 : H1 = H ∨ ∃ id, H1 = H.set id .none)
    (hK : K (.sfull H.length) (H1 ++ [.arr e sz []])) : Out E n0 w F Γ H (.slice A 0 0) w K := by
  have hS1 : SR E w F Γ H1 := by
    rcases hH1 with rfl | ⟨id, rfl⟩
    · exact hS
    · exact hS.dead id
  have hl1 : ∀ b, LiveB Γ H1 b → LiveB Γ H b := fun b hb => by
    rcases hH1 with rfl | ⟨id, rfl⟩
    · exact hb
    · exact live_dead hb
  refine ⟨F, Γ ++ [⟨none, sz, 0, 0⟩], H1 ++ [.arr e sz []], .sfull H.length, hS1.push (s := ⟨none, sz, 0, 0⟩) (o := .arr e sz []) ⟨rfl, rfl, Nat.le_refl _, fun x hx => by simp at hx, .inl ⟨rfl, rfl⟩⟩ (fun b hb => by simp at hb), ?_, hK,
    ⟨rfl, rfl, rfl, Nat.le_refl _, fun _ _ _ => rfl, fun _ h => h, fun _ h _ => .inl h, fun b hb _ => ?_, fun id hid => List.getElem?_append_left (by omega), by simp; omega⟩, pre_push Γ _⟩
  · rw [← hS.len]
    have := RV.sfull (w := w) (F := F) (Γ := Γ ++ [⟨none, sz, 0, 0⟩]) (id := Γ.length) (A := A) (push_get Γ _) (fun b hb => by simp at hb)
    exact this
  · rcases live_push hS1.len hb with h | h
    · exact hl1 b h
    · simp at h

theorem aapp_ok {n0 : Nat} (hE : EnvOk E) (hS : SR E w F Γ H) (hn : n0 ≤ Γ.length) {T T' ty : TypeId} {s x : AV} {K : AV → List AObj → Prop} (h : aapp E T T' H s x K) {sv xv : Value}
    (hs : RV w F Γ s sv) (hx : RV w F Γ x xv) : ∃ v w', (Builtin.append_ #[T, T'] ty #[sv, xv]).run E.P w = .ok v w' ∧ Out E n0 w F Γ H v w' K := by
  unfold aapp at h
  split at h <;> try exact h.elim
  rename_i e hk
  obtain ⟨d, hu, hf⟩ := kd_under hE hk
  simp only [Kd.fits] at hf
  subst hf
  split at h <;> try exact h.elim
  rename_i te hte
  obtain ⟨rfl, hz0, hsrc⟩ := h
  obtain ⟨inf, zv, i1, i2, i3, i4, i5, i6, i7, _⟩ := hE.info e te hte
  have hzs : zv.cells.size = te.size := by omega
  obtain ⟨ys, B, cb, g, h, rfl, hyl, hyc, hg⟩ := srcRows_ok hS hsrc hx
  clear hsrc
  have big : ∀ n, room n te.bytes → ¬ (9223372036854775807 < (n : Int)) ∧ n * inf.bytes ≤ 140737488355328 := fun n hr => ⟨by have := hr.2; omega, by rw [i3]; exact hr.1⟩
  -- nothing is appended
  have none_ : ∀ (A : Option Addr) (n c : Nat), ys.length = 0 → n ≤ c → (Builtin.append_ #[T', T'] ty #[.slice A n c, .slice B ys.length cb]).run E.P w = .ok (.slice A n c) w ∨ n ≠ 0 := by
    intro A n c hy0 hnc
    by_cases h0 : n = 0
    · left
      subst h0
      have hfc : (Builtin.firstCells inf.size 0 (.slice B 0 cb)).run E.P w = .ok #[] w := by
        cases B with
        | none => simp [Builtin.firstCells]
        | some b => simp [Builtin.firstCells, loadCells, loadCellsFrom]
      cases A with
      | none => simp [Builtin.append_, run_underlying hu, sizeOf, typeInfo, i1, Builtin.lenOf, hy0, hfc]
      | some a => simp [Builtin.append_, run_underlying hu, sizeOf, typeInfo, i1, Builtin.lenOf, hy0, hfc, storeCells]
    · exact .inr h0
  -- a new block
  have grow : ∀ (A : Option Addr) (xs : List (List D)) (cap : Nat) (f : Nat → Value) (H1 : List AObj), (∀ x ∈ xs, x.length = te.size) → RowsAt w F te.size xs f →
      (∃ a, A = some a ∧ ∀ k, k < xs.length * te.size → w.cell? (a.add k) = some (f k)) ∨ (A = none ∧ xs = [] ∧ cap = 0) → cap < xs.length + ys.length → 0 < ys.length → room (xs.length + ys.length) te.bytes →
      (H1 = H ∨ ∃ id, H1 = H.set id .none) → K (.sfull H.length) (H1 ++ [.arr e te.size (xs ++ ys)]) →
      ∃ v w', (Builtin.append_ #[T', T'] ty #[.slice A xs.length cap, .slice B ys.length cb]).run E.P w = .ok v w' ∧ Out E n0 w F Γ H v w' K := by
    intro A xs cap f H1 hxl hfx hA hlt hpos hr hH1 hK
    obtain ⟨b1, b2⟩ := big _ hr
    obtain ⟨a2, rfl, hb⟩ := hyc hpos
    rcases hA with ⟨a, rfl, ha⟩ | ⟨rfl, rfl, rfl⟩
    · have hrun := run_append_grow (P := E.P) w T' ty e inf zv hu i1 i4 a xs.length cap (List.ofFn (n := xs.length * te.size) fun j => f j.1) (by simp [i2]) (holds_list ha) a2 ys.length cb
        (List.ofFn (n := ys.length * te.size) fun j => g j.1) (by simp [i2]) (holds_list hb) hlt (by omega) (growslice_fits hlt b2)
      exact ⟨_, _, hrun, append_new hS hn hxl hyl hfx hg hzs (grownCap_ge w _ _ _) hH1 hK⟩
    · simp only [List.length_nil, Nat.zero_add] at hlt hr b1 b2 ⊢
      have hrun := run_append_nil (P := E.P) w T' ty e inf zv hu i1 i4 a2 ys.length cb (List.ofFn (n := ys.length * te.size) fun j => g j.1) (by simp [i2]) (holds_list hb) hpos (by omega) (by omega)
      have := append_new (e := e) (cap := grownCap w ys.length 0 e) hS hn (xs := []) (f := fun _ => undef) (fun x hx => by simp at hx) hyl (fun i x j d hx => by simp at hx) hg hzs (by simp; exact grownCap_ge w _ _ _) hH1 hK
      have e0 : (List.ofFn (n := ([] : List (List D)).length * te.size) fun _ => undef) = [] := List.eq_nil_of_length_eq_zero (by simp)
      rw [e0] at this
      simp only [List.length_nil, Nat.zero_add, Array.empty_append] at this
      exact ⟨_, _, hrun, this⟩
  split at h
  · -- onto nil
    obtain ⟨hr, hK⟩ := h
    have hd := hs.of_d
    cases hd with
    | nils =>
      rcases Nat.eq_zero_or_pos ys.length with h0 | h0
      · have : ys = [] := List.eq_nil_of_length_eq_zero h0
        rcases none_ none 0 0 h0 (Nat.le_refl _) with h1 | h1
        · exact ⟨_, _, h1, out_same hS hn (.inl rfl) (by rw [this] at hK; exact hK)⟩
        · exact absurd rfl h1
      · exact grow none [] 0 (fun _ => undef) H (fun x hx => by simp at hx) (fun i x j d hx => by simp at hx) (.inr ⟨rfl, rfl, rfl⟩) (by simp; exact h0) h0 (by simpa using hr) (.inl rfl) (by simpa using hK)
  · -- onto a row that is full
    rename_i sz xs
    obtain ⟨rfl, hor, hr, hK⟩ := h
    cases hs with
    | svalf hd =>
      rename_i A
      obtain ⟨A', c', f, e', hxl, hxc, hfx⟩ := src_val hd
      injection e' with e1 _ _
      subst e1
      rcases Nat.eq_zero_or_pos ys.length with h0 | h0
      · have hx0 : xs.length = 0 := by omega
        have hy0 : ys = [] := List.eq_nil_of_length_eq_zero h0
        have hx0' : xs = [] := List.eq_nil_of_length_eq_zero hx0
        rcases none_ A xs.length xs.length h0 (Nat.le_refl _) with h1 | h1
        · refine ⟨_, _, h1, ?_⟩
          rw [hx0]
          rw [hy0, hx0'] at hK
          exact out_same hS hn (.inl rfl) hK
        · exact absurd hx0 h1
      · refine grow A xs xs.length f H hxl hfx ?_ (by omega) h0 hr (.inl rfl) hK
        rcases Nat.eq_zero_or_pos xs.length with hx0 | hx0
        · have hx0' : xs = [] := List.eq_nil_of_length_eq_zero hx0
          cases A with
          | none => exact .inr ⟨rfl, hx0', hx0⟩
          | some a => exact .inl ⟨a, rfl, fun k hk => by rw [hx0] at hk; simp at hk⟩
        · exact .inl (hxc hx0)
  · -- onto a row that is owned
    rename_i id
    split at h <;> try exact h.elim
    rename_i e' sz xs ho
    obtain ⟨rfl, rfl, hr, hK⟩ := h
    cases hs with
    | sfull hsl hA =>
      rename_i s A
      obtain ⟨ho', hz, hlen, hcap, hxl, hro⟩ := obj_at hS hsl ho rfl
      rw [hlen]
      rcases hro with ⟨hnn, hc0⟩ | ⟨b, c, hb, hh, hcs, hcells⟩
      · have hx0 : xs = [] := List.eq_nil_of_length_eq_zero (by omega)
        subst hx0
        rw [hc0]
        rcases Nat.eq_zero_or_pos ys.length with h0 | h0
        · have hy0 : ys = [] := List.eq_nil_of_length_eq_zero h0
          rcases none_ A 0 0 h0 (Nat.le_refl _) with h1 | h1
          · refine ⟨_, _, h1, out_same (e := e') (sz := te.size) hS hn (.inr ⟨id, rfl⟩) ?_⟩
            rw [hy0] at hK
            exact hK
          · exact absurd rfl h1
        · cases A with
          | none => exact grow none [] 0 (fun _ => undef) _ (fun x hx => by simp at hx) (fun i x j d hx => by simp at hx) (.inr ⟨rfl, rfl, rfl⟩) (by simp; exact h0) h0 hr (.inr ⟨id, rfl⟩) hK
          | some a => exact grow (some a) [] 0 (fun _ => undef) _ (fun x hx => by simp at hx) (fun i x j d hx => by simp at hx) (.inl ⟨a, rfl, fun k hk => by simp at hk⟩) (by simp; exact h0) h0 hr (.inr ⟨id, rfl⟩) hK
      · have hfx : RowsAt w F te.size xs (fun k => c.getD k undef) := hcells
        have hcells' : ∀ k, k < xs.length * te.size → w.cell? ((⟨b, 0, none⟩ : Addr).add k) = some (c.getD k undef) := fun k hk => by
          rw [add_plain, Nat.zero_add, cell_of_heap hh]
          have := Nat.mul_le_mul_right te.size hcap
          exact getD_of (by omega)
        rw [hA b hb]
        rcases Nat.lt_or_ge s.cap (xs.length + ys.length) with hlt | hge
        · exact grow _ xs s.cap _ _ hxl hfx (.inl ⟨_, rfl, hcells'⟩) hlt (by omega) hr (.inr ⟨id, rfl⟩) hK
        · -- there is room
          have hfit : xs.length * te.size + ys.length * te.size ≤ c.size := by
            rw [← Nat.add_mul, ← hcs]; exact Nat.mul_le_mul_right _ hge
          have hnotF : ¬ F b := hS.sep id s _ b hsl ho' rfl hb
          have hnotL : ¬ LiveB Γ (H.set id .none) b := fun ⟨j, sj, oj, h1, h2, h3, h4⟩ => by
            rcases set_get h2 with ⟨_, rfl, _⟩ | ⟨hne, h2⟩
            · simp [AObj.live] at h3
            · exact hne (hS.inj id j s sj _ oj b hsl h1 ho' h2 rfl h3 hb h4)
          obtain ⟨l2, gl2⟩ := ofFn_list (ys.length * te.size) g
          have hrun : (Builtin.append_ #[T', T'] ty #[.slice (some ⟨b, 0, none⟩) xs.length s.cap, .slice B ys.length cb]).run E.P w =
              .ok (.slice (some ⟨b, 0, none⟩) (xs.length + ys.length) s.cap)
                (w.setRow b (c.toList.take (xs.length * te.size) ++ (List.ofFn (n := ys.length * te.size) fun j => g j.1) ++ c.toList.drop (xs.length * te.size + ys.length * te.size)).toArray) := by
            rcases Nat.eq_zero_or_pos ys.length with h0 | h0
            · have hfc : (Builtin.firstCells inf.size 0 (.slice B 0 cb)).run E.P w = .ok #[] w := by
                cases B with
                | none => simp [Builtin.firstCells]
                | some b => simp [Builtin.firstCells, loadCells, loadCellsFrom]
              have e1 : ys.length * te.size = 0 := by rw [h0]; simp
              have e0 : (List.ofFn (n := ys.length * te.size) fun j => g j.1) = [] := List.eq_nil_of_length_eq_zero (by rw [l2]; exact e1)
              have hself : w.setRow b (c.toList.take (xs.length * te.size) ++ (List.ofFn (n := ys.length * te.size) fun j => g j.1) ++ c.toList.drop (xs.length * te.size + ys.length * te.size)).toArray = w := by
                rw [e0, e1, Nat.add_zero, List.append_nil, List.take_append_drop]
                exact setRow_self w b c e' (0, 0) hh
              rw [hself]
              simp [Builtin.append_, run_underlying hu, sizeOf, typeInfo, i1, Builtin.lenOf, h0, hfc, storeCells, hcap]
            · obtain ⟨a2, rfl, hb2⟩ := hyc h0
              have := run_append_room (P := E.P) w T' ty e' inf hu i1 b xs.length s.cap c hh a2 ys.length cb (List.ofFn (n := ys.length * te.size) fun j => g j.1) (by simp [i2]) (holds_list hb2)
                (fun u hu => by obtain ⟨j, hj⟩ := List.mem_iff_getElem?.1 hu; obtain ⟨h1, rfl⟩ := gl2 j u hj; exact rows_one hyl hg h1) hge (by rw [i2, l2]; exact hfit)
              rw [i2, l2] at this
              exact this
          refine ⟨_, _, hrun, ?_⟩
          obtain ⟨q1, q2⟩ := splice_arr c (xs.length * te.size) (List.ofFn (n := ys.length * te.size) fun j => g j.1) (by rw [l2]; exact hfit)
          rw [l2] at q1 q2
          have hother : ∀ k, k ≠ b → (w.setRow b (c.toList.take (xs.length * te.size) ++ (List.ofFn (n := ys.length * te.size) fun j => g j.1) ++ c.toList.drop (xs.length * te.size + ys.length * te.size)).toArray).heap[k]? = w.heap[k]? := fun k hk => setRow_other w b k _ hk
          have hSw : SR E (w.setRow b (c.toList.take (xs.length * te.size) ++ (List.ofFn (n := ys.length * te.size) fun j => g j.1) ++ c.toList.drop (xs.length * te.size + ys.length * te.size)).toArray) F Γ (H.set id .none) :=
            (hS.dead id).world (by simp) (fun k hk => hother k (by
              rintro rfl
              rcases hk with hk | hk
              · exact hnotF hk
              · exact hnotL hk))
          refine ⟨F, Γ ++ [⟨some b, te.size, xs.length + ys.length, s.cap⟩], H.set id .none ++ [.arr e' te.size (xs ++ ys)], .sfull H.length, hSw.push (s := ⟨some b, te.size, xs.length + ys.length, s.cap⟩) (o := .arr e' te.size (xs ++ ys)) ⟨rfl, by simp, by simp; exact hge, fun x hx' => ?_, .inr ⟨b, _, rfl, setRow_heap w b c _ e' _ hh, by rw [q1]; exact hcs, ?_⟩⟩
            (fun b' hb' => by simp at hb'; subst hb'; exact ⟨hnotF, hnotL⟩), ?_, hK, ⟨rfl, rfl, rfl, by simp, fun k hk hlive => hother k (fun e => hlive (by subst e; exact ⟨id, s, _, hsl, ho', rfl, hb⟩)), fun _ h => h, fun _ h _ => .inl h, fun k hk _ => ?_, fun id hid => List.getElem?_append_left (by omega), by simp; omega⟩, pre_push Γ _⟩
          · rcases List.mem_append.1 hx' with h | h
            · exact hxl x h
            · exact hyl x h
          · have key := rows_append (w := w) (F := F) (h := fun k => (c.toList.take (xs.length * te.size) ++ (List.ofFn (n := ys.length * te.size) fun j => g j.1) ++ c.toList.drop (xs.length * te.size + ys.length * te.size)).toArray.getD k undef) hxl hyl hfx hg
              (fun k hk => by rw [q2 k, if_neg (by omega)])
              (fun k hk => by
                rw [q2 _, if_pos (by omega), List.getD_eq_getElem?_getD, show xs.length * te.size + k - xs.length * te.size = k by omega, List.getElem?_ofFn]
                simp [hk])
            exact fun i x j d hi hd => ⟨(key i x j d hi hd).1, (key i x j d hi hd).2.mono (fun _ h => h) (fun q hq => hother q (by rintro rfl; exact hnotF hq))⟩
          · rw [← hS.len]
            have := RV.sfull (w := w.setRow b (c.toList.take (xs.length * te.size) ++ (List.ofFn (n := ys.length * te.size) fun j => g j.1) ++ c.toList.drop (xs.length * te.size + ys.length * te.size)).toArray) (F := F) (Γ := Γ ++ [⟨some b, te.size, xs.length + ys.length, s.cap⟩]) (id := Γ.length) (A := some ⟨b, 0, none⟩) (push_get Γ _) (fun b' hb' => by simp at hb'; subst hb'; rfl)
            exact this
          · rcases live_push (by simp [hS.len]) hk with h | h
            · exact live_dead h
            · simp at h; subst h; exact ⟨id, s, _, hsl, ho', rfl, hb⟩
  · exact h.elim
end
end Go.Abs
