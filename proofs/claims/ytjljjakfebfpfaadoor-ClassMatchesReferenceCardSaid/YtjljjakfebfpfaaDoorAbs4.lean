/-
  What is built of parts; the operations that change nothing, together ('apure').
-/
import Derived.Test.YtjljjakfebfpfaaDoorAbsK
set_option autoImplicit false
set_option linter.unusedVariables false
set_option linter.unusedSimpArgs false
namespace Go.Abs

def splice {α : Type} (cells : List α) (off : Nat) (vs : List α) : List α := cells.take off ++ vs ++ cells.drop (off + vs.length)
theorem splice_length {α : Type} (cells : List α) (off : Nat) (vs : List α) (h : off + vs.length ≤ cells.length) : (splice cells off vs).length = cells.length := by
  simp [splice]; omega
theorem splice_get {α : Type} (cells : List α) (off : Nat) (vs : List α) (h : off + vs.length ≤ cells.length) (k : Nat) :
    (splice cells off vs)[k]? = if off ≤ k ∧ k < off + vs.length then vs[k - off]? else cells[k]? := by
  unfold splice
  rw [List.append_assoc, List.getElem?_append]
  simp only [List.length_take, Nat.min_eq_left (show off ≤ cells.length by omega)]
  by_cases h1 : k < off
  · rw [if_pos h1, if_neg (by omega), List.getElem?_take, if_pos h1]
  · rw [if_neg h1, List.getElem?_append]
    by_cases h2 : k < off + vs.length
    · rw [if_pos (by omega), if_pos ⟨by omega, h2⟩]
    · rw [if_neg (by omega), if_neg (by omega), List.getElem?_drop]
      congr 1; omega

def afill (place : Nat → Option (Nat × Nat)) (cells : List AV) : List (Nat × AV) → Option (List AV)
  | [] => some cells
  | (i, v) :: rest => match place i, v.cells with
    | some (off, size), some vs => if vs.length = size ∧ off + size ≤ cells.length then afill place (splice cells off vs) rest else none
    | _, _ => none

/-- Cells as described. -/
def CV (w : World) (F : Nat → Prop) (Γ : List Slot) (cs : List AV) (vs : Array Value) : Prop :=
  vs.size = cs.length ∧ (∀ j, j < vs.size → (vs.getD j undef).oneCell' = true) ∧ ∀ j d, cs[j]? = some d → RV w F Γ d (vs.getD j undef)

theorem foldl_put (off : Nat) : ∀ (l : List Value) (j0 : Nat) (cells : Array Value), off + j0 + l.length ≤ cells.size →
    ((l.zipIdx j0).foldl (fun cs (p : Value × Nat) => cs.setIfInBounds (off + p.2) p.1) cells).size = cells.size ∧
    ∀ k, ((l.zipIdx j0).foldl (fun cs (p : Value × Nat) => cs.setIfInBounds (off + p.2) p.1) cells).getD k undef =
      if off + j0 ≤ k ∧ k < off + j0 + l.length then l.getD (k - (off + j0)) undef else cells.getD k undef
  | [], j0, cells, h => by
    refine ⟨rfl, fun k => ?_⟩
    simp only [List.zipIdx_nil, List.foldl_nil, List.length_nil]
    rw [if_neg (by omega)]
  | v :: l, j0, cells, h => by
    simp only [List.zipIdx_cons, List.foldl_cons, List.length_cons] at h ⊢
    obtain ⟨h1, h2⟩ := foldl_put off l (j0 + 1) (cells.setIfInBounds (off + j0) v) (by simp; omega)
    refine ⟨by rw [h1]; simp, fun k => ?_⟩
    rw [h2 k]
    by_cases hk : k = off + j0
    · subst hk
      rw [if_neg (by omega), if_pos (by omega), getD_set_self _ _ _ (by omega)]
      simp
    · by_cases hk2 : off + (j0 + 1) ≤ k ∧ k < off + (j0 + 1) + l.length
      · rw [if_pos hk2, if_pos (by omega)]
        obtain ⟨m, hm⟩ : ∃ m, k - (off + j0) = m + 1 := ⟨k - (off + j0) - 1, by omega⟩
        rw [hm, List.getD_cons_succ]
        congr 1; omega
      · rw [if_neg hk2, if_neg (by omega), getD_set_ne _ _ _ _ (Ne.symm hk)]

section
variable {E : Env} {w : World} {F : Nat → Prop} {Γ : List Slot} {H : List AObj}

/-- The parts as described. -/
def PV (w : World) (F : Nat → Prop) (Γ : List Slot) : List (Nat × AV) → List (Nat × Value) → Prop
  | [], [] => True
  | (i, a) :: r, (j, v) :: s => i = j ∧ RV w F Γ a v ∧ PV w F Γ r s
  | _, _ => False

theorem fill_ok (place : Nat → Option (Nat × Nat)) : ∀ (ps : List (Nat × AV)) (qs : List (Nat × Value)) (cs : List AV) (vs : Array Value) (out : List AV), PV w F Γ ps qs → CV w F Γ cs vs →
    afill place cs ps = some out → ∃ vs', Instr.fill place vs qs = some vs' ∧ CV w F Γ out vs'
  | [], [], cs, vs, out, _, hc, h => by simp [afill] at h; subst h; exact ⟨vs, rfl, hc⟩
  | [], _ :: _, cs, vs, out, hp, hc, h => hp.elim
  | _ :: _, [], cs, vs, out, hp, hc, h => by obtain ⟨i, a⟩ := ‹Nat × AV›; exact hp.elim
  | (i, a) :: ps, (j, v) :: qs, cs, vs, out, hp, hc, h => by
    obtain ⟨rfl, hv, hp⟩ := hp
    simp only [afill] at h
    split at h
    · rename_i off size us hpl hus
      split at h
      · rename_i hcond
        obtain ⟨h1, h2⟩ := hcond
        obtain ⟨hs, hone, hr⟩ := cells_ok hv hus
        obtain ⟨hcs, hcone, hcr⟩ := hc
        have hsz : v.cells.size = size := by omega
        have hle : off + v.cells.toList.length ≤ vs.size := by simp; omega
        obtain ⟨hf1, hf2⟩ := foldl_put off v.cells.toList 0 vs (by simpa using hle)
        have key : Instr.fill place vs ((i, v) :: qs) = Instr.fill place ((v.cells.toList.zipIdx 0).foldl (fun cs (p : Value × Nat) => cs.setIfInBounds (off + p.2) p.1) vs) qs := by
          simp only [Instr.fill, hpl]
          rw [if_neg (by simp [hsz]; omega)]
          congr 1
          rw [← Array.foldl_toList, Array.toList_zipIdx]
        rw [key]
        refine fill_ok place ps qs (splice cs off us) _ out hp ⟨?_, ?_, ?_⟩ h
        · rw [hf1, splice_length _ _ _ (by omega)]; exact hcs
        · intro k hk
          rw [hf1] at hk
          rw [hf2 k]
          by_cases hkk : off + 0 ≤ k ∧ k < off + 0 + v.cells.toList.length
          · rw [if_pos hkk]
            have := hone (k - off) (by simp at hkk; omega)
            rw [List.getD_eq_getElem?_getD, Array.getElem?_toList]
            rw [Array.getD_eq_getD_getElem?] at this
            simpa using this
          · rw [if_neg hkk]
            exact hcone k hk
        · intro k d hk
          rw [splice_get _ _ _ (by omega)] at hk
          rw [hf2 k]
          have hlen : v.cells.toList.length = us.length := by simpa using hs
          split at hk
          · rename_i hkk
            rw [if_pos (by omega)]
            have := hr _ _ hk
            rw [List.getD_eq_getElem?_getD, Array.getElem?_toList]
            rw [Array.getD_eq_getD_getElem?] at this
            simpa using this
          · rename_i hkk
            rw [if_neg (by omega)]
            exact hcr _ _ hk
      · simp at h
    · simp at h

def aplace (E : Env) (T : TypeId) (i : Nat) : Option (Nat × Nat) := match kd E T with
  | some (.struct fl) => match fl[i]? with
    | some (off, t) => match esz E t with
      | some sz => some (off, sz)
      | none => none
    | none => none
  | some (.array _ e) => match esz E e with
    | some sz => some (i * sz, sz)
    | none => none
  | _ => none
def zeroC (E : Env) (T : TypeId) : Option (List AV) := match E.ty T with
  | some i => some (i.zero.map .d)
  | none => none
def abuild (E : Env) (T : TypeId) (ps : List (Nat × AV)) (K : AV → Prop) : Prop := match zeroC E T with
  | some z => match afill (aplace E T) z ps with
    | some cs => K (mkAgg cs)
    | none => False
  | none => False

theorem zeroC_ok (hE : EnvOk E) {T : TypeId} {z : List AV} (h : zeroC E T = some z) : ∃ v, (∀ w, (zeroValue T).run E.P w = .ok v w) ∧ ∀ w F Γ, CV w F Γ z v.cells := by
  unfold zeroC at h
  cases hi : E.ty T with
  | none => simp [hi] at h
  | some i =>
    simp [hi] at h
    subst h
    obtain ⟨inf, v, h1, h2, h3, h4, h5, h6, h7, _⟩ := hE.info T i hi
    refine ⟨v, fun w => by simp [zeroValue, typeInfo, h1, h4], fun w F Γ => ⟨by simp [h5], fun j hj => ?_, fun j d hj => ?_⟩⟩
    · have hj' : j < i.zero.length := by omega
      exact (h7 j _ (List.getElem?_eq_getElem hj')).1
    · rw [List.getElem?_map] at hj
      cases hx : i.zero[j]? with
      | none => simp [hx] at hj
      | some x => simp [hx] at hj; subst hj; exact .d ((h7 j x hx).2 w F)

/-- All fields' types are known. -/
def known (E : Env) (T : TypeId) : Bool := match kd E T with
  | some (.struct fl) => fl.all fun p => (esz E p.2).isSome
  | some (.array _ e) => (esz E e).isSome
  | _ => false

theorem esz_info (hE : EnvOk E) {t : TypeId} {n : Nat} (h : esz E t = some n) : ∃ i, E.P.info? t = some i ∧ i.size = n := by
  unfold esz at h
  cases hi : E.ty t with
  | none => simp [hi] at h
  | some i =>
    simp [hi] at h
    obtain ⟨inf, v, h1, h2, _⟩ := hE.info t i hi
    exact ⟨inf, h1, by omega⟩

theorem places_ok (hE : EnvOk E) : ∀ (fs : List Field), (fs.map (fun f => (f.offset, f.type))).all (fun p => (esz E p.2).isSome) = true →
    fs.mapM (fun f => (E.P.info? f.type).map fun i => (f.offset, i.size)) = some (fs.map fun f => (f.offset, (esz E f.type).getD 0))
  | [], _ => rfl
  | f :: fs, h => by
    simp only [List.map_cons, List.all_cons, Bool.and_eq_true] at h
    obtain ⟨n, hn⟩ := Option.isSome_iff_exists.1 h.1
    obtain ⟨i, hi, hs⟩ := esz_info hE hn
    simp [List.mapM_cons, hi, places_ok hE fs h.2, hn, hs]

theorem abuild_ok (hE : EnvOk E) {T : TypeId} (hk : known E T = true) {ps : List (Nat × AV)} {qs : Array (Nat × Value)} {K : AV → Prop} (h : abuild E T ps K) (hp : PV w F Γ ps qs.toList) :
    ∃ v av, (Instr.build T qs).run E.P w = .ok v w ∧ K av ∧ RV w F Γ av v := by
  unfold abuild at h
  split at h <;> try exact h.elim
  rename_i z hz
  split at h <;> try exact h.elim
  rename_i cs hcs
  obtain ⟨zv, hzv, hcv⟩ := zeroC_ok hE hz
  obtain ⟨vs', hfill, hcv'⟩ := fill_ok (aplace E T) ps qs.toList z zv.cells cs hp (hcv w F Γ) hcs
  refine ⟨.agg vs', mkAgg cs, ?_, h, mkAgg_ok cs vs' hcv'.1 hcv'.2.1 hcv'.2.2⟩
  unfold known at hk
  split at hk
  · rename_i fl hkd
    obtain ⟨d, hf, hr⟩ := kd_some hE hkd
    obtain ⟨fs, rfl, rfl⟩ := hf
    have hpl := run_places (P := E.P) w fs.toList _ (places_ok hE fs.toList hk)
    have e : (fun x => (fs.toList.map fun f => (f.offset, (esz E f.type).getD 0)).toArray[x]?) = aplace E T := by
      funext x
      simp only [aplace, hkd, List.getElem?_toArray, List.getElem?_map]
      cases hx : fs.toList[x]? with
      | none => simp
      | some fl =>
        simp only [Option.map_some]
        have := List.all_eq_true.1 hk (fl.offset, fl.type) (List.mem_map.2 ⟨fl, List.mem_of_getElem? hx, rfl⟩)
        obtain ⟨n, hn⟩ := Option.isSome_iff_exists.1 this
        simp [hn]
    rw [← e] at hfill
    simp [Instr.build, hzv, hr, Array.mapM_eq_mapM_toList, hpl]
    simp at hfill
    simp [hfill]
  · rename_i m e hkd
    obtain ⟨d, hf, hr⟩ := kd_some hE hkd
    simp only [Kd.fits] at hf
    subst hf
    obtain ⟨n, hn⟩ := Option.isSome_iff_exists.1 hk
    have e' : (fun i => some (i * n, n)) = aplace E T := by
      funext i
      simp [aplace, hkd, hn]
    rw [← e'] at hfill
    simp [Instr.build, hzv, hr, esz_ok hE hn, hfill]
  · simp at hk

/-! ### The operations that change nothing -/
def apureCall (E : Env) (c : Call) (ρ : Operand → AV) (H : List AObj) (K : AV → Prop) : Prop := match c.callee with
  | .builtin .len => match c.args.toList, c.argTypes.toList with
    | x :: _, T :: _ => alen E T H (ρ x) K
    | _, _ => False
  | .builtin .max => (match c.args.toList.map ρ with
    | [.d (.int k a), .d (.int _ b)] => K (.d (.int k (max a b)))
    | _ => False)
  | .builtin .min => (match c.args.toList.map ρ with
    | [.d (.int k a), .d (.int _ b)] => K (.d (.int k (min a b)))
    | _ => False)
  | _ => False
def apure (E : Env) (o : Op) (ρ : Operand → AV) (H : List AObj) (K : AV → Prop) : Prop := match o with
  | .move x => K (ρ x)
  | .assign x => K (ρ x)
  | .pick c a b => (match ρ c with
    | .d (.bool p) => Br p (K (ρ a)) (K (ρ b))
    | _ => False)
  | .load t a => aload E t H K (ρ a)
  | .nilCheck x => anil (ρ x) K
  | .binOp op T x y _ => abin E op T (isC x || isC y) (ρ x) (ρ y) K
  | .unOp op _ x => aun op (ρ x) K
  | .convert s d x => aconv E s d (ρ x) K
  | .makeInterface T x => (match kd E T with
    | some .iface => False
    | some _ => K (mkIface T (ρ x))
    | none => False)
  | .makeFunc (.func f) first caps => first.toList = [] ∧ K (mkFunc f (caps.toList.map ρ))
  | .slice t x lo hi mx => aslice E t H (ρ x) (lo.map ρ) (hi.map ρ) (mx.map ρ) K
  | .fieldAddr s x f => afldAddr E s (ρ x) f K
  | .field s x f => afld E s (ρ x) f K
  | .indexAddr t x i => aidx E t H (ρ x) (ρ i) K
  | .extract x i => aext (ρ x) i K
  | .build T parts => known E T = true ∧ abuild E T (parts.toList.map fun (i, x) => (i, ρ x)) K
  | .lookup T x i ok => alook E T H (ρ x) (ρ i) ok K
  | .call c => apureCall E c ρ H K
  | _ => False

theorem OV_map {ρ : Operand → AV} {η : Operand → Value} (hη : ∀ x, RV w F Γ (ρ x) (η x)) (o : Option Operand) : OV w F Γ (o.map ρ) (o.map η) := by
  cases o with
  | none => trivial
  | some x => exact hη x
theorem PV_map {ρ : Operand → AV} {η : Operand → Value} (hη : ∀ x, RV w F Γ (ρ x) (η x)) : ∀ (l : List (Nat × Operand)), PV w F Γ (l.map fun (i, x) => (i, ρ x)) (l.map fun (i, x) => (i, η x))
  | [] => trivial
  | (i, x) :: l => ⟨rfl, hη x, PV_map hη l⟩

theorem apure_ok (hE : EnvOk E) (hS : SR E w F Γ H) {o : Oper} {ρ : Operand → AV} {K : AV → Prop} (h : apure E o.op ρ H K) {η : Operand → Value} (hη : ∀ x, RV w F Γ (ρ x) (η x)) :
    ∃ v av, (execOp η o).run E.P w = .ok (.value v) w ∧ K av ∧ RV w F Γ av v := by
  have lift : ∀ (m : Sem Value), (∃ v av, m.run E.P w = .ok v w ∧ K av ∧ RV w F Γ av v) → ∃ v av, ((do pure (.value (← m)) : Sem Next)).run E.P w = .ok (.value v) w ∧ K av ∧ RV w F Γ av v := by
    rintro m ⟨v, av, h1, h2⟩
    exact ⟨v, av, by simp [h1], h2⟩
  obtain ⟨dst, op, ty, pos, after, guard⟩ := o
  simp only at h
  unfold apure at h
  split at h <;> simp only [execOp]
  · exact ⟨_, _, rfl, h, hη _⟩
  · exact ⟨_, _, rfl, h, hη _⟩
  · rename_i c a b
    split at h
    · rename_i p hp
      have hc := hη c
      rw [hp] at hc
      have hc' := RD_bool hc.of_d
      cases p with
      | true => exact ⟨_, _, by simp [hc', asBool], h.1 rfl, hη a⟩
      | false => exact ⟨_, _, by simp [hc', asBool], h.2 rfl, hη b⟩
    · exact h.elim
  · exact lift _ (aload_ok hE hS h (hη _))
  · rename_i x
    have hx := hη x
    generalize η x = v at hx ⊢
    unfold anil at h
    split at h <;> try exact h.elim
    · rename_i hρ; rw [hρ] at hx
      cases hx with
      | pvar hs hb => exact ⟨_, _, rfl, h, .pvar hs hb⟩
    · rename_i hρ; rw [hρ] at hx
      cases hx with
      | parr hs hb => exact ⟨_, _, rfl, h, .parr hs hb⟩
    · rename_i hρ; rw [hρ] at hx
      cases hx with
      | pval hd hi => exact ⟨_, _, rfl, h, .pval hd hi⟩
    · rename_i hρ; rw [hρ] at hx
      cases hx with
      | func f cs vs hs hr => exact ⟨_, _, rfl, h, .func _ _ vs hs hr⟩
    · rename_i hρ; rw [hρ] at hx
      cases hx with
      | iface t d v hr => exact ⟨_, _, rfl, h, .iface _ _ v hr⟩
    · rename_i hρ; rw [hρ] at hx
      have hd := hx.of_d
      cases hd with
      | iface t d v hr => exact ⟨_, _, rfl, h, .d (.iface _ _ v hr)⟩
    · rename_i hρ; rw [hρ] at hx
      have hd := hx.of_d
      cases hd with
      | func f cs vs hs hr => exact ⟨_, _, rfl, h, .d (.func _ _ vs hs hr)⟩
  · rename_i op T x y yT
    have := abin_ok (w := w) (F := F) (Γ := Γ) hE h (hη x) (hη y)
    exact lift _ this
  · exact lift _ (aun_ok h (hη _) E.P)
  · exact lift _ (aconv_ok hE h (hη _))
  · rename_i T x
    split at h <;> try exact h.elim
    rename_i k hne hk
    obtain ⟨d, hf, hr⟩ := kd_some hE hk
    refine ⟨_, _, ?_, h, mkIface_ok T (hη x)⟩
    have : (Instr.makeInterface T (η x)).run E.P w = .ok (.iface T (η x)) w := by
      simp only [Instr.makeInterface, Sem.run_bind, hr, Result.andThen_ok]
      cases k <;> simp only [Kd.fits] at hf
      all_goals first
        | exact absurd rfl (hne)
        | (subst hf; rfl)
        | (obtain ⟨_, rfl⟩ := hf; rfl)
        | (obtain ⟨_, rfl, _⟩ := hf; rfl)
        | (obtain ⟨_, _, _, rfl⟩ := hf; rfl)
    simp [this]
  · rename_i f first caps
    obtain ⟨h0, h⟩ := h
    refine ⟨.func (.func f) #[] (caps.map η), _, ?_, h, mkFunc_ok f _ _ (by simp) (fun j d hj => ?_)⟩
    · have : first.map η = #[] := by
        have : first = #[] := by simpa using h0
        simp [this]
      simp [Instr.makeFunc, this]
    · rw [List.getElem?_map] at hj
      cases hx : caps.toList[j]? with
      | none => simp [hx] at hj
      | some x =>
        simp [hx] at hj
        subst hj
        have hx' : caps[j]? = some x := by simpa using hx
        rw [Array.getD_eq_getD_getElem?, Array.getElem?_map, hx']
        exact hη x
  · exact lift _ (aslice_ok hE hS h (hη _) (OV_map hη _) (OV_map hη _) (OV_map hη _))
  · exact lift _ (afldAddr_ok hE h (hη _))
  · exact lift _ (afld_ok hE h (hη _))
  · exact lift _ (aidx_ok hE hS h (hη _) (hη _))
  · exact lift _ (aext_ok h (hη _) E.P)
  · rename_i T parts
    refine lift _ (abuild_ok hE h.1 h.2 ?_)
    simpa using PV_map hη parts.toList
  · exact lift _ (alook_ok hE hS h (hη _) (hη _))
  · rename_i c
    obtain ⟨callee, args, argTypes⟩ := c
    unfold apureCall at h
    simp only at h
    have two : ∀ {k k' : IntKind} {a b : Int}, args.toList.map ρ = [.d (.int k a), .d (.int k' b)] → args.map η = #[.int k a, .int k' b] := fun {k k' a b} e => by
      match hl : args.toList with
      | [x, y] =>
        rw [hl] at e
        simp at e
        have h0 := hη x
        have h1 := hη y
        rw [e.1] at h0
        rw [e.2] at h1
        have ea : args = #[x, y] := Array.toList_inj.1 hl
        subst ea
        simp [RD_int h0.of_d, RD_int h1.of_d]
      | [] => simp [hl] at e
      | [_] => simp [hl] at e
      | _ :: _ :: _ :: _ => simp [hl] at e
    split at h <;> try exact h.elim
    · split at h <;> try exact h.elim
      rename_i x xs T Ts hxs hTs
      have h0 : args[0]? = some x := by rw [← Array.getElem?_toList, hxs]; rfl
      have h1 : argTypes[0]? = some T := by rw [← Array.getElem?_toList, hTs]; rfl
      have := alen_ok (T' := ty) hE hS h1 h (as := args.map η) (a := η x) (by simp [h0]) (hη x)
      simp only [resolve, invoke, builtin, pure_bind]
      exact lift _ this
    · split at h <;> try exact h.elim
      rename_i k a k' b e
      have ea := two e
      simp only [resolve, invoke, builtin, pure_bind, ea]
      refine lift _ ⟨_, _, run_max_int2 _ _ _ _ _ _ _, h, ?_⟩
      have : (if b > a then b else a) = max a b := by split <;> omega
      rw [this]
      exact .d (.int _ _)
    · split at h <;> try exact h.elim
      rename_i k a k' b e
      have ea := two e
      simp only [resolve, invoke, builtin, pure_bind, ea]
      refine lift _ ⟨_, _, run_min_int2 _ _ _ _ _ _ _, h, ?_⟩
      have : (if b < a then b else a) = min a b := by split <;> omega
      rw [this]
      exact .d (.int _ _)
  · exact h.elim
end
end Go.Abs
