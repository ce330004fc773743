/-
  Values of flat structs, compared part by part.
-/
import Derived.Test.YtjljjakfebfpfaaDoorAbs12
import Derived.ChangeKeysEq
set_option autoImplicit false
set_option linter.unusedVariables false
set_option linter.unusedSimpArgs false
namespace Go.Abs

/-- A part's kind. -/
inductive SK where
  | int (k : IntKind)
  | bool
  | str
def SK.fits : SK → D → Bool
  | .int k, .int k' _ => k' == k
  | .bool, .bool _ => true
  | .str, .str _ => true
  | _, _ => false
def fitL : List SK → List D → Bool
  | [], [] => true
  | k :: ks, d :: ds => k.fits d && fitL ks ds
  | _, _ => false
def isAggK (ks : List SK) : D → Bool
  | .agg cs => fitL ks cs
  | _ => false
def SK.desc (P : Program) (t : TypeId) : SK → Prop
  | .int k => P.underlying t = some (.int k)
  | .bool => P.underlying t = some .bool
  | .str => P.underlying t = some .string
def FlatF (P : Program) : List Field → List SK → Nat → Prop
  | [], [], _ => True
  | f :: fs, k :: ks, n => f.name ≠ "_" ∧ f.offset = n ∧ k.desc P f.type ∧ FlatF P fs ks (n + 1)
  | _, _, _ => False

theorem fitL_len : ∀ {ks : List SK} {ds : List D}, fitL ks ds = true → ds.length = ks.length
  | [], [], _ => rfl
  | k :: ks, d :: ds, h => by
    simp only [fitL, Bool.and_eq_true] at h
    simp [fitL_len h.2]
  | [], _ :: _, h => by simp [fitL] at h
  | _ :: _, [], h => by simp [fitL] at h

theorem skeq_run {P : Program} {w : World} {F : Nat → Prop} {t : TypeId} {k : SK} {a b : D} {u v : Value} (hk : k.desc P t) (ha : k.fits a = true) (hb : k.fits b = true) (hu : RD w F a u) (hv : RD w F b v) (d : Nat) (w' : World) :
    (Op.equalIn (d + 1) t u v).run P w' = .ok (skeq a b) w' ∧ P.plainKey t = true := by
  cases k with
  | int k =>
    cases hu <;> simp [SK.fits] at ha
    cases hv <;> simp [SK.fits] at hb
    subst ha hb
    simp only [SK.desc] at hk
    exact ⟨by simp [Op.equalIn, run_underlying hk, skeq], by simp [Program.plainKey, hk]⟩
  | bool =>
    cases hu <;> simp [SK.fits] at ha
    cases hv <;> simp [SK.fits] at hb
    simp only [SK.desc] at hk
    exact ⟨by simp [Op.equalIn, run_underlying hk, skeq], by simp [Program.plainKey, hk]⟩
  | str =>
    cases hu <;> simp [SK.fits] at ha
    cases hv <;> simp [SK.fits] at hb
    simp only [SK.desc] at hk
    exact ⟨by simp [Op.equalIn, run_underlying hk, skeq], by simp [Program.plainKey, hk]⟩

theorem eqFields_flat {P : Program} {w : World} {F : Nat → Prop} (d : Nat) (xs ys : Array Value) (w' : World) : ∀ (fs : List Field) (ks : List SK) (n : Nat) (as bs : List D), FlatF P fs ks n → fitL ks as = true → fitL ks bs = true →
    (∀ (j : Nat) a, as[j]? = some a → n + j < xs.size ∧ RD w F a (xs.getD (n + j) undef)) → (∀ (j : Nat) a, bs[j]? = some a → n + j < ys.size ∧ RD w F a (ys.getD (n + j) undef)) →
    (Op.eqFields (d + 1) xs ys fs).run P w' = .ok (skeqL as bs) w'
  | [], [], n, [], [], _, _, _, _, _ => by simp [Op.eqFields, skeqL]
  | f :: fs, k :: ks, n, a :: as, b :: bs, hF, ha, hb, hx, hy => by
    obtain ⟨h1, h2, h3, h4⟩ := hF
    simp only [fitL, Bool.and_eq_true] at ha hb
    obtain ⟨x1, x2⟩ := hx 0 a rfl
    obtain ⟨y1, y2⟩ := hy 0 b rfl
    obtain ⟨e1, e2⟩ := skeq_run h3 ha.1 hb.1 x2 y2 d w'
    have px : (part f.type xs f.offset).run P w' = .ok (xs.getD (n + 0) undef) w' := run_part_plain w' e2 (by rw [h2]; simp only [Nat.add_zero] at x1 ⊢; simp [x1])
    have py : (part f.type ys f.offset).run P w' = .ok (ys.getD (n + 0) undef) w' := run_part_plain w' e2 (by rw [h2]; simp only [Nat.add_zero] at y1 ⊢; simp [y1])
    have ih := eqFields_flat (w := w) (F := F) d xs ys w' fs ks (n + 1) as bs h4 ha.2 hb.2 (fun j a hj => by rw [show n + 1 + j = n + (j + 1) by omega]; exact hx (j + 1) a hj) (fun j a hj => by rw [show n + 1 + j = n + (j + 1) by omega]; exact hy (j + 1) a hj)
    simp only [Op.eqFields, h1, ne_eq, not_false_eq_true, if_true, Sem.run_bind, px, py, Result.andThen_ok, e1, skeqL]
    cases skeq a b
    · simp
    · simpa using ih
  | [], _ :: _, _, _, _, h, _, _, _, _ => h.elim
  | _ :: _, [], _, _, _, h, _, _, _, _ => h.elim
  | _ :: _, _ :: _, _, [], _, _, h, _, _, _ => by simp [fitL] at h
  | _ :: _, _ :: _, _, _ :: _, [], _, _, h, _, _ => by simp [fitL] at h
  | [], [], _, _ :: _, _, _, h, _, _, _ => by simp [fitL] at h
  | [], [], _, [], _ :: _, _, _, h, _, _ => by simp [fitL] at h

theorem cmpLaw_of {P : Program} {t : TypeId} {fs : Array Field} {ks : List SK} (hu : P.underlying t = some (.struct fs)) (hs : P.stoodInHeld t = false) (hg : P.eqGuardType P.depth t = false) (hf : FlatF P fs.toList ks 0) : CmpLaw P t (isAggK ks) where
  eq w F a b u v ha hb hu' hv := by
    cases hu' <;> simp [isAggK] at ha
    cases hv <;> simp [isAggK] at hb
    rename_i as xs x1 x2 x3 bs ys y1 y2 y3
    have hfs : P.fieldsOf t = fs := by simp [Program.fieldsOf, hu]
    have e := run_equalIn_struct (P := P) w 9999 t xs ys (by rw [hfs]; exact hu) hs
    rw [hfs, eqFields_flat (w := w) (F := F) 9998 xs ys w fs.toList ks 0 as bs hf ha hb
      (fun j a hj => by rw [Nat.zero_add]; exact ⟨by rw [x1]; exact (List.getElem?_eq_some_iff.1 hj).1, x3 j a hj⟩)
      (fun j a hj => by rw [Nat.zero_add]; exact ⟨by rw [y1]; exact (List.getElem?_eq_some_iff.1 hj).1, y3 j a hj⟩)] at e
    simpa [Op.equal, Op.maxDepth, dkeq] using e
  grd op x y w F a b u v ha hb hu' hv := by
    cases hu' <;> simp [isAggK] at ha
    cases hv <;> simp [isAggK] at hb
    exact run_eqGuard_agg w op t x y _ _ hg
  bin op w F a b u v ha hb hu' hv ho := by
    cases hu' <;> simp [isAggK] at ha
    cases hv <;> simp [isAggK] at hb
    rcases ho with rfl | rfl <;> simp [binOp]
end Go.Abs
