/-
  The greater elements of two vectors.
  The walks of the package load: what a row contains; the closure of Of.
  The walks of the package load: the load of a node.
  The walks of the package load, continued: what fits, what is left, what is short.
  The reference's functions on reservations: the pods that are seen, and their sum.
  What the load of a node is, in plain words.
  The reference's load, and whether a pod fits.
  The walks of the package load at a cluster that is not there.
  The examples of the chapter on loads.
  ReserveLower, walked.
  LoadRises, walked.
  LoadBinds, walked.
  LoadFewer, walked.
-/
import Derived.Test.YtcmhdpbmcgglmaaGreatDoorB0
import Derived.Test.YtcmhdpbmcgglmaaGreatDoorB3
import Derived.Test.YtcmhdpbmcgglmaaGreatDoorB1
section
set_option autoImplicit false
set_option linter.unusedVariables false
set_option linter.unusedSimpArgs false
namespace Go.Proofs.YtcmhdpbmcgglmaaGreatDoor
open Go.Abs
end Go.Proofs.YtcmhdpbmcgglmaaGreatDoor
end
section
set_option autoImplicit false
set_option linter.unusedVariables false
set_option linter.unusedSimpArgs false
namespace Go.Proofs.YtcmhdpbmcgglmaaGreatDoor
open Go.Abs
def takes (wo : List Int) (q : Pod) : Bool := decide (holdsP q.1.ph) && !decide (q.1.id ∈ wo)
theorem takes_yes {wo : List Int} {q : Pod} (h : takes wo q = true) : decide (q.1.ph = 3 ∨ q.1.ph = 4) = true ∧ decide (q.1.id ∈ wo) = false := by
  unfold takes at h
  rw [Bool.and_eq_true] at h
  exact ⟨h.1, by simpa using h.2⟩
end Go.Proofs.YtcmhdpbmcgglmaaGreatDoor
end
section
set_option autoImplicit false
set_option linter.unusedVariables false
set_option linter.unusedSimpArgs false
namespace Go.Proofs.YtcmhdpbmcgglmaaGreatDoor
open Go.Abs
def heldL (c : Cl) (n : Int) (wo : List Int) : List Pod := (listed c.L (onP n) c.ids).filter (takes wo)
noncomputable def loadR (c : Cl) (n : Int) (wo : List Int) (sv : List Int) : List (List Int) := if (lget c.N n).isSome then zrow c.d :: sv :: reqs (heldL c n wo) else [zrow c.d]
theorem filt_snoc (f : Pod → Bool) {l : List Pod} {i : Nat} (h : i < l.length) : (l.take (i + 1)).filter f = (l.take i).filter f ++ if f (l.getD i pz) then [l.getD i pz] else [] := by
  rw [List.take_add_one, List.filter_append, List.getElem?_eq_getElem h, List.getD_eq_getElem?_getD, List.getElem?_eq_getElem h, Option.toList_some, Option.getD_some]
  cases hf : f l[i] <;> simp [hf]
end Go.Proofs.YtcmhdpbmcgglmaaGreatDoor
end
section
set_option autoImplicit false
set_option linter.unusedVariables false
set_option linter.unusedSimpArgs false
namespace Go.Proofs.YtcmhdpbmcgglmaaGreatDoor
open Go.Abs
structure LdOk (c : Cl) (p : Pod) (n : Int) (wo lv : List Int) : Prop where
  ok : ClOk c
  len : c.ids.length ≤ 65536
  hwo : wo.length ≤ 4611686018427387904
  sum : ∃ sv, addS (zrow c.d :: reqs (seenL c p n)) = some sv ∧ Sz sv ∧ InR sv ∧ addS (loadR c n wo sv) = some lv
  sz : Sz lv
  inr : InR lv
  out : lget c.N n = none → ∀ q ∈ listed c.L (onP n) c.ids, takes wo q = false
noncomputable def totS (c : Cl) (p : Pod) (n : Int) (lv : List Int) : Option (Option (List Int) × List Int) :=
  match lget c.N n with
  | none => none
  | some e => if 0 ≤ wrongS p.2 c.d then none else some (addS [lv, p.2], e.2.1)
noncomputable def fitB : Option (Option (List Int) × List Int) → Bool
  | some (some s, cap) => B (FitsP s cap)
  | _ => false
end Go.Proofs.YtcmhdpbmcgglmaaGreatDoor
end
section
set_option autoImplicit false
set_option linter.unusedVariables false
set_option linter.unusedSimpArgs false
namespace Go.Proofs.YtcmhdpbmcgglmaaGreatDoor
open Go.Abs
noncomputable def seenP (P : List Pod) (p : Pod) (n : Int) : List Pod := P.filter fun q => B (SeesP p q n)
def reqV (l : List Pod) (k : Nat) : Int := (l.map fun q => q.2.getD k 0).sum
theorem reqV_col (l : List Pod) (k : Nat) : colV (reqs l) k = reqV l k := by
  unfold colV reqs reqV
  rw [List.map_map]
  rfl
theorem reqV_bd (k : Nat) : ∀ (l : List Pod), (∀ q ∈ l, GoodV q.2) → 0 ≤ reqV l k ∧ reqV l k ≤ 1099511627776 * (l.length : Int)
  | [], _ => by simp [reqV]
  | q :: l, h => by
    have h1 := reqV_bd k l fun x hx => h x (by simp [hx])
    have h2 := (h q (by simp)).at k
    simp only [reqV, List.map_cons, List.sum_cons, List.length_cons] at h1 ⊢
    omega
def two (l : List Pod) : List Int := [reqV l 0, reqV l 1]
end Go.Proofs.YtcmhdpbmcgglmaaGreatDoor
end
section
set_option autoImplicit false
set_option linter.unusedVariables false
set_option linter.unusedSimpArgs false
namespace Go.Proofs.YtcmhdpbmcgglmaaGreatDoor
open Go.Abs
def heldP (P : List Pod) (n : Int) (wo : List Int) : List Pod := (P.filter (onP n)).filter (takes wo)
noncomputable def loadV (w : Rc) (p : Pod) (n : Int) (wo : List Int) : List Int :=
  if (findN w.nodes n).isSome then [reqV (seenP w.pods p n) 0 + reqV (heldP w.pods n wo) 0, reqV (seenP w.pods p n) 1 + reqV (heldP w.pods n wo) 1] else [0, 0]
theorem zrow_two : zrow 2 = [0, 0] := rfl
section
variable {c : Cl} {w : Rc}
theorem seen_bd (h : RC c w) (p : Pod) (n : Int) (k : Nat) : 0 ≤ reqV (seenP w.pods p n) k ∧ reqV (seenP w.pods p n) k ≤ 72057594037927936 := by
  have h1 := reqV_bd k (seenP w.pods p n) fun q hq => h.gp q (List.mem_filter.1 hq).1
  have h2 : (seenP w.pods p n).length ≤ w.pods.length := List.length_filter_le _ _
  have := h.len
  omega
theorem held_bd (h : RC c w) (n : Int) (wo : List Int) (k : Nat) : 0 ≤ reqV (heldP w.pods n wo) k ∧ reqV (heldP w.pods n wo) k ≤ 72057594037927936 := by
  have h1 := reqV_bd k (heldP w.pods n wo) fun q hq => h.gp q (List.mem_filter.1 (List.mem_filter.1 hq).1).1
  have h2 : (heldP w.pods n wo).length ≤ w.pods.length := Nat.le_trans (List.length_filter_le _ _) (List.length_filter_le _ _)
  have := h.len
  omega
theorem load_bd (h : RC c w) (p : Pod) (n : Int) (wo : List Int) (k : Nat) : 0 ≤ (loadV w p n wo).getD k 0 ∧ (loadV w p n wo).getD k 0 ≤ 144115188075855872 := by
  unfold loadV
  have a0 := seen_bd h p n 0
  have a1 := seen_bd h p n 1
  have b0 := held_bd h n wo 0
  have b1 := held_bd h n wo 1
  split
  · match k with
    | 0 => show 0 ≤ reqV _ 0 + _ ∧ reqV _ 0 + _ ≤ _; omega
    | 1 => show 0 ≤ reqV _ 1 + _ ∧ reqV _ 1 + _ ≤ _; omega
    | k + 2 => simp
  · match k with
    | 0 => simp
    | 1 => simp
    | k + 2 => simp
theorem load_len (w : Rc) (p : Pod) (n : Int) (wo : List Int) : (loadV w p n wo).length = 2 := by
  unfold loadV
  split <;> rfl
theorem load_inR (h : RC c w) (p : Pod) (n : Int) (wo : List Int) : InR (loadV w p n wo) := fun k => by
  have := load_bd h p n wo k
  unfold I64; omega
theorem RC.ld (h : RC c w) (p : Pod) (n : Int) (wo : List Int) (hwo : wo.length ≤ 4611686018427387904) : LdOk c p n wo (loadV w p n wo) := by
  have hd := h.d1
  have hgs : ∀ q ∈ seenP w.pods p n, GoodV q.2 := fun q hq => h.gp q (List.mem_filter.1 hq).1
  have hgh : ∀ q ∈ heldP w.pods n wo, GoodV q.2 := fun q hq => h.gp q (List.mem_filter.1 (List.mem_filter.1 hq).1).1
  have a := seen_bd h p n
  have b := held_bd h n wo
  have hsum : addS (zrow c.d :: reqs (seenL c p n)) = some (two (seenP w.pods p n)) := by
    rw [hd, zrow_two, h.seen]
    rw [addS_rows (d := 2) (by simp) (fun v hv => by
      rcases List.mem_cons.1 hv with rfl | hv
      · rfl
      · obtain ⟨q, hq, rfl⟩ := List.mem_map.1 hv
        exact (hgs q hq).1) (fun k hk => by
      rw [colV_cons, reqV_col]
      have e : ([0, 0] : List Int).getD k 0 = 0 := colV_zero 2 k
      have := a k
      unfold seenP at this
      rw [e]; unfold I64; omega)]
    show some [colV _ 0, colV _ 1] = _
    rw [colV_cons, colV_cons, reqV_col, reqV_col]
    show some [0 + reqV (seenP w.pods p n) 0, 0 + reqV (seenP w.pods p n) 1] = _
    rw [Int.zero_add, Int.zero_add]
    rfl
  have hnode : (lget c.N n).isSome = (findN w.nodes n).isSome := by rw [h.getN]; cases findN w.nodes n <;> rfl
  refine ⟨h.ok, h.len65, hwo, ⟨two (seenP w.pods p n), hsum, by unfold Sz two; simp, inR_of fun x hx => ?_, ?_⟩, by unfold Sz; rw [load_len]; omega, load_inR h p n wo, fun hn q hq => ?_⟩
  · have a0 := a 0
    have a1 := a 1
    unfold two at hx
    simp only [List.mem_cons, List.not_mem_nil, or_false] at hx
    rcases hx with rfl | rfl <;> unfold I64 <;> omega
  · unfold loadR loadV
    rw [hnode]
    cases (findN w.nodes n).isSome with
    | false =>
      simp only [Bool.false_eq_true, if_false]
      rw [hd, zrow_two, addS_rows (d := 2) (by simp) (fun v hv => by rw [List.mem_singleton.1 hv]; rfl) (fun k hk => by
        rw [colV_cons, colV_nil, show ([0, 0] : List Int).getD k 0 = 0 from colV_zero 2 k]; unfold I64; omega)]
      rfl
    | true =>
      simp only [if_true]
      have hh : heldL c n wo = heldP w.pods n wo := by unfold heldL heldP; rw [h.listed]
      rw [hh, hd, zrow_two, addS_rows (d := 2) (by simp) (fun v hv => by
        rcases List.mem_cons.1 hv with rfl | hv
        · rfl
        · rcases List.mem_cons.1 hv with rfl | hv
          · rfl
          · obtain ⟨q, hq, rfl⟩ := List.mem_map.1 hv
            exact (hgh q hq).1) (fun k hk => by
        rw [colV_cons, colV_cons, reqV_col, show ([0, 0] : List Int).getD k 0 = 0 from colV_zero 2 k]
        have hk2 : k = 0 ∨ k = 1 := by omega
        have a0 := a 0
        have a1 := a 1
        have b0 := b 0
        have b1 := b 1
        rcases hk2 with rfl | rfl
        · show I64 (0 + (reqV _ 0 + _)); unfold I64; omega
        · show I64 (0 + (reqV _ 1 + _)); unfold I64; omega)]
      show some [colV _ 0, colV _ 1] = _
      rw [colV_cons, colV_cons, reqV_col, colV_cons, colV_cons, reqV_col]
      show some [0 + (reqV (seenP w.pods p n) 0 + _), 0 + (reqV (seenP w.pods p n) 1 + _)] = _
      rw [Int.zero_add, Int.zero_add]
  · rw [h.listed] at hq
    obtain ⟨hq, ho⟩ := List.mem_filter.1 hq
    have ho := onP_iff.1 ho
    cases ht : takes wo q with
    | false => rfl
    | true =>
      have hh := takes_yes ht
      have hh1 : holdsP q.1.ph := of_decide_eq_true hh.1
      have hm := h.at_ q hq hh1
      rw [ho.1] at hm
      obtain ⟨m, hm1, hm2⟩ := List.mem_map.1 hm
      have : (lget c.N n).isSome = true := by
        rw [hnode]
        unfold findN
        rw [List.find?_isSome]
        exact ⟨m, hm1, by simpa using hm2⟩
      rw [hn] at this
      cases this
theorem RC.tot (h : RC c w) (p : Pod) (n : Int) (wo : List Int) : totS c p n (loadV w p n wo) = match findN w.nodes n with
    | none => none
    | some m => if 0 ≤ wrongS p.2 2 then none else some (some (List.zipWith (· + ·) (loadV w p n wo) p.2), m.2) := by
  unfold totS
  rw [h.getN, h.d1]
  cases hf : findN w.nodes n with
  | none => rfl
  | some m =>
    dsimp only [Option.map_some]
    by_cases hw : 0 ≤ wrongS p.2 2
    · rw [if_pos hw, if_pos hw]
    · rw [if_neg hw, if_neg hw]
      have hg := goodV_of hw
      rw [addS_two (by rw [load_len, hg.1]) (fun k hk => by
        have a := load_bd h p n wo k
        have b := hg.at k
        unfold I64; omega)]
end
end Go.Proofs.YtcmhdpbmcgglmaaGreatDoor
end
section
set_option autoImplicit false
set_option linter.unusedVariables false
set_option linter.unusedSimpArgs false
namespace Go.Proofs.YtcmhdpbmcgglmaaGreatDoor
open Go.Abs
end Go.Proofs.YtcmhdpbmcgglmaaGreatDoor
end
section
set_option autoImplicit false
set_option linter.unusedVariables false
set_option linter.unusedSimpArgs false
namespace Go.Proofs.YtcmhdpbmcgglmaaGreatDoor
open Go.Abs
end Go.Proofs.YtcmhdpbmcgglmaaGreatDoor
end
section
set_option autoImplicit false
set_option linter.unusedVariables false
set_option linter.unusedSimpArgs false
namespace Go.Proofs.YtcmhdpbmcgglmaaGreatDoor
open Go.Abs
end Go.Proofs.YtcmhdpbmcgglmaaGreatDoor
end
section
set_option autoImplicit false
set_option linter.unusedVariables false
set_option linter.unusedSimpArgs false
namespace Go.Proofs.YtcmhdpbmcgglmaaGreatDoor
open Go.Abs
theorem fewP_one (p : Pod) : FewP [p] ↔ okP p := by
  constructor
  · intro h; exact h.1 0 (by simp)
  · intro h
    refine ⟨fun j hj => ?_, by simp⟩
    obtain rfl : j = 0 := by simpa using hj
    exact h
end Go.Proofs.YtcmhdpbmcgglmaaGreatDoor
end
section
set_option autoImplicit false
set_option linter.unusedVariables false
set_option linter.unusedSimpArgs false
namespace Go.Proofs.YtcmhdpbmcgglmaaGreatDoor
open Go.Abs
end Go.Proofs.YtcmhdpbmcgglmaaGreatDoor
end
section
set_option autoImplicit false
set_option linter.unusedVariables false
set_option linter.unusedSimpArgs false
namespace Go.Proofs.YtcmhdpbmcgglmaaGreatDoor
open Go.Abs
end Go.Proofs.YtcmhdpbmcgglmaaGreatDoor
end
section
set_option autoImplicit false
set_option linter.unusedVariables false
set_option linter.unusedSimpArgs false
namespace Go.Proofs.YtcmhdpbmcgglmaaGreatDoor
open Go.Abs
def hfv (v : List Int) (m : Nat) : List Int := [if 0 < m then v.getD 0 0 / 2 else v.getD 0 0, if 1 < m then v.getD 1 0 / 2 else v.getD 1 0]
def Hh (c : Cl) (w : Rc) (p : Pod) (m : Nat) : List AObj := [PV p, .map (entE fP c.L), .var [.d (.int .i64 65536), .mapo 1], .var [.pvar 2 0, .sfull 4], .arr 3 1 (ints c.ids),
  .map (entE fE c.N), .var [.d (.int .i64 1024), .mapo 5], .var [.d (.int .i64 c.d), .pvar 6 0], .var [.pvar 3 0, .pvar 7 0],
  .var [.d (.int .i64 w.d), .d (.slice 2 (nds w.nodes)), .d (.slice 9 (pods w.pods))],
  .var [.d (.int .i64 p.1.id), .d (.int .i64 p.1.pr), .d (.bool p.1.pre), .d (.int .i64 p.1.gr), .sfull 11, .d (.int .i64 p.1.ar), .d (.int .i64 p.1.ph), .d (.int .i64 p.1.nd), .d (.int .i64 p.1.dl)],
  .arr 2 1 (ints (hfv p.2 m))]
end Go.Proofs.YtcmhdpbmcgglmaaGreatDoor
end
