/-
  VictimsSubsets, walked.
-/
import Derived.Test.YtmeicgbddgeeoaaGreatDoorV3
section
set_option autoImplicit false
set_option linter.unusedVariables false
set_option linter.unusedSimpArgs false
namespace Go.Proofs.YtmeicgbddgeeoaaGreatDoor
open Go.Abs
attribute [push_cast] Tryz.results6
def Hv (c : Cl) (w : Rc) (p : Pod) : List AObj := [PV p, .map (entE fP c.L), .var [.d (.int .i64 65536), .mapo 1], .var [.pvar 2 0, .sfull 4], .arr 3 1 (ints c.ids),
 .map (entE fE c.N), .var [.d (.int .i64 1024), .mapo 5], .var [.d (.int .i64 c.d), .pvar 6 0], .var [.pvar 3 0, .pvar 7 0], .var [.d (.int .i64 w.d), .d (.slice 2 (nds w.nodes)), .d (.slice 9 (pods w.pods))]]
def pickB (b : Nat → Bool) (V : List Pod) (k : Nat) : List Int := ((List.range k).filter b).map fun j => (V.getD j pz).1.id
theorem pickB_snoc (b : Nat → Bool) (V : List Pod) (k : Nat) : pickB b V (k + 1) = pickB b V k ++ if b k = true then [(V.getD k pz).1.id] else [] := by
 unfold pickB
 rw [List.range_succ, List.filter_append, List.map_append]
 cases h : b k with
 | true => simp only [List.filter_cons, h, if_true, List.filter_nil, List.map_cons, List.map_nil]
 | false => simp only [List.filter_cons, h, Bool.false_eq_true, if_false, List.filter_nil, List.map_nil]
theorem pickB_len (b : Nat → Bool) (V : List Pod) (k : Nat) : (pickB b V k).length ≤ k := by
 unfold pickB
 rw [List.length_map]
 exact Nat.le_trans (List.length_filter_le _ _) (by simp)
theorem pickB_part {b : Nat → Bool} {V : List Pod} (h : (pickB b V V.length).length ≠ V.length) : ∃ j, j < V.length ∧ ∀ x ∈ pickB b V V.length, x ∈ (idl V).eraseIdx j := by
 have hj : ∃ j, j < V.length ∧ b j = false := by
  refine Classical.byContradiction fun hn => h ?_
  have : (List.range V.length).filter b = List.range V.length := List.filter_eq_self.2 fun j hj => by
   cases hb : b j with
   | true => rfl
   | false => exact (hn ⟨j, List.mem_range.1 hj, hb⟩).elim
  unfold pickB
  rw [this]
  simp
 obtain ⟨j, hj1, hj2⟩ := hj
 refine ⟨j, hj1, fun x hx => ?_⟩
 unfold pickB at hx
 obtain ⟨i, hi, rfl⟩ := List.mem_map.1 hx
 obtain ⟨hi1, hi2⟩ := List.mem_filter.1 hi
 have hi1 := List.mem_range.1 hi1
 refine List.mem_eraseIdx_iff_getElem.2 ⟨i, by rw [idl_length]; exact hi1, fun e => ?_, ?_⟩
 ·subst e; rw [hj2] at hi2; cases hi2
 ·unfold idl
  rw [List.getElem_map, List.getD_eq_getElem?_getD, List.getElem?_eq_getElem hi1]
  rfl
def bitB (mask : Int) (i : Nat) : Bool := ibits .and .u16 (mask.fdiv (2 ^ (min ((i : Int).tmod 16).toNat 16))) 1 == 1
set_option maxRecDepth 8000 in
set_option maxHeartbeats 1000000 in
theorem victimsSubsets_ok (nodes : List (Int × List Int)) (ps : List Plc) (p : Pod) (n : Int) (mask : Int) : PCall env 6 [.slice 2 (nds nodes), .slice 11 (plcs ps), fP p, .int .i64 n, .int .u16 mask] (.bool true) := by
 refine acalls_of envOk Tryz.func6 rfl (by kernel_rfl) (m := 82) rfl ?_
 simp only [push_cast, simprocAttr, fP, pL]
 refine (build_okP nodes ps).atK [] (by simp [PV, Tb, Ps, Psn, Ns, Cs, Csn, fP, pL, fE, errD, errF, pgetD, nodeD, sl, pods_length, nds_length, plcs_length, sbl, ren_none, ren_var, ren_arr, ren_map, ren_mapb, ren_iter, ren_loop, ren_defr, bel_none, bel_var, bel_arr, bel_map, bel_mapb, bel_iter, bel_loop, bel_defr, AV.renL, AV.ren, AV.belL, AV.bel, rn]) (by simp) (by simp [PV, Tb, Ps, Psn, Ns, Cs, Csn, fP, pL, fE, errD, errF, pgetD, nodeD, sl, pods_length, nds_length, plcs_length]) (by simp [PV, Tb, Ps, Psn, Ns, Cs, Csn, fP, pL, fE, errD, errF, pgetD, nodeD, sl, pods_length, nds_length, plcs_length, AV.ren, AV.renL, rn]) (by simp [AV.belL, AV.bel]) ?_
 rintro r H' (⟨x, y, z, rfl, rfl⟩ | ⟨c, w, rfl, rfl, h, hnl, hpl, hpr⟩)
 ·refine WK.now ?_
  simp only [push_cast, simprocAttr, fP, pL]
  refine awake18_ok.go ⟨⟩ (WK.now ?_)
  simp only [push_cast, simprocAttr, fP, pL]
  refine awake18_ok.go ⟨⟩ (WK.now ?_)
  simp only [push_cast, simprocAttr, fP, pL]
  refine WK.now ?_
  simp only [push_cast, simprocAttr, fP, pL]
 ·refine WK.now ?_
  simp only [Cs, fRc, push_cast, simprocAttr, fP, pL]
  refine awake18_ok.go ⟨⟩ (WK.now ?_)
  simp only [one_pod, push_cast, simprocAttr, fP, pL]
  refine (few_ok [p] (by simp)).go (by first | exact ⟨.inl rfl, trivial⟩ | exact ⟨.inl rfl, .inl rfl, trivial⟩ | exact ⟨.inl rfl, .inl rfl, .inl rfl, trivial⟩ | simp [argsOk, argOk, sl, sll]) (WK.now ?_)
  cases hf : B (FewP [p]) with
  | false =>
   simp only [push_cast, simprocAttr, fP, pL]
   refine awake18_ok.go ⟨⟩ (WK.now ?_)
   simp only [push_cast, simprocAttr, fP, pL]
   refine WK.now ?_
   simp only [push_cast, simprocAttr, fP, pL]
  | true =>
   have hp := (fewP_one p).1 (B_iff.1 hf)
   have hv := h.vic hp n
   have hr := h.ref hpl hpr hp n
   have hof := vof_ok hv
   have hol := hv.olen
   have hmono := h.monoL p n
   have hvl := vicV_len (fitW w p n) (w.pods.filter (onP n)) p
   unfold vicD at hof
   simp only [push_cast, simprocAttr, fP, pL]
   cases hF : fitW w p n (idl (lowV (w.pods.filter (onP n)) p)) with
   | false =>
    rw [hF] at hof
    refine hof.at [1, 2, 3, 4, 5, 6, 7, 8] (by simp [PV, Tb, Ps, Psn, Ns, Cs, Csn, fP, pL, fE, errD, errF, pgetD, nodeD, sl, pods_length, nds_length, plcs_length, sbl, ren_none, ren_var, ren_arr, ren_map, ren_mapb, ren_iter, ren_loop, ren_defr, bel_none, bel_var, bel_arr, bel_map, bel_mapb, bel_iter, bel_loop, bel_defr, AV.renL, AV.ren, AV.belL, AV.bel, rn]) (by simp) (by simp [PV, Tb, Ps, Psn, Ns, Cs, Csn, fP, pL, fE, errD, errF, pgetD, nodeD, sl, pods_length, nds_length, plcs_length]) (by simp [PV, Tb, Ps, Psn, Ns, Cs, Csn, fP, pL, fE, errD, errF, pgetD, nodeD, sl, pods_length, nds_length, plcs_length, AV.ren, AV.renL, rn]) (by simp [AV.belL, AV.bel]) (WK.now ?_)
    simp only [Cs, push_cast, simprocAttr, fP, pL]
    refine WK.now ?_
    simp only [push_cast, simprocAttr, fP, pL]
   | true =>
    rw [hF, if_pos rfl] at hof
    have hmin : ∀ i, i < (vicV (fitW w p n) (w.pods.filter (onP n)) p).length → _ := fun i hi => vicV_min hmono (w.pods.filter (onP n)) p hi
    refine hof.at [1, 2, 3, 4, 5, 6, 7, 8] (by simp [PV, Tb, Ps, Psn, Ns, Cs, Csn, fP, pL, fE, errD, errF, pgetD, nodeD, sl, pods_length, nds_length, plcs_length, sbl, ren_none, ren_var, ren_arr, ren_map, ren_mapb, ren_iter, ren_loop, ren_defr, bel_none, bel_var, bel_arr, bel_map, bel_mapb, bel_iter, bel_loop, bel_defr, AV.renL, AV.ren, AV.belL, AV.bel, rn]) (by simp) (by simp [PV, Tb, Ps, Psn, Ns, Cs, Csn, fP, pL, fE, errD, errF, pgetD, nodeD, sl, pods_length, nds_length, plcs_length]) (by simp [PV, Tb, Ps, Psn, Ns, Cs, Csn, fP, pL, fE, errD, errF, pgetD, nodeD, sl, pods_length, nds_length, plcs_length, AV.ren, AV.renL, rn]) (by simp [AV.belL, AV.bel]) (WK.now ?_)
    generalize vicV (fitW w p n) (w.pods.filter (onP n)) p = V at *
    have hpl := pickB_len (bitB mask) V V.length
    have hfr := hr.fit (pickB (bitB mask) V V.length) (by omega)
    have hfv := hv.fit (pickB (bitB mask) V V.length) (by omega)
    unfold fRc at hfr
    simp only [Cs, push_cast, simprocAttr, fP, pL]
    have go : ∀ i, i ≤ V.length → WK env 0 (fun t H ds => ∃ (j : Nat) (X : AV), V.length - i = V.length - j ∧ j ≤ V.length ∧ (j < V.length ∧ X = .sfull 10 ∧ H = Hv c w p ++ [.arr 3 1 (ints (pickB (bitB mask) V j))] ∨ j = V.length ∧ X = .d (.slice 1 (ints (pickB (bitB mask) V V.length))) ∧ H = Hv c w p) ∧ t = (.x :: .x :: .x :: .d (.int .i64 n) :: .d (.int .u16 mask) :: .x :: .x :: .pvar 0 0 :: .x :: .x :: .d (.bool false) :: .pvar 8 0 :: .pvar 9 0 :: .d (.slice 9 (pods V)) :: .x :: X :: .d (.int .i64 (j : Nat)) :: xs70) ∧ ds = []) (.x :: .x :: .x :: .d (.int .i64 n) :: .d (.int .u16 mask) :: .x :: .x :: .pvar 0 0 :: .x :: .x :: .d (.bool false) :: .pvar 8 0 :: .pvar 9 0 :: .d (.slice 9 (pods V)) :: .x :: (.sfull 10) :: .d (.int .i64 (i : Nat)) :: xs70) (Hv c w p ++ [.arr 3 1 (ints (pickB (bitB mask) V i))]) [] := fun i hi => by
     by_cases hl : i = V.length
     ·subst hl
      refine WK.frz 10 rfl (WK.pick [0, 1, 2, 3, 4, 5, 6, 7, 8, 9] (t' := (.x :: .x :: .x :: .d (.int .i64 n) :: .d (.int .u16 mask) :: .x :: .x :: .pvar 0 0 :: .x :: .x :: .d (.bool false) :: .pvar 8 0 :: .pvar 9 0 :: .d (.slice 9 (pods V)) :: .x :: (.d (.slice 1 (ints (pickB (bitB mask) V V.length)))) :: .d (.int .i64 (V.length : Nat)) :: xs70)) (H' := Hv c w p)
       (by simp [Hv, PV, pL, AObj.frz, AV.frzL, AV.frz, ints, sbl, ren_none, ren_var, ren_arr, ren_map, bel_none, bel_var, bel_arr, bel_map, AV.renL, AV.ren, AV.belL, AV.bel, rn]) (by simp) (by simp [Hv]) (by simp [AV.frzL, AV.frz, tellL, AV.ren, AV.renL, AV.bel, AV.belL, rn]) (by simp) (WK.now ⟨V.length, _, rfl, Nat.le_refl _, .inr ⟨rfl, rfl, rfl⟩, rfl, rfl⟩))
     ·exact WK.now ⟨i, _, rfl, hi, .inl ⟨by omega, rfl, rfl⟩, rfl, rfl⟩
    refine ALoop.mk (fun k => fun t H ds => ∃ (i : Nat) (X : AV), k = V.length - i ∧ i ≤ V.length ∧ (i < V.length ∧ X = .sfull 10 ∧ H = Hv c w p ++ [.arr 3 1 (ints (pickB (bitB mask) V i))] ∨ i = V.length ∧ X = .d (.slice 1 (ints (pickB (bitB mask) V V.length))) ∧ H = Hv c w p) ∧ t = (.x :: .x :: .x :: .d (.int .i64 n) :: .d (.int .u16 mask) :: .x :: .x :: .pvar 0 0 :: .x :: .x :: .d (.bool false) :: .pvar 8 0 :: .pvar 9 0 :: .d (.slice 9 (pods V)) :: .x :: X :: .d (.int .i64 (i : Nat)) :: xs70) ∧ ds = []) V.length
     (WK.nil 15 3 1 rfl (WK.fgt (t' := (.x :: .x :: .x :: .d (.int .i64 n) :: .d (.int .u16 mask) :: .x :: .x :: .pvar 0 0 :: .x :: .x :: .d (.bool false) :: .pvar 8 0 :: .pvar 9 0 :: .d (.slice 9 (pods V)) :: .x :: (.sfull 10) :: .d (.int .i64 (0 : Nat)) :: xs70)) (by simp [fgt]) (by
      have := go 0 (by omega)
      simpa [Hv, PV, pL, pickB, ints] using this))) ?_
    rintro k t H ds ⟨i, X, rfl, hi, hX, rfl, rfl⟩
    rcases hX with ⟨c2, rfl, rfl⟩ | ⟨rfl, rfl, rfl⟩
    ·have e2 : decide (i < V.length) = true := decide_eq_true c2
     simp only [Hv, PV, List.cons_append, List.nil_append, e2, push_cast, simprocAttr, pods_length, nds_length, fP, pL]
     have si := succ64 c2 (show V.length ≤ 4611686018427387904 by omega)
     have hsn := pickB_snoc (bitB mask) V i
     have hil := pickB_len (bitB mask) V i
     have wu : IntKind.wrap .u64 (i : Int) = (i : Int) := by
      unfold IntKind.wrap
      simp [IntKind.bits, IntKind.signed]
      omega
     simp only [wu, si, push_cast, simprocAttr, fP, pL]
     refine ⟨Int.tmod_nonneg _ (by omega), ?_⟩
     refine Kbr.mk (fun hb => ?_) (fun hb => ?_)
     ·have hb : bitB mask i = true := hb
      rw [hb, if_pos rfl] at hsn
      simp only [c2, cel_id, si, push_cast, simprocAttr, fP, pL]
      refine ⟨room_of (by simp [ints_length]; omega) (by omega), ?_⟩
      have hg := go (i + 1) c2
      rw [hsn] at hg
      simp only [Hv, PV, List.cons_append, List.nil_append, push_cast, simprocAttr, pods_length, nds_length, fP, pL] at hg
      exact ⟨V.length - (i + 1), by omega, WK.fgt (t' := (.x :: .x :: .x :: .d (.int .i64 n) :: .d (.int .u16 mask) :: .x :: .x :: .pvar 0 0 :: .x :: .x :: .d (.bool false) :: .pvar 8 0 :: .pvar 9 0 :: .d (.slice 9 (pods V)) :: .x :: (.sfull 11) :: .d (.int .i64 (i + 1 : Nat)) :: xs70)) (by simp [fgt]) (WK.pick [0, 1, 2, 3, 4, 5, 6, 7, 8, 9, 11]
       (by simp [Hv, PV, pL, ints, sbl, ren_none, ren_var, ren_arr, ren_map, bel_none, bel_var, bel_arr, bel_map, AV.renL, AV.ren, AV.belL, AV.bel, rn]) (by simp) (by simp [Hv]) (by simp [tellL, AV.ren, AV.renL, AV.bel, AV.belL, rn]) (by simp) hg)⟩
     ·have hb : bitB mask i = false := hb
      rw [hb, if_neg (by simp), List.append_nil] at hsn
      simp only [si, push_cast, simprocAttr, fP, pL]
      have hg := go (i + 1) c2
      rw [hsn] at hg
      simp only [Hv, PV, List.cons_append, List.nil_append, push_cast, simprocAttr, pods_length, nds_length, fP, pL] at hg
      exact ⟨V.length - (i + 1), by omega, WK.fgt (t' := (.x :: .x :: .x :: .d (.int .i64 n) :: .d (.int .u16 mask) :: .x :: .x :: .pvar 0 0 :: .x :: .x :: .d (.bool false) :: .pvar 8 0 :: .pvar 9 0 :: .d (.slice 9 (pods V)) :: .x :: (.sfull 10) :: .d (.int .i64 (i + 1 : Nat)) :: xs70)) (by simp [fgt]) hg⟩
    ·have e2 : decide (V.length < V.length) = false := decide_eq_false (by omega)
     simp only [Hv, PV, List.cons_append, List.nil_append, e2, push_cast, simprocAttr, pods_length, nds_length, fP, pL]
     by_cases he : (pickB (bitB mask) V V.length).length = V.length
     ·have e0 : (((pickB (bitB mask) V V.length).length : Int) == (V.length : Int)) = true := by rw [he]; exact beq_self_eq_true _
      simp only [ints_length, e0, push_cast, simprocAttr, fP, pL]
      refine WK.now ?_
      simp only [push_cast, simprocAttr, fP, pL]
     ·have e0 : (((pickB (bitB mask) V V.length).length : Int) == (V.length : Int)) = false := beq_eq_false_iff_ne.2 (by omega)
      have hF0 : fitW w p n (pickB (bitB mask) V V.length) = false := by
       obtain ⟨j, hj1, hj2⟩ := pickB_part he
       cases hx : fitW w p n (pickB (bitB mask) V V.length) with
       | false => rfl
       | true =>
        have := h.mono p n hj2 hx
        rw [hmin j hj1] at this
        cases this
      rw [hF0] at hfr hfv
      simp only [ints_length, e0, push_cast, simprocAttr, fP, pL]
      refine hfr.go (by simp [argsOk, argOk, fP, pL]) (WK.now ?_)
      simp only [push_cast, simprocAttr, fP, pL]
      refine hfv.at [1, 2, 3, 4, 5, 6, 7, 8] (by simp [PV, Tb, Ps, Psn, Ns, Cs, Csn, fP, pL, fE, errD, errF, pgetD, nodeD, sl, pods_length, nds_length, plcs_length, sbl, ren_none, ren_var, ren_arr, ren_map, ren_mapb, ren_iter, ren_loop, ren_defr, bel_none, bel_var, bel_arr, bel_map, bel_mapb, bel_iter, bel_loop, bel_defr, AV.renL, AV.ren, AV.belL, AV.bel, rn]) (by simp) (by simp [PV, Tb, Ps, Psn, Ns, Cs, Csn, fP, pL, fE, errD, errF, pgetD, nodeD, sl, pods_length, nds_length, plcs_length]) (by simp [PV, Tb, Ps, Psn, Ns, Cs, Csn, fP, pL, fE, errD, errF, pgetD, nodeD, sl, pods_length, nds_length, plcs_length, AV.ren, AV.renL, rn]) (by simp [AV.belL, AV.bel]) (WK.now ?_)
      simp only [Cs, push_cast, simprocAttr, fP, pL]
      refine WK.now ?_
      simp only [push_cast, simprocAttr, fP, pL]
end Go.Proofs.YtmeicgbddgeeoaaGreatDoor
end
