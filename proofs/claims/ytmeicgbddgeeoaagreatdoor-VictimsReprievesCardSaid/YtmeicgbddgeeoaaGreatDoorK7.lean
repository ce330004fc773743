/-
  VictimsReprieves, walked.
-/
import Derived.Test.YtmeicgbddgeeoaaGreatDoorV3
section
set_option autoImplicit false
set_option linter.unusedVariables false
set_option linter.unusedSimpArgs false
namespace Go.Proofs.YtmeicgbddgeeoaaGreatDoor
open Go.Abs
attribute [push_cast] Tryz.results7
def Hv (c : Cl) (w : Rc) (p : Pod) : List AObj := [PV p, .map (entE fP c.L), .var [.d (.int .i64 65536), .mapo 1], .var [.pvar 2 0, .sfull 4], .arr 3 1 (ints c.ids),
 .map (entE fE c.N), .var [.d (.int .i64 1024), .mapo 5], .var [.d (.int .i64 c.d), .pvar 6 0], .var [.pvar 3 0, .pvar 7 0], .var [.d (.int .i64 w.d), .d (.slice 2 (nds w.nodes)), .d (.slice 9 (pods w.pods))]]
def inB (L : List Pod) (ids : List Int) (j : Nat) : Bool := decide ((L.getD j pz).1.id ∈ ids)
def outB (L : List Pod) (ids : List Int) (i j : Nat) : Bool := decide (i < j) || (decide (j < i) && inB L ids j)
def outI (L : List Pod) (ids : List Int) (i k : Nat) : List Int := ((List.range k).filter (outB L ids i)).map fun j => (L.getD j pz).1.id
theorem outI_snoc (L : List Pod) (ids : List Int) (i k : Nat) : outI L ids i (k + 1) = outI L ids i k ++ if outB L ids i k = true then [(L.getD k pz).1.id] else [] := by
 unfold outI
 rw [List.range_succ, List.filter_append, List.map_append]
 cases h : outB L ids i k with
 | true => simp only [List.filter_cons, h, if_true, List.filter_nil, List.map_cons, List.map_nil]
 | false => simp only [List.filter_cons, h, Bool.false_eq_true, if_false, List.filter_nil, List.map_nil]
theorem outI_len (L : List Pod) (ids : List Int) (i k : Nat) : (outI L ids i k).length ≤ k := by
 unfold outI
 rw [List.length_map]
 exact Nat.le_trans (List.length_filter_le _ _) (by simp)
theorem outI_mem {L : List Pod} {ids : List Int} {i k : Nat} {x : Int} : x ∈ outI L ids i k ↔ ∃ j, j < k ∧ outB L ids i j = true ∧ (L.getD j pz).1.id = x := by
 unfold outI
 rw [List.mem_map]
 constructor
 ·rintro ⟨j, hj, rfl⟩
  obtain ⟨h1, h2⟩ := List.mem_filter.1 hj
  exact ⟨j, List.mem_range.1 h1, h2, rfl⟩
 ·rintro ⟨j, h1, h2, rfl⟩
  exact ⟨j, List.mem_filter.2 ⟨List.mem_range.2 h1, h2⟩, rfl⟩
theorem getD_at {L : List Pod} {j : Nat} (h : j < L.length) : L.getD j pz = L[j] := by
 rw [List.getD_eq_getElem?_getD, List.getElem?_eq_getElem h]
 rfl
theorem rep_ok {c : Cl} {w : Rc} (h : RC c w) (p : Pod) (n : Int) (O : List Pod) (hn : ((lowV O p).map pid).Nodup) {i : Nat} (hi : i < (lowV O p).length) :
  fitW w p n (outI (lowV O p) (idl (vicV (fitW w p n) O p)) i (lowV O p).length) = !inB (lowV O p) (idl (vicV (fitW w p n) O p)) i := by
 have hLV : ∀ q ∈ vicV (fitW w p n) O p, q ∈ lowV O p := fun q hq => (vicV_sub _ O p).subset hq
 have hV : vicV (fitW w p n) O p = vic (fitL (fitW w p n)) [] (lowV O p) := rfl
 generalize hVe : vicV (fitW w p n) O p = V at *
 generalize lowV O p = L at *
 have hmem : ∀ q ∈ L, (q.1.id ∈ idl V ↔ q ∈ V) := fun q hq => ⟨fun hx => by
  obtain ⟨v, hv, e⟩ := idl_mem.1 hx
  rw [← inj_pid hn (hLV v hv) hq e]; exact hv, fun hq => idl_mem.2 ⟨q, hq, rfl⟩⟩
 have hL : L.take i ++ L.getD i pz :: L.drop (i + 1) = L := by rw [← drop_cons hi, List.take_append_drop]
 have hnd : L.Nodup := (List.pairwise_map.1 hn).imp fun h e => h (congrArg pid e)
 haveI : DecidableEq Pod := Classical.typeDecidableEq Pod
 have hr := vic_rep (fit := fitL (fitW w p n)) (l1 := L.take i) (q := L.getD i pz) (l2 := L.drop (i + 1)) (by rw [hL]; exact hnd)
 rw [hL, ← hV] at hr
 have key : fitW w p n (outI L (idl V) i L.length) = fitL (fitW w p n) ((L.take i).filter (fun x => decide (x ∈ V)) ++ L.drop (i + 1)) := by
  have a : ∀ x, x ∈ outI L (idl V) i L.length ↔ x ∈ idl ((L.take i).filter (fun x => decide (x ∈ V)) ++ L.drop (i + 1)) := fun x => by
   rw [outI_mem, idl_mem]
   constructor
   ·rintro ⟨j, h1, h2, rfl⟩
    refine ⟨L.getD j pz, ?_, rfl⟩
    unfold outB inB at h2
    rw [Bool.or_eq_true, Bool.and_eq_true, decide_eq_true_eq, decide_eq_true_eq, decide_eq_true_eq] at h2
    rw [List.mem_append]
    rcases h2 with h2 | ⟨h2, h3⟩
    ·refine .inr (List.mem_drop_iff_getElem.2 ⟨j - (i + 1), by omega, ?_⟩)
     rw [getD_at h1]
     congr 1
     omega
    ·refine .inl (List.mem_filter.2 ⟨List.mem_take_iff_getElem.2 ⟨j, by omega, (getD_at h1).symm⟩, ?_⟩)
     exact decide_eq_true ((hmem _ (getD_mem h1)).1 h3)
   ·rintro ⟨q, hq, rfl⟩
    rw [List.mem_append] at hq
    rcases hq with hq | hq
    ·obtain ⟨hq1, hq2⟩ := List.mem_filter.1 hq
     obtain ⟨j, hj, rfl⟩ := List.mem_take_iff_getElem.1 hq1
     have hj1 : j < L.length := by omega
     refine ⟨j, hj1, ?_, by rw [getD_at hj1]⟩
     unfold outB inB
     rw [Bool.or_eq_true, Bool.and_eq_true, decide_eq_true_eq, decide_eq_true_eq, decide_eq_true_eq]
     exact .inr ⟨by omega, (hmem _ (getD_mem hj1)).2 (by rw [getD_at hj1]; exact of_decide_eq_true hq2)⟩
    ·obtain ⟨j, hj, rfl⟩ := List.mem_drop_iff_getElem.1 hq
     have hj1 : i + 1 + j < L.length := by omega
     refine ⟨i + 1 + j, hj1, ?_, by rw [getD_at hj1]⟩
     unfold outB
     rw [Bool.or_eq_true, decide_eq_true_eq]
     exact .inl (by omega)
  unfold fitL
  cases h1 : fitW w p n (outI L (idl V) i L.length) with
  | true => exact (h.mono p n (fun x hx => (a x).1 hx) h1).symm
  | false =>
   cases h2 : fitW w p n (idl ((L.take i).filter (fun x => decide (x ∈ V)) ++ L.drop (i + 1))) with
   | false => rfl
   | true =>
    rw [h.mono p n (fun x hx => (a x).2 hx) h2] at h1
    cases h1
 rw [key]
 unfold inB
 by_cases hq : L.getD i pz ∈ V
 ·rw [hr.1 hq, decide_eq_true ((hmem _ (getD_mem hi)).2 hq)]; rfl
 ·rw [decide_eq_false (fun hx => hq ((hmem _ (getD_mem hi)).1 hx))]
  cases hx : fitL (fitW w p n) ((L.take i).filter (fun x => decide (x ∈ V)) ++ L.drop (i + 1)) with
  | true => rfl
  | false => exact absurd (hr.2 hx) hq
set_option maxRecDepth 8000 in
set_option maxHeartbeats 1000000 in
theorem victimsReprieves_ok (nodes : List (Int × List Int)) (ps : List Plc) (p : Pod) (n : Int) : PCall env 7 [.slice 2 (nds nodes), .slice 11 (plcs ps), fP p, .int .i64 n] (.bool true) := by
 refine acalls_of envOk Tryz.func7 rfl (by kernel_rfl) (m := 98) rfl ?_
 simp only [push_cast, simprocAttr, fP, pL]
 refine (build_okP nodes ps).atK [] (by simp [PV, Tb, Ps, Psn, Ns, Cs, Csn, fP, pL, fE, errD, errF, pgetD, nodeD, sl, pods_length, nds_length, plcs_length, sbl, ren_none, ren_var, ren_arr, ren_map, ren_mapb, ren_iter, ren_loop, ren_defr, bel_none, bel_var, bel_arr, bel_map, bel_mapb, bel_iter, bel_loop, bel_defr, AV.renL, AV.ren, AV.belL, AV.bel, rn]) (by simp) (by simp [PV, Tb, Ps, Psn, Ns, Cs, Csn, fP, pL, fE, errD, errF, pgetD, nodeD, sl, pods_length, nds_length, plcs_length]) (by simp [PV, Tb, Ps, Psn, Ns, Cs, Csn, fP, pL, fE, errD, errF, pgetD, nodeD, sl, pods_length, nds_length, plcs_length, AV.ren, AV.renL, rn]) (by simp [AV.belL, AV.bel]) ?_
 rintro r H' (⟨x, y, z, rfl, rfl⟩ | ⟨c, w, rfl, rfl, h, hnl, hpl, hpr⟩)
 ·refine WK.now ?_
  simp only [push_cast, simprocAttr, fP, pL]
  refine awake18_ok.go ⟨⟩ (WK.now ?_)
  simp only [push_cast, simprocAttr, fP, pL]
  refine awake18_ok.go ⟨⟩ (WK.now ?_)
  simp only [push_cast, simprocAttr, fP, pL]
  refine WK.now ?_
  simp only [push_cast, simprocAttr, fP, pL]
 ·refine WK.now ?_
  simp only [Cs, fRc, push_cast, simprocAttr, fP, pL]
  refine awake18_ok.go ⟨⟩ (WK.now ?_)
  simp only [one_pod, push_cast, simprocAttr, fP, pL]
  refine (few_ok [p] (by simp)).go (by first | exact ⟨.inl rfl, trivial⟩ | exact ⟨.inl rfl, .inl rfl, trivial⟩ | exact ⟨.inl rfl, .inl rfl, .inl rfl, trivial⟩ | simp [argsOk, argOk, sl, sll]) (WK.now ?_)
  cases hf : B (FewP [p]) with
  | false =>
   simp only [push_cast, simprocAttr, fP, pL]
   refine awake18_ok.go ⟨⟩ (WK.now ?_)
   simp only [push_cast, simprocAttr, fP, pL]
   refine WK.now ?_
   simp only [push_cast, simprocAttr, fP, pL]
  | true =>
   have hp := (fewP_one p).1 (B_iff.1 hf)
   have hv := h.vic hp n
   have hr := h.ref hpl hpr hp n
   have hof := vof_ok hv
   have hol := hv.olen
   have hmono := h.monoL p n
   have hvl := vicV_len (fitW w p n) (w.pods.filter (onP n)) p
   unfold vicD at hof
   simp only [push_cast, simprocAttr, fP, pL]
   cases hF : fitW w p n (idl (lowV (w.pods.filter (onP n)) p)) with
   | false =>
    rw [hF] at hof
    refine hof.at [1, 2, 3, 4, 5, 6, 7, 8] (by simp [PV, Tb, Ps, Psn, Ns, Cs, Csn, fP, pL, fE, errD, errF, pgetD, nodeD, sl, pods_length, nds_length, plcs_length, sbl, ren_none, ren_var, ren_arr, ren_map, ren_mapb, ren_iter, ren_loop, ren_defr, bel_none, bel_var, bel_arr, bel_map, bel_mapb, bel_iter, bel_loop, bel_defr, AV.renL, AV.ren, AV.belL, AV.bel, rn]) (by simp) (by simp [PV, Tb, Ps, Psn, Ns, Cs, Csn, fP, pL, fE, errD, errF, pgetD, nodeD, sl, pods_length, nds_length, plcs_length]) (by simp [PV, Tb, Ps, Psn, Ns, Cs, Csn, fP, pL, fE, errD, errF, pgetD, nodeD, sl, pods_length, nds_length, plcs_length, AV.ren, AV.renL, rn]) (by simp [AV.belL, AV.bel]) (WK.now ?_)
    simp only [Cs, push_cast, simprocAttr, fP, pL]
    refine WK.now ?_
    simp only [push_cast, simprocAttr, fP, pL]
   | true =>
    rw [hF, if_pos rfl] at hof
    have hlow := rlow18_ok hr
    have hll := lowV_len (w.pods.filter (onP n)) p
    have hrep : ∀ i, i < (lowV (w.pods.filter (onP n)) p).length → _ := fun i hi => rep_ok h p n (w.pods.filter (onP n)) (lowV_nd hv.nd p) hi
    refine hof.at [1, 2, 3, 4, 5, 6, 7, 8] (by simp [PV, Tb, Ps, Psn, Ns, Cs, Csn, fP, pL, fE, errD, errF, pgetD, nodeD, sl, pods_length, nds_length, plcs_length, sbl, ren_none, ren_var, ren_arr, ren_map, ren_mapb, ren_iter, ren_loop, ren_defr, bel_none, bel_var, bel_arr, bel_map, bel_mapb, bel_iter, bel_loop, bel_defr, AV.renL, AV.ren, AV.belL, AV.bel, rn]) (by simp) (by simp [PV, Tb, Ps, Psn, Ns, Cs, Csn, fP, pL, fE, errD, errF, pgetD, nodeD, sl, pods_length, nds_length, plcs_length]) (by simp [PV, Tb, Ps, Psn, Ns, Cs, Csn, fP, pL, fE, errD, errF, pgetD, nodeD, sl, pods_length, nds_length, plcs_length, AV.ren, AV.renL, rn]) (by simp [AV.belL, AV.bel]) (WK.now ?_)
    generalize vicV (fitW w p n) (w.pods.filter (onP n)) p = V at *
    generalize lowV (w.pods.filter (onP n)) p = L at *
    have hids := rids_ok V (by omega)
    have hil := idl_length V
    have hfit := hr.fit
    unfold fRc at hlow hfit
    simp only [Cs, push_cast, simprocAttr, fP, pL]
    refine hids.go (by first | exact ⟨.inl rfl, trivial⟩ | exact ⟨.inl rfl, .inl rfl, trivial⟩ | exact ⟨.inl rfl, .inl rfl, .inl rfl, trivial⟩ | simp [argsOk, argOk, sl, sll]) (WK.now ?_)
    simp only [push_cast, simprocAttr, fP, pL]
    refine hlow.go (by simp [argsOk, argOk, fP, pL]) (WK.now ?_)
    simp only [push_cast, simprocAttr, fP, pL]
    refine ALoop.mk (fun k t H ds => ∃ i : Nat, k = L.length - i ∧ i ≤ L.length ∧ t = (.x :: .x :: .x :: .d (.int .i64 n) :: .x :: .x :: .pvar 0 0 :: .x :: .d (.bool false) :: .pvar 8 0 :: .pvar 9 0 :: .x :: .x :: .d (.slice 1 (ints (idl V))) :: .d (.slice 9 (pods L)) :: .d (.int .i64 (i : Nat)) :: xs86) ∧ H = Hv c w p ∧ ds = []) L.length
     (WK.fgt (t' := (.x :: .x :: .x :: .d (.int .i64 n) :: .x :: .x :: .pvar 0 0 :: .x :: .d (.bool false) :: .pvar 8 0 :: .pvar 9 0 :: .x :: .x :: .d (.slice 1 (ints (idl V))) :: .d (.slice 9 (pods L)) :: .d (.int .i64 (0 : Nat)) :: xs86)) (by simp [fgt]) (WK.now ⟨0, by omega, by omega, rfl, by simp [Hv, PV, pL], rfl⟩)) ?_
    rintro k t H ds ⟨i, rfl, hi, rfl, rfl, rfl⟩
    simp only [Hv, PV, push_cast, simprocAttr, fP, pL]
    refine Kbr.mk (fun cc => ?_) (fun cc => ?_)
    ·have ci : i < L.length := by simpa using cc
     have si := succ64 ci (show L.length ≤ 4611686018427387904 by omega)
     have hri := hrep i ci
     have hol2 := outI_len L (idl V) i L.length
     have hfi := hfit (outI L (idl V) i L.length) (by omega)
     rw [hri] at hfi
     have hci := contains_ok' (idl V) (L.getD i pz).1.id (by omega)
     have go : ∀ k, k ≤ L.length → WK env 0 (fun t H ds => ∃ (j : Nat) (X : AV), L.length - k = L.length - j ∧ j ≤ L.length ∧ (j < L.length ∧ X = .sfull 10 ∧ H = Hv c w p ++ [.arr 3 1 (ints (outI L (idl V) i j))] ∨ j = L.length ∧ X = .d (.slice 1 (ints (outI L (idl V) i L.length))) ∧ H = Hv c w p) ∧ t = (.x :: .x :: .x :: .d (.int .i64 n) :: .x :: .x :: .pvar 0 0 :: .x :: .d (.bool false) :: .pvar 8 0 :: .pvar 9 0 :: .x :: .x :: .d (.slice 1 (ints (idl V))) :: .d (.slice 9 (pods L)) :: .d (.int .i64 (i : Nat)) :: X :: .d (.int .i64 (j : Nat)) :: xs84) ∧ ds = []) (.x :: .x :: .x :: .d (.int .i64 n) :: .x :: .x :: .pvar 0 0 :: .x :: .d (.bool false) :: .pvar 8 0 :: .pvar 9 0 :: .x :: .x :: .d (.slice 1 (ints (idl V))) :: .d (.slice 9 (pods L)) :: .d (.int .i64 (i : Nat)) :: (.sfull 10) :: .d (.int .i64 (k : Nat)) :: xs84) (Hv c w p ++ [.arr 3 1 (ints (outI L (idl V) i k))]) [] := fun k hk => by
      by_cases hl : k = L.length
      ·subst hl
       refine WK.frz 10 rfl (WK.pick [0, 1, 2, 3, 4, 5, 6, 7, 8, 9] (t' := (.x :: .x :: .x :: .d (.int .i64 n) :: .x :: .x :: .pvar 0 0 :: .x :: .d (.bool false) :: .pvar 8 0 :: .pvar 9 0 :: .x :: .x :: .d (.slice 1 (ints (idl V))) :: .d (.slice 9 (pods L)) :: .d (.int .i64 (i : Nat)) :: (.d (.slice 1 (ints (outI L (idl V) i L.length)))) :: .d (.int .i64 (L.length : Nat)) :: xs84)) (H' := Hv c w p)
        (by simp [Hv, PV, pL, AObj.frz, AV.frzL, AV.frz, ints, sbl, ren_none, ren_var, ren_arr, ren_map, bel_none, bel_var, bel_arr, bel_map, AV.renL, AV.ren, AV.belL, AV.bel, rn]) (by simp) (by simp [Hv]) (by simp [AV.frzL, AV.frz, tellL, AV.ren, AV.renL, AV.bel, AV.belL, rn]) (by simp) (WK.now ⟨L.length, _, rfl, Nat.le_refl _, .inr ⟨rfl, rfl, rfl⟩, rfl, rfl⟩))
      ·exact WK.now ⟨k, _, rfl, hk, .inl ⟨by omega, rfl, rfl⟩, rfl, rfl⟩
     simp only [push_cast, simprocAttr, fP, pL]
     refine ALoop.mk (fun k => fun t H ds => ∃ (j : Nat) (X : AV), k = L.length - j ∧ j ≤ L.length ∧ (j < L.length ∧ X = .sfull 10 ∧ H = Hv c w p ++ [.arr 3 1 (ints (outI L (idl V) i j))] ∨ j = L.length ∧ X = .d (.slice 1 (ints (outI L (idl V) i L.length))) ∧ H = Hv c w p) ∧ t = (.x :: .x :: .x :: .d (.int .i64 n) :: .x :: .x :: .pvar 0 0 :: .x :: .d (.bool false) :: .pvar 8 0 :: .pvar 9 0 :: .x :: .x :: .d (.slice 1 (ints (idl V))) :: .d (.slice 9 (pods L)) :: .d (.int .i64 (i : Nat)) :: X :: .d (.int .i64 (j : Nat)) :: xs84) ∧ ds = []) L.length
      (WK.nil 16 3 1 rfl (WK.fgt (t' := (.x :: .x :: .x :: .d (.int .i64 n) :: .x :: .x :: .pvar 0 0 :: .x :: .d (.bool false) :: .pvar 8 0 :: .pvar 9 0 :: .x :: .x :: .d (.slice 1 (ints (idl V))) :: .d (.slice 9 (pods L)) :: .d (.int .i64 (i : Nat)) :: (.sfull 10) :: .d (.int .i64 (0 : Nat)) :: xs84)) (by simp [fgt]) (by
       have := go 0 (by omega)
       simpa [Hv, PV, pL, outI, ints] using this))) ?_
     rintro k' t H ds ⟨k, X, rfl, hk, hX, rfl, rfl⟩
     rcases hX with ⟨c2, rfl, rfl⟩ | ⟨rfl, rfl, rfl⟩
     ·have e2 : decide (k < L.length) = true := decide_eq_true c2
      have sk := succ64 c2 (show L.length ≤ 4611686018427387904 by omega)
      have hsn := outI_snoc L (idl V) i k
      have hkl := outI_len L (idl V) i k
      have hck := contains_ok' (idl V) (L.getD k pz).1.id (by omega)
      have hg := go (k + 1) c2
      simp only [Hv, PV, List.cons_append, List.nil_append, e2, push_cast, simprocAttr, pods_length, nds_length, fP, pL]
      by_cases hgt : i < k
      ·have d1 : decide (i < k) = true := decide_eq_true hgt
       have hob : outB L (idl V) i k = true := by unfold outB; rw [d1]; rfl
       rw [hob, if_pos rfl] at hsn
       rw [hsn] at hg
       simp only [Hv, PV, List.cons_append, List.nil_append, push_cast, simprocAttr, pods_length, nds_length, fP, pL] at hg
       simp only [d1, c2, cel_id, sk, push_cast, simprocAttr, fP, pL]
       refine ⟨room_of (by simp [ints_length]; omega) (by omega), ?_⟩
       exact ⟨L.length - (k + 1), by omega, WK.fgt (t' := (.x :: .x :: .x :: .d (.int .i64 n) :: .x :: .x :: .pvar 0 0 :: .x :: .d (.bool false) :: .pvar 8 0 :: .pvar 9 0 :: .x :: .x :: .d (.slice 1 (ints (idl V))) :: .d (.slice 9 (pods L)) :: .d (.int .i64 (i : Nat)) :: (.sfull 11) :: .d (.int .i64 (k + 1 : Nat)) :: xs84)) (by simp [fgt]) (WK.pick [0, 1, 2, 3, 4, 5, 6, 7, 8, 9, 11]
        (by simp [Hv, PV, pL, ints, sbl, ren_none, ren_var, ren_arr, ren_map, bel_none, bel_var, bel_arr, bel_map, AV.renL, AV.ren, AV.belL, AV.bel, rn]) (by simp) (by simp [Hv]) (by simp [tellL, AV.ren, AV.renL, AV.bel, AV.belL, rn]) (by simp) hg)⟩
      ·have d1 : decide (i < k) = false := decide_eq_false hgt
       by_cases hlt : k < i
       ·have d2 : decide (k < i) = true := decide_eq_true hlt
        simp only [d1, d2, c2, cel_id, push_cast, simprocAttr, fP, pL]
        refine hck.go (by first | exact ⟨.inl rfl, trivial⟩ | exact ⟨.inl rfl, .inl rfl, trivial⟩ | exact ⟨.inl rfl, .inl rfl, .inl rfl, trivial⟩ | simp [argsOk, argOk, sl, sll]) (WK.now ?_)
        cases hb : decide ((L.getD k pz).1.id ∈ idl V) with
        | true =>
         have hob : outB L (idl V) i k = true := by unfold outB inB; rw [d2, hb]; simp
         rw [hob, if_pos rfl] at hsn
         rw [hsn] at hg
         simp only [Hv, PV, List.cons_append, List.nil_append, push_cast, simprocAttr, pods_length, nds_length, fP, pL] at hg
         simp only [c2, cel_id, sk, push_cast, simprocAttr, fP, pL]
         refine ⟨room_of (by simp [ints_length]; omega) (by omega), ?_⟩
         exact ⟨L.length - (k + 1), by omega, WK.fgt (t' := (.x :: .x :: .x :: .d (.int .i64 n) :: .x :: .x :: .pvar 0 0 :: .x :: .d (.bool false) :: .pvar 8 0 :: .pvar 9 0 :: .x :: .x :: .d (.slice 1 (ints (idl V))) :: .d (.slice 9 (pods L)) :: .d (.int .i64 (i : Nat)) :: (.sfull 11) :: .d (.int .i64 (k + 1 : Nat)) :: xs84)) (by simp [fgt]) (WK.pick [0, 1, 2, 3, 4, 5, 6, 7, 8, 9, 11]
          (by simp [Hv, PV, pL, ints, sbl, ren_none, ren_var, ren_arr, ren_map, bel_none, bel_var, bel_arr, bel_map, AV.renL, AV.ren, AV.belL, AV.bel, rn]) (by simp) (by simp [Hv]) (by simp [tellL, AV.ren, AV.renL, AV.bel, AV.belL, rn]) (by simp) hg)⟩
        | false =>
         have hob : outB L (idl V) i k = false := by unfold outB inB; rw [d1, hb]; simp
         rw [hob, if_neg (by simp), List.append_nil] at hsn
         rw [hsn] at hg
         simp only [Hv, PV, List.cons_append, List.nil_append, push_cast, simprocAttr, pods_length, nds_length, fP, pL] at hg
         simp only [sk, push_cast, simprocAttr, fP, pL]
         exact ⟨L.length - (k + 1), by omega, WK.fgt (t' := (.x :: .x :: .x :: .d (.int .i64 n) :: .x :: .x :: .pvar 0 0 :: .x :: .d (.bool false) :: .pvar 8 0 :: .pvar 9 0 :: .x :: .x :: .d (.slice 1 (ints (idl V))) :: .d (.slice 9 (pods L)) :: .d (.int .i64 (i : Nat)) :: (.sfull 10) :: .d (.int .i64 (k + 1 : Nat)) :: xs84)) (by simp [fgt]) hg⟩
       ·have d2 : decide (k < i) = false := decide_eq_false hlt
        have hob : outB L (idl V) i k = false := by unfold outB; rw [d1, d2]; rfl
        rw [hob, if_neg (by simp), List.append_nil] at hsn
        rw [hsn] at hg
        simp only [Hv, PV, List.cons_append, List.nil_append, push_cast, simprocAttr, pods_length, nds_length, fP, pL] at hg
        simp only [d1, d2, sk, push_cast, simprocAttr, fP, pL]
        exact ⟨L.length - (k + 1), by omega, WK.fgt (t' := (.x :: .x :: .x :: .d (.int .i64 n) :: .x :: .x :: .pvar 0 0 :: .x :: .d (.bool false) :: .pvar 8 0 :: .pvar 9 0 :: .x :: .x :: .d (.slice 1 (ints (idl V))) :: .d (.slice 9 (pods L)) :: .d (.int .i64 (i : Nat)) :: (.sfull 10) :: .d (.int .i64 (k + 1 : Nat)) :: xs84)) (by simp [fgt]) hg⟩
     ·have e2 : decide (L.length < L.length) = false := decide_eq_false (by omega)
      simp only [Hv, PV, e2, push_cast, simprocAttr, fP, pL]
      refine DRegL.det [] [0, 1, 2, 3, 4, 5, 6, 7, 8, 9, 10, 11, 12] [] (by kernel_rfl) (by kernel_rfl) (by kernel_rfl) ?_
      simp only [ci, cel_id, push_cast, simprocAttr, fP, pL]
      refine hci.quiet' (by first | exact ⟨.inl rfl, trivial⟩ | exact ⟨.inl rfl, .inl rfl, trivial⟩ | exact ⟨.inl rfl, .inl rfl, .inl rfl, trivial⟩ | simp [argsOk, argOk, sl, sll]) ?_
      simp only [push_cast, simprocAttr, fP, pL]
      refine hfi.quiet' (by simp [argsOk, argOk, fP, pL]) ?_
      simp only [push_cast, simprocAttr, fP, pL]
      have eb : (decide ((L.getD i pz).1.id ∈ idl V) == !inB L (idl V) i) = false := by
       unfold inB
       cases decide ((L.getD i pz).1.id ∈ idl V) <;> rfl
      simp only [eb, si, push_cast, simprocAttr, fP, pL]
      exact ⟨L.length - (i + 1), by omega, WK.fgt (t' := (.x :: .x :: .x :: .d (.int .i64 n) :: .x :: .x :: .pvar 0 0 :: .x :: .d (.bool false) :: .pvar 8 0 :: .pvar 9 0 :: .x :: .x :: .d (.slice 1 (ints (idl V))) :: .d (.slice 9 (pods L)) :: .d (.int .i64 (i + 1 : Nat)) :: xs86)) (by simp [fgt]) (WK.now ⟨i + 1, rfl, by omega, rfl, rfl, rfl⟩)⟩
    ·simp only [push_cast, simprocAttr, fP, pL]
     refine WK.now ?_
     simp only [push_cast, simprocAttr, fP, pL]
end Go.Proofs.YtmeicgbddgeeoaaGreatDoor
end
