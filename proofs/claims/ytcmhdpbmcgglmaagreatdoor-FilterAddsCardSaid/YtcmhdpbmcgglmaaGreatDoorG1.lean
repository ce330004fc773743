/-
  The walks of the package filter: the nodes on which a pod fits.
  The walks of the package filter, continued: the first node, the reasons.
  What the package filter answers at a cluster that the reference's stands for.
  The package filter at a cluster that is not there.
  slices.Equal; the examples of the chapter on filters.
-/
import Derived.Test.YtcmhdpbmcgglmaaGreatDoorB3
import Derived.Test.YtcmhdpbmcgglmaaGreatDoorD1
section
set_option autoImplicit false
set_option linter.unusedVariables false
set_option linter.unusedSimpArgs false
namespace Go.Proofs.YtcmhdpbmcgglmaaGreatDoor
open Go.Abs
def Ci (c : Cl) (p : Pod) (l : List AObj) : List AObj := Cs c ++ (.var [.pvar 7 0] :: PV p :: .var [.pvar 7 0] :: .var [.func 124 [.pvar 8 0, .pvar 9 0]] :: l)
structure Lds (c : Cl) (p : Pod) (lv : Int → List Int) : Prop where
  ok : ClOk c
  nl : c.N.length ≤ 1000000
  sz : Sz p.2
  ld : ∀ n, LdOk c p n [] (lv n)
noncomputable def fitsB (c : Cl) (p : Pod) (lv : Int → List Int) (m : Int × List Int) : Bool := fitB (totS c p m.1 (lv m.1))
def nF (m : Int × List Int) : D := .agg [.int .i64 m.1, .slice 1 (ints m.2)]
def selN (N : List (Int × List Int)) (h : Int × List Int → Bool) : List Int := (N.filter h).map (·.1)
theorem selN_snoc {N : List (Int × List Int)} {i : Nat} (h : Int × List Int → Bool) (hi : i < N.length) : selN (N.take (i + 1)) h = selN (N.take i) h ++ if h (N.getD i nz) then [(N.getD i nz).1] else [] := by
  unfold selN
  rw [List.take_add_one, List.filter_append, List.map_append, List.getElem?_eq_getElem hi, List.getD_eq_getElem?_getD, List.getElem?_eq_getElem hi]
  simp only [Option.toList_some, Option.getD_some, List.filter_cons, List.filter_nil]
  cases h N[i] <;> rfl
theorem selN_len (N : List (Int × List Int)) (h : Int × List Int → Bool) (i : Nat) : (selN (N.take i) h).length ≤ N.length := by
  unfold selN
  rw [List.length_map]
  refine Nat.le_trans (List.length_filter_le _ _) ?_
  simp; omega
theorem ints_snoc' (l : List Int) (x : Int) : ints l ++ [[D.int .i64 x]] = ints (l ++ [x]) := by simp [ints]
set_option maxRecDepth 8000 in
theorem fit1_ok {c : Cl} {p : Pod} {lv : Int → List Int} (h : Lds c p lv) (m : Int × List Int) :
    ACalls env 124 [.d (nF m), .pvar 8 0, .pvar 9 0] (Cs c ++ [.var [.pvar 7 0], PV p]) fun r H' => r = .d (.bool (fitsB c p lv m)) ∧ H' = Cs c ++ [.var [.pvar 7 0], PV p] := by
  have hf := fits_nil (h.ld m.1) h.sz
  unfold Cs PV nF
  refine ACalls.cutTo [0, 1, 2, 3, 4, 5, 6, 7, 8, 9] rfl ?_ (fun l => by simp [Ci, nF, PV, Tb, Ps, Psn, Ns, Cs, Csn, fP, pL, fE, errD, errF, pgetD, nodeD, sl, pods_length, nds_length, sbl, ren_none, ren_var, ren_arr, ren_map, ren_mapb, ren_iter, ren_loop, ren_defr, bel_none, bel_var, bel_arr, bel_map, bel_mapb, bel_iter, bel_loop, bel_defr, AV.renL, AV.ren, AV.belL, AV.bel, rn]) (fun m => by simp [tellL, AV.ren, AV.renL, AV.bel, AV.belL, rn])
  refine acalls_of envOk Tryz.func124 rfl (by kernel_rfl) (m := 7) rfl ?_
  simp only [push_cast, simprocAttr, pods_length, nds_length, fP, pL]
  refine hf.at [0, 1, 2, 3, 4, 5, 6, 7] (by simp [Ci, nF, PV, Tb, Ps, Psn, Ns, Cs, Csn, fP, pL, fE, errD, errF, pgetD, nodeD, sl, pods_length, nds_length, sbl, ren_none, ren_var, ren_arr, ren_map, ren_mapb, ren_iter, ren_loop, ren_defr, bel_none, bel_var, bel_arr, bel_map, bel_mapb, bel_iter, bel_loop, bel_defr, AV.renL, AV.ren, AV.belL, AV.bel, rn]) (by simp) (by simp [Ci, nF, PV, Tb, Ps, Psn, Ns, Cs, Csn, fP, pL, fE, errD, errF, pgetD, nodeD, sl, pods_length, nds_length]) (by simp [Ci, nF, PV, Tb, Ps, Psn, Ns, Cs, Csn, fP, pL, fE, errD, errF, pgetD, nodeD, sl, pods_length, nds_length, AV.ren, AV.renL, rn]) (by simp [AV.belL, AV.bel]) (WK.now ?_)
  simp only [Cs, push_cast, simprocAttr, pods_length, nds_length, fP, pL]
  refine WK.now ?_
  simp only [fitsB, push_cast, simprocAttr, pods_length, nds_length, fP, pL]
  first | done | exact ⟨_, rfl⟩ | exact ⟨rfl, _, rfl⟩
theorem nodes_ok (c : Cl) (p : Pod) :
    ACalls env 82 [.pvar 7 0, .func 124 [.pvar 8 0, .pvar 9 0]] (Cs c ++ [.var [.pvar 7 0], PV p]) fun r H' => r = .func 126 [.pvar 10 0, .pvar 11 0] ∧
      H' = Cs c ++ [.var [.pvar 7 0], PV p, .var [.pvar 7 0], .var [.func 124 [.pvar 8 0, .pvar 9 0]]] := by
  refine acalls_of envOk Tryz.func82 rfl (by kernel_rfl) (m := 4) rfl ?_
  simp only [Cs, PV, push_cast, simprocAttr, pods_length, nds_length, fP, pL]
  refine WK.now ?_
  simp only [Cs, PV, push_cast, simprocAttr, pods_length, nds_length, fP, pL]
theorem fitting_ok (c : Cl) (p : Pod) :
    ACalls env 81 [.pvar 7 0, .d (fP p)] (Cs c) fun r H' => r = .func 126 [.pvar 10 0, .pvar 11 0] ∧
      H' = Cs c ++ [.var [.pvar 7 0], PV p, .var [.pvar 7 0], .var [.func 124 [.pvar 8 0, .pvar 9 0]]] := by
  refine acalls_of envOk Tryz.func81 rfl (by kernel_rfl) (m := 6) rfl ?_
  simp only [Cs, PV, push_cast, simprocAttr, pods_length, nds_length, fP, pL]
  refine (nodes_ok c p).at [0, 1, 2, 3, 4, 5, 6, 7, 8, 9] (by simp [Ci, nF, PV, Tb, Ps, Psn, Ns, Cs, Csn, fP, pL, fE, errD, errF, pgetD, nodeD, sl, pods_length, nds_length, sbl, ren_none, ren_var, ren_arr, ren_map, ren_mapb, ren_iter, ren_loop, ren_defr, bel_none, bel_var, bel_arr, bel_map, bel_mapb, bel_iter, bel_loop, bel_defr, AV.renL, AV.ren, AV.belL, AV.bel, rn]) (by simp) (by simp [Ci, nF, PV, Tb, Ps, Psn, Ns, Cs, Csn, fP, pL, fE, errD, errF, pgetD, nodeD, sl, pods_length, nds_length]) (by simp [Ci, nF, PV, Tb, Ps, Psn, Ns, Cs, Csn, fP, pL, fE, errD, errF, pgetD, nodeD, sl, pods_length, nds_length, AV.ren, AV.renL, rn]) (by simp [AV.belL, AV.bel]) (WK.now ?_)
  simp only [Cs, PV, push_cast, simprocAttr, pods_length, nds_length, fP, pL]
  refine WK.now ?_
  simp only [push_cast, simprocAttr, pods_length, nds_length, fP, pL]
set_option maxRecDepth 8000 in
set_option maxHeartbeats 1000000 in
theorem appseq_ok {c : Cl} {p : Pod} {lv : Int → List Int} (h : Lds c p lv) :
    ACalls env 123 [.d .nils, .func 126 [.pvar 10 0, .pvar 11 0]] (Ci c p []) fun r H' => r = .d (sl (selN (ndL c) (fitsB c p lv))) ∧ H' = Ci c p [.none] := by
  obtain ⟨N, hN⟩ : ∃ N, N = ndL c := ⟨_, rfl⟩
  have hnl : N.length ≤ 1000000 := by rw [hN]; unfold ndL; rw [List.length_map, srt_length, List.length_map]; exact h.nl
  have hcn := cnodes_ok c h.ok.N h.nl
  have hf1 := fit1_ok h
  rw [← hN] at hcn ⊢
  unfold Ci
  refine acalls_of envOk Tryz.func123 rfl (by kernel_rfl) (m := 11) rfl ?_
  simp only [Cs, PV, push_cast, simprocAttr, pods_length, nds_length, fP, pL]
  refine ARng.funcG (fun fn lo hlo => ?_)
  simp only [push_cast, simprocAttr, pods_length, nds_length, fP, pL]
  refine acalls_of envOk Tryz.func126 rfl (by kernel_rfl) (m := 21) rfl ?_
  simp only [push_cast, simprocAttr, pods_length, nds_length, fP, pL]
  refine hcn.at [0, 1, 2, 3, 4, 5, 6, 7] (by simp [Ci, nF, PV, Tb, Ps, Psn, Ns, Cs, Csn, fP, pL, fE, errD, errF, pgetD, nodeD, sl, pods_length, nds_length, sbl, ren_none, ren_var, ren_arr, ren_map, ren_mapb, ren_iter, ren_loop, ren_defr, bel_none, bel_var, bel_arr, bel_map, bel_mapb, bel_iter, bel_loop, bel_defr, AV.renL, AV.ren, AV.belL, AV.bel, rn]) (by simp) (by simp [Ci, nF, PV, Tb, Ps, Psn, Ns, Cs, Csn, fP, pL, fE, errD, errF, pgetD, nodeD, sl, pods_length, nds_length]) (by simp [Ci, nF, PV, Tb, Ps, Psn, Ns, Cs, Csn, fP, pL, fE, errD, errF, pgetD, nodeD, sl, pods_length, nds_length, AV.ren, AV.renL, rn]) (by simp [AV.belL, AV.bel]) (WK.now ?_)
  simp only [Cs, PV, push_cast, simprocAttr, pods_length, nds_length, fP, pL]
  have hren : ∀ m, lo.ren (rn [0, 1, 2, 3, 4, 5, 6, 7, 8, 9, 10, 11, 12, 13, 14, 15] m) = lo := fun m => by rw [hlo]; simp [AObj.ren, AV.renL, AV.ren, rn]
  have hren2 : ∀ m, lo.ren (rn [0, 1, 2, 3, 4, 5, 6, 7, 8, 9, 10, 11, 12, 13, 14, 17] m) = lo := fun m => by rw [hlo]; simp [AObj.ren, AV.renL, AV.ren, rn]
  have hbel : lo.bel 16 = true := by rw [hlo]; simp [AObj.bel, AV.belL, AV.bel]
  refine ALoop.mk (fun k t H ds => ∃ i : Nat, k = N.length - i ∧ i ≤ N.length ∧ t = [.yield 14, .pvar 10 0, .pvar 11 0, .dead, .dead, .dead, .dead, .d (.slice 2 (nds N)), .d (.int .i64 N.length), .d (.int .i64 (i : Nat)), .dead, .dead, .dead, .dead, .dead, .dead, .dead, .dead, .dead, .dead, .dead, .dead, .dead, .dead] ∧ H = Ci c p [.var [.sfull 15], .defr, lo, .arr 3 1 (ints (selN (N.take i) (fitsB c p lv)))] ∧ ds = []) N.length
    (WK.nilfld 12 0 3 1 rfl rfl (WK.fgt (t' := [.yield 14, .pvar 10 0, .pvar 11 0, .dead, .dead, .dead, .dead, .d (.slice 2 (nds N)), .d (.int .i64 N.length), .d (.int .i64 (0 : Nat)), .dead, .dead, .dead, .dead, .dead, .dead, .dead, .dead, .dead, .dead, .dead, .dead, .dead, .dead]) (by simp [fgt, ints_length, intss_length]) (WK.now ⟨0, by omega, by omega, rfl, rfl, rfl⟩))) ?_
  rintro k t H ds ⟨i, rfl, hi, rfl, rfl, rfl⟩
  simp only [Ci, Cs, PV, push_cast, simprocAttr, pods_length, nds_length, fP, pL]
  refine Kbr.mk (fun b => ?_) (fun b => ?_)
  · have c2 : i < N.length := by simpa using b
    have si := succ64 c2 (show N.length ≤ 4611686018427387904 by omega)
    have hsn := selN_snoc (fitsB c p lv) c2
    have hll := selN_len N (fitsB c p lv) i
    simp only [c2, seg_nds, nL, push_cast, simprocAttr, pods_length, nds_length, fP, pL]
    refine (hf1 (N.getD i nz)).at [0, 1, 2, 3, 4, 5, 6, 7, 8, 9] (by simp [Ci, nF, PV, Tb, Ps, Psn, Ns, Cs, Csn, fP, pL, fE, errD, errF, pgetD, nodeD, sl, pods_length, nds_length, sbl, ren_none, ren_var, ren_arr, ren_map, ren_mapb, ren_iter, ren_loop, ren_defr, bel_none, bel_var, bel_arr, bel_map, bel_mapb, bel_iter, bel_loop, bel_defr, AV.renL, AV.ren, AV.belL, AV.bel, rn]) (by simp) (by simp [Ci, nF, PV, Tb, Ps, Psn, Ns, Cs, Csn, fP, pL, fE, errD, errF, pgetD, nodeD, sl, pods_length, nds_length]) (by simp [Ci, nF, PV, Tb, Ps, Psn, Ns, Cs, Csn, fP, pL, fE, errD, errF, pgetD, nodeD, sl, pods_length, nds_length, AV.ren, AV.renL, rn]) (by simp [AV.belL, AV.bel]) (WK.now ?_)
    simp only [Cs, PV, nF, push_cast, simprocAttr, pods_length, nds_length, fP, pL]
    refine Kbr.mk (fun b3 => ?_) (fun b3 => ?_)
    · have c3 : fitsB c p lv (N.getD i nz) = true := by simpa using b3
      rw [c3, if_pos rfl] at hsn
      simp only [push_cast, simprocAttr, pods_length, nds_length, fP, pL]
      refine AYield.mk envOk (congrArg some hlo) rfl ?_
      simp only [push_cast, simprocAttr, pods_length, nds_length, fP, pL]
      refine ⟨_, _, _, _, congrArg some hlo, ?_⟩
      simp only [push_cast, simprocAttr, pods_length, nds_length, fP, pL]
      refine ⟨room_of (by simp [ints]; omega) (by omega), WK.now ⟨_, _, _, _, _, rfl, WK.now ?_⟩⟩
      simp only [si, push_cast, simprocAttr, pods_length, nds_length, fP, pL]
      simp only [← hlo]
      exact ⟨N.length - (i + 1), by omega, WK.pick [0, 1, 2, 3, 4, 5, 6, 7, 8, 9, 10, 11, 12, 13, 14, 17] (t' := [.yield 14, .pvar 10 0, .pvar 11 0, .dead, .dead, .dead, .dead, .d (.slice 2 (nds N)), .d (.int .i64 N.length), .d (.int .i64 (i + 1 : Nat)), .dead, .dead, .dead, .dead, .dead, .dead, .dead, .dead, .dead, .dead, .dead, .dead, .dead, .dead]) (H' := Ci c p [.var [.sfull 15], .defr, lo, .arr 3 1 (ints (selN (N.take i) (fitsB c p lv)) ++ [[.int .i64 (N.getD i nz).1]])])
        (by simp [Ci, Cs, PV, pL, sbl, ren_none, ren_var, ren_arr, ren_map, ren_defr, bel_var, bel_arr, bel_map, bel_defr, AV.renL, AV.ren, AV.belL, AV.bel, hren2, hbel, rn]) (by simp) (by simp) (by simp [tellL, AV.ren, AV.renL, AV.bel, AV.belL, rn]) (by decide) (WK.now ⟨i + 1, rfl, by omega, rfl, by rw [hsn, ← ints_snoc']; rfl, rfl⟩)⟩
    · have c3 : fitsB c p lv (N.getD i nz) = false := by simpa using b3
      rw [c3, if_neg (by simp), List.append_nil] at hsn
      simp only [si, push_cast, simprocAttr, pods_length, nds_length, fP, pL]
      exact ⟨N.length - (i + 1), by omega, WK.pick [0, 1, 2, 3, 4, 5, 6, 7, 8, 9, 10, 11, 12, 13, 14, 15] (t' := [.yield 14, .pvar 10 0, .pvar 11 0, .dead, .dead, .dead, .dead, .d (.slice 2 (nds N)), .d (.int .i64 N.length), .d (.int .i64 (i + 1 : Nat)), .dead, .dead, .dead, .dead, .dead, .dead, .dead, .dead, .dead, .dead, .dead, .dead, .dead, .dead]) (H' := Ci c p [.var [.sfull 15], .defr, lo, .arr 3 1 (ints (selN (N.take i) (fitsB c p lv)))])
        (by simp [Ci, Cs, PV, pL, sbl, ren_none, ren_var, ren_arr, ren_map, ren_defr, bel_var, bel_arr, bel_map, bel_defr, AV.renL, AV.ren, AV.belL, AV.bel, hren, hbel, rn]) (by simp) (by simp) (by simp [tellL, AV.ren, AV.renL, AV.bel, AV.belL, rn]) (by decide) (WK.now ⟨i + 1, rfl, by omega, rfl, by rw [hsn]; rfl, rfl⟩)⟩
  · have c2 : ¬ i < N.length := by simpa using b
    have e : N.take i = N := List.take_of_length_le (by omega)
    rw [e]
    simp only [push_cast, simprocAttr, pods_length, nds_length, fP, pL]
    refine WK.now ?_
    simp only [push_cast, simprocAttr, pods_length, nds_length, fP, pL]
    subst hlo
    refine Krng.go rfl (WK.now ?_)
    simp only [push_cast, simprocAttr, pods_length, nds_length, fP, pL]
    refine WK.frz 15 rfl ?_
    simp only [push_cast, simprocAttr, pods_length, nds_length, fP, pL]
    refine WK.pickD [0, 1, 2, 3, 4, 5, 6, 7, 8, 9, 10, 11, 13] (H' := Ci c p [.defr]) (t' := [.dead, .dead, .dead, .dead, .d (.slice 1 (ints (selN N (fitsB c p lv)))), .dead, .dead, .dead, .dead, .dead, .dead, .dead, .dead]) (ds' := [12]) (by simp [Ci, nF, PV, Tb, Ps, Psn, Ns, Cs, Csn, fP, pL, fE, errD, errF, pgetD, nodeD, sl, pods_length, nds_length, ints, intss, sbl, ren_none, ren_var, ren_arr, ren_map, ren_mapb, ren_iter, ren_loop, ren_defr, bel_none, bel_var, bel_arr, bel_map, bel_mapb, bel_iter, bel_loop, bel_defr, AV.renL, AV.ren, AV.belL, AV.bel, rn]) (by simp) (by simp) (by simp [Ci, nF, PV, Tb, Ps, Psn, Ns, Cs, Csn, fP, pL, fE, errD, errF, pgetD, nodeD, sl, pods_length, nds_length, tellL, AV.ren, AV.renL, AV.bel, AV.belL, rn]) (by simp [rn]) (by simp) (by decide) (WK.now ?_)
    simp only [Ci, Cs, PV, sl, push_cast, simprocAttr, pods_length, nds_length, fP, pL]
theorem collect_ok {c : Cl} {p : Pod} {lv : Int → List Int} (h : Lds c p lv) :
    ACalls env 80 [.func 126 [.pvar 10 0, .pvar 11 0]] (Ci c p []) fun r H' => r = .d (sl (selN (ndL c) (fitsB c p lv))) ∧ H' = Ci c p [] := by
  have ha := appseq_ok h
  unfold Ci Cs PV
  refine ACalls.cutTo [0, 1, 2, 3, 4, 5, 6, 7, 8, 9, 10, 11] rfl ?_ (fun l => by simp [Ci, nF, PV, Tb, Ps, Psn, Ns, Cs, Csn, fP, pL, fE, errD, errF, pgetD, nodeD, sl, pods_length, nds_length, sbl, ren_none, ren_var, ren_arr, ren_map, ren_mapb, ren_iter, ren_loop, ren_defr, bel_none, bel_var, bel_arr, bel_map, bel_mapb, bel_iter, bel_loop, bel_defr, AV.renL, AV.ren, AV.belL, AV.bel, rn]) (fun m => by simp [tellL, AV.ren, AV.renL, AV.bel, AV.belL, rn])
  refine acalls_of envOk Tryz.func80 rfl (by kernel_rfl) (m := 4) rfl ?_
  simp only [push_cast, simprocAttr, pods_length, nds_length, fP, pL]
  refine ha.at [0, 1, 2, 3, 4, 5, 6, 7, 8, 9, 10, 11] (by simp [Ci, nF, PV, Tb, Ps, Psn, Ns, Cs, Csn, fP, pL, fE, errD, errF, pgetD, nodeD, sl, pods_length, nds_length, sbl, ren_none, ren_var, ren_arr, ren_map, ren_mapb, ren_iter, ren_loop, ren_defr, bel_none, bel_var, bel_arr, bel_map, bel_mapb, bel_iter, bel_loop, bel_defr, AV.renL, AV.ren, AV.belL, AV.bel, rn]) (by simp) (by simp [Ci, nF, PV, Tb, Ps, Psn, Ns, Cs, Csn, fP, pL, fE, errD, errF, pgetD, nodeD, sl, pods_length, nds_length]) (by simp [Ci, nF, PV, Tb, Ps, Psn, Ns, Cs, Csn, fP, pL, fE, errD, errF, pgetD, nodeD, sl, pods_length, nds_length, AV.ren, AV.renL, rn]) (by simp [AV.belL, AV.bel]) (WK.now ?_)
  simp only [Ci, Cs, PV, push_cast, simprocAttr, pods_length, nds_length, fP, pL]
  refine WK.now ?_
  simp only [push_cast, simprocAttr, pods_length, nds_length, fP, pL]
  first | done | exact ⟨_, rfl⟩ | exact ⟨rfl, _, rfl⟩
theorem fnodes_ok {c : Cl} {p : Pod} {lv : Int → List Int} (h : Lds c p lv) :
    ACalls env 39 [.pvar 7 0, .d (fP p)] (Cs c) fun r H' => r = .d (sl (selN (ndL c) (fitsB c p lv))) ∧ H' = Cs c := by
  have hc := collect_ok h
  have hf := fitting_ok c p
  unfold Cs
  refine ACalls.cutTo [0, 1, 2, 3, 4, 5, 6, 7] rfl ?_ (fun l => by simp [Ci, nF, PV, Tb, Ps, Psn, Ns, Cs, Csn, fP, pL, fE, errD, errF, pgetD, nodeD, sl, pods_length, nds_length, sbl, ren_none, ren_var, ren_arr, ren_map, ren_mapb, ren_iter, ren_loop, ren_defr, bel_none, bel_var, bel_arr, bel_map, bel_mapb, bel_iter, bel_loop, bel_defr, AV.renL, AV.ren, AV.belL, AV.bel, rn]) (fun m => by simp [tellL, AV.ren, AV.renL, AV.bel, AV.belL, rn])
  refine acalls_of envOk Tryz.func39 rfl (by kernel_rfl) (m := 7) rfl ?_
  simp only [push_cast, simprocAttr, pods_length, nds_length, fP, pL]
  refine hf.at [0, 1, 2, 3, 4, 5, 6, 7] (by simp [Ci, nF, PV, Tb, Ps, Psn, Ns, Cs, Csn, fP, pL, fE, errD, errF, pgetD, nodeD, sl, pods_length, nds_length, sbl, ren_none, ren_var, ren_arr, ren_map, ren_mapb, ren_iter, ren_loop, ren_defr, bel_none, bel_var, bel_arr, bel_map, bel_mapb, bel_iter, bel_loop, bel_defr, AV.renL, AV.ren, AV.belL, AV.bel, rn]) (by simp) (by simp [Ci, nF, PV, Tb, Ps, Psn, Ns, Cs, Csn, fP, pL, fE, errD, errF, pgetD, nodeD, sl, pods_length, nds_length]) (by simp [Ci, nF, PV, Tb, Ps, Psn, Ns, Cs, Csn, fP, pL, fE, errD, errF, pgetD, nodeD, sl, pods_length, nds_length, AV.ren, AV.renL, rn]) (by simp [AV.belL, AV.bel]) (WK.now ?_)
  simp only [Cs, PV, push_cast, simprocAttr, pods_length, nds_length, fP, pL]
  refine hc.at [0, 1, 2, 3, 4, 5, 6, 7, 9, 10, 11, 12] (by simp [Ci, nF, PV, Tb, Ps, Psn, Ns, Cs, Csn, fP, pL, fE, errD, errF, pgetD, nodeD, sl, pods_length, nds_length, sbl, ren_none, ren_var, ren_arr, ren_map, ren_mapb, ren_iter, ren_loop, ren_defr, bel_none, bel_var, bel_arr, bel_map, bel_mapb, bel_iter, bel_loop, bel_defr, AV.renL, AV.ren, AV.belL, AV.bel, rn]) (by simp) (by simp [Ci, nF, PV, Tb, Ps, Psn, Ns, Cs, Csn, fP, pL, fE, errD, errF, pgetD, nodeD, sl, pods_length, nds_length]) (by simp [Ci, nF, PV, Tb, Ps, Psn, Ns, Cs, Csn, fP, pL, fE, errD, errF, pgetD, nodeD, sl, pods_length, nds_length, AV.ren, AV.renL, rn]) (by simp [AV.belL, AV.bel]) (WK.now ?_)
  simp only [Ci, Cs, PV, push_cast, simprocAttr, pods_length, nds_length, fP, pL]
  refine WK.now ?_
  simp only [push_cast, simprocAttr, pods_length, nds_length, fP, pL]
  first | done | exact ⟨_, rfl⟩ | exact ⟨rfl, _, rfl⟩
end Go.Proofs.YtcmhdpbmcgglmaaGreatDoor
end
section
set_option autoImplicit false
set_option linter.unusedVariables false
set_option linter.unusedSimpArgs false
namespace Go.Proofs.YtcmhdpbmcgglmaaGreatDoor
open Go.Abs
def Hr (c : Cl) (p : Pod) (l : List AObj) : List AObj := Cs c ++ (.var [.pvar 7 0] :: PV p :: .var [.sfull 15] :: .var [.pvar 7 0] :: .var [.d (.func 83 [])] :: .defr :: l)
theorem below_succ {P : Nat → Prop} {i : Nat} (h : ∀ j, j < i → P j) (hi : P i) : ∀ j, j < i + 1 → P j := fun j hj => by
  by_cases e : j = i
  · exact e ▸ hi
  · exact h j (by omega)
def fstD : List Int → D
  | [] => .tup [.int .i64 0, .bool false]
  | x :: _ => .tup [.int .i64 x, .bool true]
theorem selN_none {N : List (Int × List Int)} {h : Int × List Int → Bool} (hn : ∀ j, j < N.length → h (N.getD j nz) = false) : selN N h = [] := by
  unfold selN
  rw [List.map_eq_nil_iff, List.filter_eq_nil_iff]
  intro m hm
  obtain ⟨j, hj, rfl⟩ := List.getElem_of_mem hm
  have := hn j hj
  rw [List.getD_eq_getElem?_getD, List.getElem?_eq_getElem hj] at this
  simpa using this
theorem selN_first {N : List (Int × List Int)} {h : Int × List Int → Bool} {i : Nat} (hi : i < N.length) (hn : ∀ j, j < i → h (N.getD j nz) = false) (hy : h (N.getD i nz) = true) : ∃ r, selN N h = (N.getD i nz).1 :: r := by
  have e : N = N.take i ++ N.getD i nz :: N.drop (i + 1) := by
    rw [List.getD_eq_getElem?_getD, List.getElem?_eq_getElem hi, Option.getD_some, ← List.drop_eq_getElem_cons hi, List.take_append_drop]
  have e0 : (N.take i).filter h = [] := by
    rw [List.filter_eq_nil_iff]
    intro m hm
    obtain ⟨j, hj, rfl⟩ := List.getElem_of_mem hm
    rw [List.length_take] at hj
    have := hn j (by omega)
    rw [List.getD_eq_getElem?_getD, List.getElem?_eq_getElem (by omega)] at this
    rw [List.getElem_take]
    simpa using this
  refine ⟨((N.drop (i + 1)).filter h).map (·.1), ?_⟩
  unfold selN
  conv => lhs; rw [e]
  rw [List.filter_append, e0, List.nil_append, List.filter_cons_of_pos hy, List.map_cons]
set_option maxRecDepth 8000 in
set_option maxHeartbeats 1000000 in
theorem first_ok {c : Cl} {p : Pod} {lv : Int → List Int} (h : Lds c p lv) :
    ACalls env 46 [.pvar 7 0, .d (fP p)] (Cs c) fun r H' => r = .d (fstD (selN (ndL c) (fitsB c p lv))) ∧ H' = Cs c := by
  obtain ⟨N, hN⟩ : ∃ N, N = ndL c := ⟨_, rfl⟩
  have hnl : N.length ≤ 1000000 := by rw [hN]; unfold ndL; rw [List.length_map, srt_length, List.length_map]; exact h.nl
  have hcn := cnodes_ok c h.ok.N h.nl
  have hf1 := fit1_ok h
  have hf := fitting_ok c p
  rw [← hN] at hcn ⊢
  unfold Cs
  refine ACalls.cutTo [0, 1, 2, 3, 4, 5, 6, 7] rfl ?_ (fun l => by simp [Hr, Ci, nF, PV, Tb, Ps, Psn, Ns, Cs, Csn, fP, pL, fE, errD, errF, pgetD, nodeD, sl, pods_length, nds_length, sbl, ren_none, ren_var, ren_arr, ren_map, ren_mapb, ren_iter, ren_loop, ren_defr, bel_none, bel_var, bel_arr, bel_map, bel_mapb, bel_iter, bel_loop, bel_defr, AV.renL, AV.ren, AV.belL, AV.bel, rn]) (fun m => by simp [tellL, AV.ren, AV.renL, AV.bel, AV.belL, rn])
  refine acalls_of envOk Tryz.func46 rfl (by kernel_rfl) (m := 10) rfl ?_
  simp only [push_cast, simprocAttr, pods_length, nds_length, fP, pL]
  refine hf.at [0, 1, 2, 3, 4, 5, 6, 7] (by simp [Hr, Ci, nF, PV, Tb, Ps, Psn, Ns, Cs, Csn, fP, pL, fE, errD, errF, pgetD, nodeD, sl, pods_length, nds_length, sbl, ren_none, ren_var, ren_arr, ren_map, ren_mapb, ren_iter, ren_loop, ren_defr, bel_none, bel_var, bel_arr, bel_map, bel_mapb, bel_iter, bel_loop, bel_defr, AV.renL, AV.ren, AV.belL, AV.bel, rn]) (by simp) (by simp [Hr, Ci, nF, PV, Tb, Ps, Psn, Ns, Cs, Csn, fP, pL, fE, errD, errF, pgetD, nodeD, sl, pods_length, nds_length]) (by simp [Hr, Ci, nF, PV, Tb, Ps, Psn, Ns, Cs, Csn, fP, pL, fE, errD, errF, pgetD, nodeD, sl, pods_length, nds_length, AV.ren, AV.renL, rn]) (by simp [AV.belL, AV.bel]) (WK.now ?_)
  simp only [Cs, PV, push_cast, simprocAttr, pods_length, nds_length, fP, pL]
  refine ARng.funcG (fun fn lo hlo => ?_)
  simp only [push_cast, simprocAttr, pods_length, nds_length, fP, pL]
  refine acalls_of envOk Tryz.func126 rfl (by kernel_rfl) (m := 21) rfl ?_
  simp only [push_cast, simprocAttr, pods_length, nds_length, fP, pL]
  refine hcn.at [0, 1, 2, 3, 4, 5, 6, 7] (by simp [Hr, Ci, nF, PV, Tb, Ps, Psn, Ns, Cs, Csn, fP, pL, fE, errD, errF, pgetD, nodeD, sl, pods_length, nds_length, sbl, ren_none, ren_var, ren_arr, ren_map, ren_mapb, ren_iter, ren_loop, ren_defr, bel_none, bel_var, bel_arr, bel_map, bel_mapb, bel_iter, bel_loop, bel_defr, AV.renL, AV.ren, AV.belL, AV.bel, rn]) (by simp) (by simp [Hr, Ci, nF, PV, Tb, Ps, Psn, Ns, Cs, Csn, fP, pL, fE, errD, errF, pgetD, nodeD, sl, pods_length, nds_length]) (by simp [Hr, Ci, nF, PV, Tb, Ps, Psn, Ns, Cs, Csn, fP, pL, fE, errD, errF, pgetD, nodeD, sl, pods_length, nds_length, AV.ren, AV.renL, rn]) (by simp [AV.belL, AV.bel]) (WK.now ?_)
  simp only [Cs, PV, push_cast, simprocAttr, pods_length, nds_length, fP, pL]
  have hren : ∀ m, lo.ren (rn [0, 1, 2, 3, 4, 5, 6, 7, 8, 9, 10, 11, 12, 13, 14, 15, 16] m) = lo := fun m => by rw [hlo]; simp [AObj.ren, AV.renL, AV.ren, rn]
  have hren2 := hren
  have hbel : lo.bel 17 = true := by rw [hlo]; simp [AObj.bel, AV.belL, AV.bel]
  refine ALoop.mk (fun k t H ds => ∃ i : Nat, k = N.length - i ∧ i ≤ N.length ∧ (∀ j, j < i → fitsB c p lv (N.getD j nz) = false) ∧ t = [.yield 16, .pvar 13 0, .pvar 14 0, .dead, .dead, .dead, .dead, .d (.slice 2 (nds N)), .d (.int .i64 N.length), .d (.int .i64 (i : Nat)), .dead, .dead, .dead, .dead, .dead, .dead, .dead, .dead, .dead, .dead, .dead, .dead, .dead, .dead] ∧ H = Cs c ++ [PV p, .var [.d (.int .i64 0)], .var [.d (.bool false)], .var [.pvar 7 0], PV p, .var [.pvar 7 0], .var [.func 124 [.pvar 11 0, .pvar 12 0]], .defr, lo] ∧ ds = []) N.length
    (WK.fgt (t' := [.yield 16, .pvar 13 0, .pvar 14 0, .dead, .dead, .dead, .dead, .d (.slice 2 (nds N)), .d (.int .i64 N.length), .d (.int .i64 (0 : Nat)), .dead, .dead, .dead, .dead, .dead, .dead, .dead, .dead, .dead, .dead, .dead, .dead, .dead, .dead]) (by simp [fgt, ints_length, intss_length]) (WK.now ⟨0, by omega, by omega, by intro j hj; omega, rfl, rfl, rfl⟩)) ?_
  rintro k t H ds ⟨i, rfl, hi, hno, rfl, rfl, rfl⟩
  simp only [Cs, PV, push_cast, simprocAttr, pods_length, nds_length, fP, pL]
  refine Kbr.mk (fun b => ?_) (fun b => ?_)
  · have c2 : i < N.length := by simpa using b
    have si := succ64 c2 (show N.length ≤ 4611686018427387904 by omega)
    simp only [c2, seg_nds, nL, push_cast, simprocAttr, pods_length, nds_length, fP, pL]
    refine (hf1 (N.getD i nz)).at [0, 1, 2, 3, 4, 5, 6, 7, 11, 12] (by simp [Hr, Ci, nF, PV, Tb, Ps, Psn, Ns, Cs, Csn, fP, pL, fE, errD, errF, pgetD, nodeD, sl, pods_length, nds_length, sbl, ren_none, ren_var, ren_arr, ren_map, ren_mapb, ren_iter, ren_loop, ren_defr, bel_none, bel_var, bel_arr, bel_map, bel_mapb, bel_iter, bel_loop, bel_defr, AV.renL, AV.ren, AV.belL, AV.bel, rn]) (by simp) (by simp [Hr, Ci, nF, PV, Tb, Ps, Psn, Ns, Cs, Csn, fP, pL, fE, errD, errF, pgetD, nodeD, sl, pods_length, nds_length]) (by simp [Hr, Ci, nF, PV, Tb, Ps, Psn, Ns, Cs, Csn, fP, pL, fE, errD, errF, pgetD, nodeD, sl, pods_length, nds_length, AV.ren, AV.renL, rn]) (by simp [AV.belL, AV.bel]) (WK.now ?_)
    simp only [Cs, PV, nF, push_cast, simprocAttr, pods_length, nds_length, fP, pL]
    refine Kbr.mk (fun b3 => ?_) (fun b3 => ?_)
    · have c3 : fitsB c p lv (N.getD i nz) = true := by simpa using b3
      obtain ⟨r, hr⟩ := selN_first c2 hno c3
      simp only [push_cast, simprocAttr, pods_length, nds_length, fP, pL]
      refine AYield.mk envOk (congrArg some hlo) rfl ?_
      simp only [push_cast, simprocAttr, pods_length, nds_length, fP, pL]
      refine ⟨_, _, _, _, congrArg some hlo, ?_⟩
      simp only [push_cast, simprocAttr, pods_length, nds_length, fP, pL]
      refine WK.now ⟨_, _, _, _, _, rfl, WK.now ?_⟩
      simp only [push_cast, simprocAttr, pods_length, nds_length, fP, pL]
      refine WK.now ?_
      simp only [push_cast, simprocAttr, pods_length, nds_length, fP, pL]
      refine Krng.ret rfl (WK.now ?_)
      simp only [hr, fstD, push_cast, simprocAttr, pods_length, nds_length, fP, pL]
      refine WK.now ?_
      simp only [push_cast, simprocAttr, pods_length, nds_length, fP, pL]
      first | done | exact ⟨_, rfl⟩ | exact ⟨rfl, _, rfl⟩
    · have c3 : fitsB c p lv (N.getD i nz) = false := by simpa using b3
      simp only [si, push_cast, simprocAttr, pods_length, nds_length, fP, pL]
      exact ⟨N.length - (i + 1), by omega, WK.pick [0, 1, 2, 3, 4, 5, 6, 7, 8, 9, 10, 11, 12, 13, 14, 15, 16] (t' := [.yield 16, .pvar 13 0, .pvar 14 0, .dead, .dead, .dead, .dead, .d (.slice 2 (nds N)), .d (.int .i64 N.length), .d (.int .i64 (i + 1 : Nat)), .dead, .dead, .dead, .dead, .dead, .dead, .dead, .dead, .dead, .dead, .dead, .dead, .dead, .dead]) (H' := Cs c ++ [PV p, .var [.d (.int .i64 0)], .var [.d (.bool false)], .var [.pvar 7 0], PV p, .var [.pvar 7 0], .var [.func 124 [.pvar 11 0, .pvar 12 0]], .defr, lo])
        (by simp [Hr, Ci, nF, PV, Tb, Ps, Psn, Ns, Cs, Csn, fP, pL, fE, errD, errF, pgetD, nodeD, sl, pods_length, nds_length, sbl, ren_none, ren_var, ren_arr, ren_map, ren_defr, bel_none, bel_var, bel_arr, bel_map, bel_defr, AV.renL, AV.ren, AV.belL, AV.bel, hren, hren2, hbel, rn]) (by simp) (by simp) (by simp [tellL, AV.ren, AV.renL, AV.bel, AV.belL, rn]) (by decide) (WK.now ⟨i + 1, rfl, by omega, below_succ hno c3, rfl, rfl, rfl⟩)⟩
  · have c2 : ¬ i < N.length := by simpa using b
    have e : selN N (fitsB c p lv) = [] := selN_none fun j hj => hno j (by omega)
    rw [e]
    simp only [push_cast, simprocAttr, pods_length, nds_length, fP, pL]
    refine WK.now ?_
    simp only [push_cast, simprocAttr, pods_length, nds_length, fP, pL]
    subst hlo
    refine Krng.go rfl (WK.now ?_)
    simp only [push_cast, simprocAttr, pods_length, nds_length, fP, pL]
    refine WK.now ?_
    simp only [fstD, push_cast, simprocAttr, pods_length, nds_length, fP, pL]
    first | done | exact ⟨_, rfl⟩ | exact ⟨rfl, _, rfl⟩
/-! Whether there is a node that is large enough. -/
noncomputable def everB (p : Pod) (N : List (Int × List Int)) : Bool := N.any fun m => B (FitsP p.2 m.2)
theorem everB_at {p : Pod} {N : List (Int × List Int)} {i : Nat} (hi : i < N.length) (h : B (FitsP p.2 (N.getD i nz).2) = true) : everB p N = true := by
  unfold everB
  rw [List.any_eq_true]
  refine ⟨N[i], List.getElem_mem hi, ?_⟩
  rw [List.getD_eq_getElem?_getD, List.getElem?_eq_getElem hi] at h
  exact h
theorem everB_no {p : Pod} {N : List (Int × List Int)} (h : ∀ j, j < N.length → B (FitsP p.2 (N.getD j nz).2) = false) : everB p N = false := by
  unfold everB
  rw [List.any_eq_false]
  intro m hm
  obtain ⟨j, hj, rfl⟩ := List.getElem_of_mem hm
  have := h j hj
  rw [List.getD_eq_getElem?_getD, List.getElem?_eq_getElem hj] at this
  simpa using this
theorem ever1_ok (p : Pod) (m : Int × List Int) (hs : Sz p.2) (hr : InR p.2) (hm : InR m.2) :
    ACalls env 84 [.d (nF m), .pvar 0 0] [PV p] fun r H' => r = .d (.bool (B (FitsP p.2 m.2))) ∧ H' = [PV p] := by
  have hv := vfits_ok p.2 m.2 hs hr hm
  unfold PV nF
  refine ACalls.cutTo [0] rfl ?_ (fun l => by simp [Hr, Ci, nF, PV, Tb, Ps, Psn, Ns, Cs, Csn, fP, pL, fE, errD, errF, pgetD, nodeD, sl, pods_length, nds_length, sbl, ren_none, ren_var, ren_arr, ren_map, ren_mapb, ren_iter, ren_loop, ren_defr, bel_none, bel_var, bel_arr, bel_map, bel_mapb, bel_iter, bel_loop, bel_defr, AV.renL, AV.ren, AV.belL, AV.bel, rn]) (fun m => by simp [tellL, AV.ren, AV.renL, AV.bel, AV.belL, rn])
  refine acalls_of envOk Tryz.func84 rfl (by kernel_rfl) (m := 7) rfl ?_
  simp only [push_cast, simprocAttr, pods_length, nds_length, fP, pL]
  refine hv.go (by first | exact ⟨.inl rfl, trivial⟩ | exact ⟨.inl rfl, .inl rfl, trivial⟩ | exact ⟨.inl rfl, .inl rfl, .inl rfl, trivial⟩ | simp [argsOk, argOk, sl, sll]) (WK.now ?_)
  simp only [push_cast, simprocAttr, pods_length, nds_length, fP, pL]
  refine WK.now ?_
  simp only [push_cast, simprocAttr, pods_length, nds_length, fP, pL]
  first | done | exact ⟨_, rfl⟩ | exact ⟨rfl, _, rfl⟩
theorem nodesE_ok (c : Cl) (p : Pod) :
    ACalls env 82 [.pvar 7 0, .func 84 [.pvar 8 0]] (Cs c ++ [PV p]) fun r H' => r = .func 126 [.pvar 9 0, .pvar 10 0] ∧
      H' = Cs c ++ [PV p, .var [.pvar 7 0], .var [.func 84 [.pvar 8 0]]] := by
  refine acalls_of envOk Tryz.func82 rfl (by kernel_rfl) (m := 4) rfl ?_
  simp only [Cs, PV, push_cast, simprocAttr, pods_length, nds_length, fP, pL]
  refine WK.now ?_
  simp only [Cs, PV, push_cast, simprocAttr, pods_length, nds_length, fP, pL]
set_option maxRecDepth 8000 in
set_option maxHeartbeats 1000000 in
theorem ever_ok {c : Cl} {p : Pod} (h : ClOk c) (hl : c.N.length ≤ 1000000) (hs : Sz p.2) (hr : InR p.2) (hm : ∀ j, j < (ndL c).length → InR ((ndL c).getD j nz).2) :
    ACalls env 42 [.pvar 7 0, .d (fP p)] (Cs c) fun r H' => r = .d (.bool (everB p (ndL c))) ∧ H' = Cs c := by
  obtain ⟨N, hN⟩ : ∃ N, N = ndL c := ⟨_, rfl⟩
  have hnl : N.length ≤ 1000000 := by rw [hN]; unfold ndL; rw [List.length_map, srt_length, List.length_map]; exact hl
  have hcn := cnodes_ok c h.N hl
  have hf := nodesE_ok c p
  rw [← hN] at hcn hm ⊢
  unfold Cs
  refine ACalls.cutTo [0, 1, 2, 3, 4, 5, 6, 7] rfl ?_ (fun l => by simp [Hr, Ci, nF, PV, Tb, Ps, Psn, Ns, Cs, Csn, fP, pL, fE, errD, errF, pgetD, nodeD, sl, pods_length, nds_length, sbl, ren_none, ren_var, ren_arr, ren_map, ren_mapb, ren_iter, ren_loop, ren_defr, bel_none, bel_var, bel_arr, bel_map, bel_mapb, bel_iter, bel_loop, bel_defr, AV.renL, AV.ren, AV.belL, AV.bel, rn]) (fun m => by simp [tellL, AV.ren, AV.renL, AV.bel, AV.belL, rn])
  refine acalls_of envOk Tryz.func42 rfl (by kernel_rfl) (m := 7) rfl ?_
  simp only [push_cast, simprocAttr, pods_length, nds_length, fP, pL]
  refine hf.at [0, 1, 2, 3, 4, 5, 6, 7, 8] (by simp [Hr, Ci, nF, PV, Tb, Ps, Psn, Ns, Cs, Csn, fP, pL, fE, errD, errF, pgetD, nodeD, sl, pods_length, nds_length, sbl, ren_none, ren_var, ren_arr, ren_map, ren_mapb, ren_iter, ren_loop, ren_defr, bel_none, bel_var, bel_arr, bel_map, bel_mapb, bel_iter, bel_loop, bel_defr, AV.renL, AV.ren, AV.belL, AV.bel, rn]) (by simp) (by simp [Hr, Ci, nF, PV, Tb, Ps, Psn, Ns, Cs, Csn, fP, pL, fE, errD, errF, pgetD, nodeD, sl, pods_length, nds_length]) (by simp [Hr, Ci, nF, PV, Tb, Ps, Psn, Ns, Cs, Csn, fP, pL, fE, errD, errF, pgetD, nodeD, sl, pods_length, nds_length, AV.ren, AV.renL, rn]) (by simp [AV.belL, AV.bel]) (WK.now ?_)
  simp only [Cs, PV, push_cast, simprocAttr, pods_length, nds_length, fP, pL]
  refine ARng.funcG (fun fn lo hlo => ?_)
  simp only [push_cast, simprocAttr, pods_length, nds_length, fP, pL]
  refine acalls_of envOk Tryz.func126 rfl (by kernel_rfl) (m := 21) rfl ?_
  simp only [push_cast, simprocAttr, pods_length, nds_length, fP, pL]
  refine hcn.at [0, 1, 2, 3, 4, 5, 6, 7] (by simp [Hr, Ci, nF, PV, Tb, Ps, Psn, Ns, Cs, Csn, fP, pL, fE, errD, errF, pgetD, nodeD, sl, pods_length, nds_length, sbl, ren_none, ren_var, ren_arr, ren_map, ren_mapb, ren_iter, ren_loop, ren_defr, bel_none, bel_var, bel_arr, bel_map, bel_mapb, bel_iter, bel_loop, bel_defr, AV.renL, AV.ren, AV.belL, AV.bel, rn]) (by simp) (by simp [Hr, Ci, nF, PV, Tb, Ps, Psn, Ns, Cs, Csn, fP, pL, fE, errD, errF, pgetD, nodeD, sl, pods_length, nds_length]) (by simp [Hr, Ci, nF, PV, Tb, Ps, Psn, Ns, Cs, Csn, fP, pL, fE, errD, errF, pgetD, nodeD, sl, pods_length, nds_length, AV.ren, AV.renL, rn]) (by simp [AV.belL, AV.bel]) (WK.now ?_)
  simp only [Cs, PV, push_cast, simprocAttr, pods_length, nds_length, fP, pL]
  have hren : ∀ m, lo.ren (rn [0, 1, 2, 3, 4, 5, 6, 7, 8, 9, 10, 11, 12, 13] m) = lo := fun m => by rw [hlo]; simp [AObj.ren, AV.renL, AV.ren, rn]
  have hren2 := hren
  have hbel : lo.bel 14 = true := by rw [hlo]; simp [AObj.bel, AV.belL, AV.bel]
  refine ALoop.mk (fun k t H ds => ∃ i : Nat, k = N.length - i ∧ i ≤ N.length ∧ (∀ j, j < i → B (FitsP p.2 (N.getD j nz).2) = false) ∧ t = [.yield 13, .pvar 10 0, .pvar 11 0, .dead, .dead, .dead, .dead, .d (.slice 2 (nds N)), .d (.int .i64 N.length), .d (.int .i64 (i : Nat)), .dead, .dead, .dead, .dead, .dead, .dead, .dead, .dead, .dead, .dead, .dead, .dead, .dead, .dead] ∧ H = Cs c ++ [PV p, .var [.d (.bool false)], .var [.pvar 7 0], .var [.func 84 [.pvar 8 0]], .defr, lo] ∧ ds = []) N.length
    (WK.fgt (t' := [.yield 13, .pvar 10 0, .pvar 11 0, .dead, .dead, .dead, .dead, .d (.slice 2 (nds N)), .d (.int .i64 N.length), .d (.int .i64 (0 : Nat)), .dead, .dead, .dead, .dead, .dead, .dead, .dead, .dead, .dead, .dead, .dead, .dead, .dead, .dead]) (by simp [fgt, ints_length, intss_length]) (WK.now ⟨0, by omega, by omega, by intro j hj; omega, rfl, rfl, rfl⟩)) ?_
  rintro k t H ds ⟨i, rfl, hi, hno, rfl, rfl, rfl⟩
  simp only [Cs, PV, push_cast, simprocAttr, pods_length, nds_length, fP, pL]
  refine Kbr.mk (fun b => ?_) (fun b => ?_)
  · have c2 : i < N.length := by simpa using b
    have si := succ64 c2 (show N.length ≤ 4611686018427387904 by omega)
    have hf1 := ever1_ok p (N.getD i nz) hs hr (hm i c2)
    simp only [c2, seg_nds, nL, push_cast, simprocAttr, pods_length, nds_length, fP, pL]
    refine hf1.at [8] (by simp [Hr, Ci, nF, PV, Tb, Ps, Psn, Ns, Cs, Csn, fP, pL, fE, errD, errF, pgetD, nodeD, sl, pods_length, nds_length, sbl, ren_none, ren_var, ren_arr, ren_map, ren_mapb, ren_iter, ren_loop, ren_defr, bel_none, bel_var, bel_arr, bel_map, bel_mapb, bel_iter, bel_loop, bel_defr, AV.renL, AV.ren, AV.belL, AV.bel, rn]) (by simp) (by simp [Hr, Ci, nF, PV, Tb, Ps, Psn, Ns, Cs, Csn, fP, pL, fE, errD, errF, pgetD, nodeD, sl, pods_length, nds_length]) (by simp [Hr, Ci, nF, PV, Tb, Ps, Psn, Ns, Cs, Csn, fP, pL, fE, errD, errF, pgetD, nodeD, sl, pods_length, nds_length, AV.ren, AV.renL, rn]) (by simp [AV.belL, AV.bel]) (WK.now ?_)
    simp only [Cs, PV, nF, push_cast, simprocAttr, pods_length, nds_length, fP, pL]
    refine Kbr.mk (fun b3 => ?_) (fun b3 => ?_)
    · have c3 : B (FitsP p.2 (N.getD i nz).2) = true := by simpa using b3
      have hr := everB_at c2 c3
      simp only [push_cast, simprocAttr, pods_length, nds_length, fP, pL]
      refine AYield.skip envOk (congrArg some hlo) rfl ?_
      simp only [push_cast, simprocAttr, pods_length, nds_length, fP, pL]
      refine WK.now ⟨_, _, _, _, _, rfl, WK.now ?_⟩
      simp only [push_cast, simprocAttr, pods_length, nds_length, fP, pL]
      refine WK.now ?_
      simp only [push_cast, simprocAttr, pods_length, nds_length, fP, pL]
      refine Krng.ret rfl (WK.now ?_)
      simp only [hr, push_cast, simprocAttr, pods_length, nds_length, fP, pL]
      refine WK.now ?_
      simp only [push_cast, simprocAttr, pods_length, nds_length, fP, pL]
      first | done | exact ⟨_, rfl⟩ | exact ⟨rfl, _, rfl⟩
    · have c3 : B (FitsP p.2 (N.getD i nz).2) = false := by simpa using b3
      simp only [si, push_cast, simprocAttr, pods_length, nds_length, fP, pL]
      exact ⟨N.length - (i + 1), by omega, WK.pick [0, 1, 2, 3, 4, 5, 6, 7, 8, 9, 10, 11, 12, 13] (t' := [.yield 13, .pvar 10 0, .pvar 11 0, .dead, .dead, .dead, .dead, .d (.slice 2 (nds N)), .d (.int .i64 N.length), .d (.int .i64 (i + 1 : Nat)), .dead, .dead, .dead, .dead, .dead, .dead, .dead, .dead, .dead, .dead, .dead, .dead, .dead, .dead]) (H' := Cs c ++ [PV p, .var [.d (.bool false)], .var [.pvar 7 0], .var [.func 84 [.pvar 8 0]], .defr, lo])
        (by simp [Hr, Ci, nF, PV, Tb, Ps, Psn, Ns, Cs, Csn, fP, pL, fE, errD, errF, pgetD, nodeD, sl, pods_length, nds_length, sbl, ren_none, ren_var, ren_arr, ren_map, ren_defr, bel_none, bel_var, bel_arr, bel_map, bel_defr, AV.renL, AV.ren, AV.belL, AV.bel, hren, hren2, hbel, rn]) (by simp) (by simp) (by simp [tellL, AV.ren, AV.renL, AV.bel, AV.belL, rn]) (by decide) (WK.now ⟨i + 1, rfl, by omega, below_succ hno c3, rfl, rfl, rfl⟩)⟩
  · have c2 : ¬ i < N.length := by simpa using b
    have e : everB p N = false := everB_no fun j hj => hno j (by omega)
    rw [e]
    simp only [push_cast, simprocAttr, pods_length, nds_length, fP, pL]
    refine WK.now ?_
    simp only [push_cast, simprocAttr, pods_length, nds_length, fP, pL]
    subst hlo
    refine Krng.go rfl (WK.now ?_)
    simp only [push_cast, simprocAttr, pods_length, nds_length, fP, pL]
    refine WK.now ?_
    simp only [push_cast, simprocAttr, pods_length, nds_length, fP, pL]
    first | done | exact ⟨_, rfl⟩ | exact ⟨rfl, _, rfl⟩
/-! The reasons. -/
def idxQ (l : List Int) : Int := if l.findIdx (fun x => decide (0 < x)) < l.length then l.findIdx (fun x => decide (0 < x)) else -1
theorem idxQ_at {l : List Int} {i : Nat} (hi : i < l.length) (hn : ∀ j, j < i → ¬ 0 < l.getD j 0) (hy : 0 < l.getD i 0) : idxQ l = i := by
  have e : l.findIdx (fun x => decide (0 < x)) = i := by
    rw [List.findIdx_eq hi]
    refine ⟨?_, fun j hj => ?_⟩
    · rw [List.getD_eq_getElem?_getD, List.getElem?_eq_getElem hi] at hy
      exact decide_eq_true hy
    · have := hn j hj
      rw [List.getD_eq_getElem?_getD, List.getElem?_eq_getElem (by omega)] at this
      exact decide_eq_false this
  unfold idxQ
  rw [e, if_pos hi]
theorem idxQ_no {l : List Int} (hn : ∀ j, j < l.length → ¬ 0 < l.getD j 0) : idxQ l = -1 := by
  unfold idxQ
  rw [if_neg]
  rw [List.findIdx_lt_length]
  rintro ⟨x, hx, hp⟩
  obtain ⟨j, hj, rfl⟩ := List.getElem_of_mem hx
  have := hn j hj
  rw [List.getD_eq_getElem?_getD, List.getElem?_eq_getElem hj] at this
  exact this (of_decide_eq_true hp)
theorem reason1_ok (x : Int) : PCall env 122 [.int .i64 x] (.bool (decide (0 < x))) := by
  refine acalls_of envOk Tryz.func122 rfl (by kernel_rfl) (m := 4) rfl ?_
  simp only [push_cast, simprocAttr, pods_length, nds_length, fP, pL]
  refine WK.now ?_
  simp only [push_cast, simprocAttr, pods_length, nds_length, fP, pL]
set_option maxRecDepth 8000 in
theorem idxf_ok (l : List Int) (hs : l.length ≤ 4611686018427387904) : PCall env 120 [.slice 1 (ints l), .func 122 []] (.int .i64 (idxQ l)) := by
  refine acalls_of envOk Tryz.func120 rfl (by kernel_rfl) (m := 17) rfl ?_
  simp only [push_cast, simprocAttr, pods_length, nds_length, fP, pL]
  refine ALoop.mk (fun k t H ds => ∃ i : Nat, k = l.length - i ∧ i ≤ l.length ∧ (∀ j, j < i → ¬ 0 < l.getD j 0) ∧ t = [.d (.slice 1 (ints l)), .d (.func 122 []), .dead, .dead, .dead, .dead, .dead, .d (.int .i64 l.length), .d (.int .i64 (i : Nat)), .dead, .dead, .dead, .dead, .dead, .dead, .dead, .dead, .dead, .dead] ∧ H = [] ∧ ds = []) l.length
    (WK.fgt (t' := [.d (.slice 1 (ints l)), .d (.func 122 []), .dead, .dead, .dead, .dead, .dead, .d (.int .i64 l.length), .d (.int .i64 (0 : Nat)), .dead, .dead, .dead, .dead, .dead, .dead, .dead, .dead, .dead, .dead]) (by simp [fgt, ints_length, intss_length]) (WK.now ⟨0, by omega, by omega, by intro j hj; omega, rfl, rfl, rfl⟩)) ?_
  rintro k t H ds ⟨i, rfl, hi, hno, rfl, rfl, rfl⟩
  simp only [push_cast, simprocAttr, pods_length, nds_length, fP, pL]
  refine Kbr.mk (fun b => ?_) (fun b => ?_)
  · have c2 : i < l.length := by simpa using b
    have si := succ64 c2 hs
    simp only [c2, cel_ints, push_cast, simprocAttr, pods_length, nds_length, fP, pL]
    refine (reason1_ok (l.getD i 0)).go (by first | exact ⟨.inl rfl, trivial⟩ | exact ⟨.inl rfl, .inl rfl, trivial⟩ | exact ⟨.inl rfl, .inl rfl, .inl rfl, trivial⟩ | simp [argsOk, argOk, sl, sll]) (WK.now ?_)
    simp only [push_cast, simprocAttr, pods_length, nds_length, fP, pL]
    refine Kbr.mk (fun b3 => ?_) (fun b3 => ?_)
    · have c3 : 0 < l.getD i 0 := of_decide_eq_true b3
      rw [idxQ_at c2 hno c3]
      simp only [push_cast, simprocAttr, pods_length, nds_length, fP, pL]
      refine WK.now ?_
      simp only [push_cast, simprocAttr, pods_length, nds_length, fP, pL]
    · have c3 : ¬ 0 < l.getD i 0 := of_decide_eq_false b3
      simp only [si, push_cast, simprocAttr, pods_length, nds_length, fP, pL]
      exact ⟨l.length - (i + 1), by omega, WK.fgt (t' := [.d (.slice 1 (ints l)), .d (.func 122 []), .dead, .dead, .dead, .dead, .dead, .d (.int .i64 l.length), .d (.int .i64 (i + 1 : Nat)), .dead, .dead, .dead, .dead, .dead, .dead, .dead, .dead, .dead, .dead]) (by simp [fgt, ints_length, intss_length]) (WK.now ⟨i + 1, rfl, by omega, below_succ hno c3, rfl, rfl, rfl⟩)⟩
  · have c2 : ¬ i < l.length := by simpa using b
    rw [idxQ_no fun j hj => hno j (by omega)]
    simp only [push_cast, simprocAttr, pods_length, nds_length, fP, pL]
    refine WK.now ?_
    simp only [push_cast, simprocAttr, pods_length, nds_length, fP, pL]
def shortL : Option (Option (List Int) × List Int) → List Int
  | some (some s, cap) => List.zipWith (fun x y => max x y - y) s cap
  | _ => []
theorem idxf_short (o : Option (Option (List Int) × List Int)) (hs : (shortL o).length ≤ 4611686018427387904) (H : List AObj) :
    ACalls env 120 [.d (shortD o), .d (.func 122 [])] H fun r H' => r = .d (.int .i64 (idxQ (shortL o))) ∧ H' = H := by
  have h := (idxf_ok (shortL o) hs).anywhere H
  match o with
  | some (some s, cap) => exact h
  | some (none, cap) => exact h.argv (bs := [.d .nils, .d (.func 122 [])]) (by simp [avsOk, avOk, argOk, ints, shortL])
  | none => exact h.argv (bs := [.d .nils, .d (.func 122 [])]) (by simp [avsOk, avOk, argOk, ints, shortL])
structure Rss (c : Cl) (p : Pod) (lv : Int → List Int) : Prop extends Lds c p lv where
  len : ∀ n s cap, totS c p n (lv n) = some (some s, cap) → s.length = cap.length ∧ ∀ n ∈ cap, 0 ≤ n
  few : ∀ n, (shortL (totS c p n (lv n))).length ≤ 1000000
noncomputable def rsn (c : Cl) (p : Pod) (lv : Int → List Int) (n : Int) : Int := idxQ (shortL (totS c p n (lv n)))
theorem reason_ok {c : Cl} {p : Pod} {lv : Int → List Int} (h : Rss c p lv) (n : Int) :
    ACalls env 79 [.pvar 7 0, .d (fP p), .d (.int .i64 n)] (Cs c) fun r H' => r = .d (.tup [.int .i64 (max (rsn c p lv n) 0), .bool (decide (0 ≤ rsn c p lv n))]) ∧ H' = Cs c := by
  have hs := short_ok (h.ld n) h.sz (h.len n)
  have hx := idxf_short (totS c p n (lv n)) (by have := h.few n; omega)
  unfold Cs
  refine ACalls.cutTo [0, 1, 2, 3, 4, 5, 6, 7] rfl ?_ (fun l => by simp [Hr, Ci, nF, PV, Tb, Ps, Psn, Ns, Cs, Csn, fP, pL, fE, errD, errF, pgetD, nodeD, sl, pods_length, nds_length, sbl, ren_none, ren_var, ren_arr, ren_map, ren_mapb, ren_iter, ren_loop, ren_defr, bel_none, bel_var, bel_arr, bel_map, bel_mapb, bel_iter, bel_loop, bel_defr, AV.renL, AV.ren, AV.belL, AV.bel, rn]) (fun m => by simp [tellL, AV.ren, AV.renL, AV.bel, AV.belL, rn])
  refine acalls_of envOk Tryz.func79 rfl (by kernel_rfl) (m := 15) rfl ?_
  simp only [push_cast, simprocAttr, pods_length, nds_length, fP, pL]
  refine hs.at [0, 1, 2, 3, 4, 5, 6, 7] (by simp [Hr, Ci, nF, PV, Tb, Ps, Psn, Ns, Cs, Csn, fP, pL, fE, errD, errF, pgetD, nodeD, sl, pods_length, nds_length, sbl, ren_none, ren_var, ren_arr, ren_map, ren_mapb, ren_iter, ren_loop, ren_defr, bel_none, bel_var, bel_arr, bel_map, bel_mapb, bel_iter, bel_loop, bel_defr, AV.renL, AV.ren, AV.belL, AV.bel, rn]) (by simp) (by simp [Hr, Ci, nF, PV, Tb, Ps, Psn, Ns, Cs, Csn, fP, pL, fE, errD, errF, pgetD, nodeD, sl, pods_length, nds_length]) (by simp [Hr, Ci, nF, PV, Tb, Ps, Psn, Ns, Cs, Csn, fP, pL, fE, errD, errF, pgetD, nodeD, sl, pods_length, nds_length, AV.ren, AV.renL, rn]) (by simp [AV.belL, AV.bel]) (WK.now ?_)
  simp only [Cs, PV, push_cast, simprocAttr, pods_length, nds_length, fP, pL]
  refine (hx _).thus (WK.now ?_)
  simp only [push_cast, simprocAttr, pods_length, nds_length, fP, pL]
  refine WK.now ?_
  simp only [rsn, push_cast, simprocAttr, pods_length, nds_length, fP, pL]
  first | done | exact ⟨_, rfl⟩ | exact ⟨rfl, _, rfl⟩
theorem reasons1_ok (m : Int × List Int) : PCall env 83 [nF m] (.bool true) := by
  unfold nF
  refine acalls_of envOk Tryz.func83 rfl (by kernel_rfl) (m := 2) rfl ?_
  simp only [push_cast, simprocAttr, pods_length, nds_length, fP, pL]
  refine WK.now ?_
  simp only [push_cast, simprocAttr, pods_length, nds_length, fP, pL]
theorem nodesR_ok (c : Cl) :
    ACalls env 82 [.pvar 7 0, .d (.func 83 [])] (Cs c) fun r H' => r = .func 126 [.pvar 8 0, .pvar 9 0] ∧
      H' = Cs c ++ [.var [.pvar 7 0], .var [.d (.func 83 [])]] := by
  refine acalls_of envOk Tryz.func82 rfl (by kernel_rfl) (m := 4) rfl ?_
  simp only [Cs, PV, push_cast, simprocAttr, pods_length, nds_length, fP, pL]
  refine WK.now ?_
  simp only [Cs, PV, push_cast, simprocAttr, pods_length, nds_length, fP, pL]
noncomputable def rsL (c : Cl) (p : Pod) (lv : Int → List Int) (N : List (Int × List Int)) : List (Int × Int) := (N.filter fun m => decide (0 ≤ rsn c p lv m.1)).map fun m => (m.1, rsn c p lv m.1)
def prs (l : List (Int × Int)) : List (List D) := l.map fun x => [.int .i64 x.1, .int .i64 x.2]
theorem prs_length (l : List (Int × Int)) : (prs l).length = l.length := by simp [prs]
theorem prs_snoc (l : List (Int × Int)) (a b : Int) : prs l ++ [[D.int .i64 a, D.int .i64 b]] = prs (l ++ [(a, b)]) := by simp [prs]
theorem rsL_snoc {c : Cl} {p : Pod} {lv : Int → List Int} {N : List (Int × List Int)} {i : Nat} (hi : i < N.length) : rsL c p lv (N.take (i + 1)) = rsL c p lv (N.take i) ++ if 0 ≤ rsn c p lv (N.getD i nz).1 then [((N.getD i nz).1, rsn c p lv (N.getD i nz).1)] else [] := by
  unfold rsL
  rw [List.take_add_one, List.filter_append, List.map_append, List.getElem?_eq_getElem hi, List.getD_eq_getElem?_getD, List.getElem?_eq_getElem hi]
  simp only [Option.toList_some, Option.getD_some, List.filter_cons, List.filter_nil]
  by_cases h : 0 ≤ rsn c p lv N[i].1 <;> simp [h]
theorem rsL_len (c : Cl) (p : Pod) (lv : Int → List Int) (N : List (Int × List Int)) (i : Nat) : (rsL c p lv (N.take i)).length ≤ N.length := by
  unfold rsL
  rw [List.length_map]
  refine Nat.le_trans (List.length_filter_le _ _) ?_
  simp; omega
set_option maxRecDepth 8000 in
set_option maxHeartbeats 1000000 in
theorem reasons_ok {c : Cl} {p : Pod} {lv : Int → List Int} (h : Rss c p lv) :
    ACalls env 40 [.pvar 7 0, .d (fP p)] (Cs c) fun r H' => r = .d (.slice 2 (prs (rsL c p lv (ndL c)))) ∧ H' = Cs c := by
  obtain ⟨N, hN⟩ : ∃ N, N = ndL c := ⟨_, rfl⟩
  have hnl : N.length ≤ 1000000 := by rw [hN]; unfold ndL; rw [List.length_map, srt_length, List.length_map]; exact h.nl
  have hcn := cnodes_ok c h.ok.N h.nl
  have hrs := reason_ok h
  have hf := nodesR_ok c
  rw [← hN] at hcn ⊢
  unfold Cs
  refine ACalls.cutTo [0, 1, 2, 3, 4, 5, 6, 7] rfl ?_ (fun l => by simp [Hr, Ci, nF, PV, Tb, Ps, Psn, Ns, Cs, Csn, fP, pL, fE, errD, errF, pgetD, nodeD, sl, pods_length, nds_length, sbl, ren_none, ren_var, ren_arr, ren_map, ren_mapb, ren_iter, ren_loop, ren_defr, bel_none, bel_var, bel_arr, bel_map, bel_mapb, bel_iter, bel_loop, bel_defr, AV.renL, AV.ren, AV.belL, AV.bel, rn]) (fun m => by simp [tellL, AV.ren, AV.renL, AV.bel, AV.belL, rn])
  refine acalls_of envOk Tryz.func40 rfl (by kernel_rfl) (m := 25) rfl ?_
  simp only [push_cast, simprocAttr, pods_length, nds_length, fP, pL]
  refine hf.at [0, 1, 2, 3, 4, 5, 6, 7] (by simp [Hr, Ci, nF, PV, Tb, Ps, Psn, Ns, Cs, Csn, fP, pL, fE, errD, errF, pgetD, nodeD, sl, pods_length, nds_length, sbl, ren_none, ren_var, ren_arr, ren_map, ren_mapb, ren_iter, ren_loop, ren_defr, bel_none, bel_var, bel_arr, bel_map, bel_mapb, bel_iter, bel_loop, bel_defr, AV.renL, AV.ren, AV.belL, AV.bel, rn]) (by simp) (by simp [Hr, Ci, nF, PV, Tb, Ps, Psn, Ns, Cs, Csn, fP, pL, fE, errD, errF, pgetD, nodeD, sl, pods_length, nds_length]) (by simp [Hr, Ci, nF, PV, Tb, Ps, Psn, Ns, Cs, Csn, fP, pL, fE, errD, errF, pgetD, nodeD, sl, pods_length, nds_length, AV.ren, AV.renL, rn]) (by simp [AV.belL, AV.bel]) (WK.now ?_)
  simp only [Cs, PV, push_cast, simprocAttr, pods_length, nds_length, fP, pL]
  refine ARng.funcG (fun fn lo hlo => ?_)
  simp only [push_cast, simprocAttr, pods_length, nds_length, fP, pL]
  refine acalls_of envOk Tryz.func126 rfl (by kernel_rfl) (m := 21) rfl ?_
  simp only [push_cast, simprocAttr, pods_length, nds_length, fP, pL]
  refine hcn.at [0, 1, 2, 3, 4, 5, 6, 7] (by simp [Hr, Ci, nF, PV, Tb, Ps, Psn, Ns, Cs, Csn, fP, pL, fE, errD, errF, pgetD, nodeD, sl, pods_length, nds_length, sbl, ren_none, ren_var, ren_arr, ren_map, ren_mapb, ren_iter, ren_loop, ren_defr, bel_none, bel_var, bel_arr, bel_map, bel_mapb, bel_iter, bel_loop, bel_defr, AV.renL, AV.ren, AV.belL, AV.bel, rn]) (by simp) (by simp [Hr, Ci, nF, PV, Tb, Ps, Psn, Ns, Cs, Csn, fP, pL, fE, errD, errF, pgetD, nodeD, sl, pods_length, nds_length]) (by simp [Hr, Ci, nF, PV, Tb, Ps, Psn, Ns, Cs, Csn, fP, pL, fE, errD, errF, pgetD, nodeD, sl, pods_length, nds_length, AV.ren, AV.renL, rn]) (by simp [AV.belL, AV.bel]) (WK.now ?_)
  simp only [Cs, PV, push_cast, simprocAttr, pods_length, nds_length, fP, pL]
  have hren : ∀ m, lo.ren (rn [0, 1, 2, 3, 4, 5, 6, 7, 8, 9, 10, 11, 12, 13, 14, 15] m) = lo := fun m => by rw [hlo]; simp [AObj.ren, AV.renL, AV.ren, rn]
  have hren2 : ∀ m, lo.ren (rn [0, 1, 2, 3, 4, 5, 6, 7, 8, 9, 10, 11, 12, 13, 14, 17] m) = lo := fun m => by rw [hlo]; simp [AObj.ren, AV.renL, AV.ren, rn]
  have hbel : lo.bel 16 = true := by rw [hlo]; simp [AObj.bel, AV.belL, AV.bel]
  refine ALoop.mk (fun k t H ds => ∃ i : Nat, k = N.length - i ∧ i ≤ N.length ∧ t = [.yield 14, .pvar 11 0, .pvar 12 0, .dead, .dead, .dead, .dead, .d (.slice 2 (nds N)), .d (.int .i64 N.length), .d (.int .i64 (i : Nat)), .dead, .dead, .dead, .dead, .dead, .dead, .dead, .dead, .dead, .dead, .dead, .dead, .dead, .dead] ∧ H = Hr c p [lo, .arr 78 2 (prs (rsL c p lv (N.take i)))] ∧ ds = []) N.length
    (WK.nilfld 10 0 78 2 rfl rfl (WK.fgt (t' := [.yield 14, .pvar 11 0, .pvar 12 0, .dead, .dead, .dead, .dead, .d (.slice 2 (nds N)), .d (.int .i64 N.length), .d (.int .i64 (0 : Nat)), .dead, .dead, .dead, .dead, .dead, .dead, .dead, .dead, .dead, .dead, .dead, .dead, .dead, .dead]) (by simp [fgt, ints_length, intss_length]) (WK.now ⟨0, by omega, by omega, rfl, rfl, rfl⟩))) ?_
  rintro k t H ds ⟨i, rfl, hi, rfl, rfl, rfl⟩
  simp only [Hr, Cs, PV, push_cast, simprocAttr, pods_length, nds_length, fP, pL]
  refine Kbr.mk (fun b => ?_) (fun b => ?_)
  · have c2 : i < N.length := by simpa using b
    have si := succ64 c2 (show N.length ≤ 4611686018427387904 by omega)
    have hsn := rsL_snoc (c := c) (p := p) (lv := lv) c2
    have hll := rsL_len c p lv N i
    have hq := reasons1_ok (N.getD i nz)
    unfold nF at hq
    simp only [c2, seg_nds, nL, push_cast, simprocAttr, pods_length, nds_length, fP, pL]
    refine hq.go (by first | exact ⟨.inl rfl, trivial⟩ | exact ⟨.inl rfl, .inl rfl, trivial⟩ | exact ⟨.inl rfl, .inl rfl, .inl rfl, trivial⟩ | simp [argsOk, argOk, sl, sll]) (WK.now ?_)
    simp only [push_cast, simprocAttr, pods_length, nds_length, fP, pL]
    refine AYield.mk envOk (congrArg some hlo) rfl ?_
    simp only [push_cast, simprocAttr, pods_length, nds_length, fP, pL]
    refine ⟨_, _, _, _, congrArg some hlo, ?_⟩
    simp only [push_cast, simprocAttr, pods_length, nds_length, fP, pL]
    refine (hrs (N.getD i nz).1).at [0, 1, 2, 3, 4, 5, 6, 7] (by simp [Hr, Ci, nF, PV, Tb, Ps, Psn, Ns, Cs, Csn, fP, pL, fE, errD, errF, pgetD, nodeD, sl, pods_length, nds_length, sbl, ren_none, ren_var, ren_arr, ren_map, ren_mapb, ren_iter, ren_loop, ren_defr, bel_none, bel_var, bel_arr, bel_map, bel_mapb, bel_iter, bel_loop, bel_defr, AV.renL, AV.ren, AV.belL, AV.bel, rn]) (by simp) (by simp [Hr, Ci, nF, PV, Tb, Ps, Psn, Ns, Cs, Csn, fP, pL, fE, errD, errF, pgetD, nodeD, sl, pods_length, nds_length]) (by simp [Hr, Ci, nF, PV, Tb, Ps, Psn, Ns, Cs, Csn, fP, pL, fE, errD, errF, pgetD, nodeD, sl, pods_length, nds_length, AV.ren, AV.renL, rn]) (by simp [AV.belL, AV.bel]) (WK.now ?_)
    simp only [Cs, PV, push_cast, simprocAttr, pods_length, nds_length, fP, pL]
    refine Kbr.mk (fun b3 => ?_) (fun b3 => ?_)
    · have c3 : 0 ≤ rsn c p lv (N.getD i nz).1 := of_decide_eq_true b3
      have mx : max (rsn c p lv (N.getD i nz).1) 0 = rsn c p lv (N.getD i nz).1 := by omega
      rw [if_pos c3] at hsn
      simp only [mx, push_cast, simprocAttr, pods_length, nds_length, fP, pL]
      refine ⟨room_of (by simp [prs_length]; omega) (by omega), WK.now ⟨_, _, _, _, _, rfl, WK.now ?_⟩⟩
      simp only [si, push_cast, simprocAttr, pods_length, nds_length, fP, pL]
      simp only [← hlo]
      exact ⟨N.length - (i + 1), by omega, WK.pick [0, 1, 2, 3, 4, 5, 6, 7, 8, 9, 10, 11, 12, 13, 14, 17] (t' := [.yield 14, .pvar 11 0, .pvar 12 0, .dead, .dead, .dead, .dead, .d (.slice 2 (nds N)), .d (.int .i64 N.length), .d (.int .i64 (i + 1 : Nat)), .dead, .dead, .dead, .dead, .dead, .dead, .dead, .dead, .dead, .dead, .dead, .dead, .dead, .dead]) (H' := Hr c p [lo, .arr 78 2 (prs (rsL c p lv (N.take i)) ++ [[.int .i64 (N.getD i nz).1, .int .i64 (rsn c p lv (N.getD i nz).1)]])])
        (by simp [Hr, Ci, nF, PV, Tb, Ps, Psn, Ns, Cs, Csn, fP, pL, fE, errD, errF, pgetD, nodeD, sl, pods_length, nds_length, sbl, ren_none, ren_var, ren_arr, ren_map, ren_defr, bel_none, bel_var, bel_arr, bel_map, bel_defr, AV.renL, AV.ren, AV.belL, AV.bel, hren, hren2, hbel, rn]) (by simp) (by simp) (by simp [tellL, AV.ren, AV.renL, AV.bel, AV.belL, rn]) (by decide) (WK.now ⟨i + 1, rfl, by omega, rfl, by rw [hsn, ← prs_snoc]; rfl, rfl⟩)⟩
    · have c3 : ¬ 0 ≤ rsn c p lv (N.getD i nz).1 := of_decide_eq_false b3
      rw [if_neg c3, List.append_nil] at hsn
      simp only [push_cast, simprocAttr, pods_length, nds_length, fP, pL]
      refine WK.now ⟨_, _, _, _, _, rfl, WK.now ?_⟩
      simp only [si, push_cast, simprocAttr, pods_length, nds_length, fP, pL]
      simp only [← hlo]
      exact ⟨N.length - (i + 1), by omega, WK.pick [0, 1, 2, 3, 4, 5, 6, 7, 8, 9, 10, 11, 12, 13, 14, 15] (t' := [.yield 14, .pvar 11 0, .pvar 12 0, .dead, .dead, .dead, .dead, .d (.slice 2 (nds N)), .d (.int .i64 N.length), .d (.int .i64 (i + 1 : Nat)), .dead, .dead, .dead, .dead, .dead, .dead, .dead, .dead, .dead, .dead, .dead, .dead, .dead, .dead]) (H' := Hr c p [lo, .arr 78 2 (prs (rsL c p lv (N.take i)))])
        (by simp [Hr, Ci, nF, PV, Tb, Ps, Psn, Ns, Cs, Csn, fP, pL, fE, errD, errF, pgetD, nodeD, sl, pods_length, nds_length, sbl, ren_none, ren_var, ren_arr, ren_map, ren_defr, bel_none, bel_var, bel_arr, bel_map, bel_defr, AV.renL, AV.ren, AV.belL, AV.bel, hren, hren2, hbel, rn]) (by simp) (by simp) (by simp [tellL, AV.ren, AV.renL, AV.bel, AV.belL, rn]) (by decide) (WK.now ⟨i + 1, rfl, by omega, rfl, by rw [hsn]; rfl, rfl⟩)⟩
  · have c2 : ¬ i < N.length := by simpa using b
    have e : N.take i = N := List.take_of_length_le (by omega)
    rw [e]
    simp only [push_cast, simprocAttr, pods_length, nds_length, fP, pL]
    refine WK.now ?_
    simp only [push_cast, simprocAttr, pods_length, nds_length, fP, pL]
    subst hlo
    refine Krng.go rfl (WK.now ?_)
    simp only [push_cast, simprocAttr, pods_length, nds_length, fP, pL]
    refine WK.frz 15 rfl (WK.now ?_)
    simp only [push_cast, simprocAttr, pods_length, nds_length, fP, pL]
    first | done | exact ⟨_, rfl⟩ | exact ⟨rfl, _, rfl⟩
end Go.Proofs.YtcmhdpbmcgglmaaGreatDoor
end
section
set_option autoImplicit false
set_option linter.unusedVariables false
set_option linter.unusedSimpArgs false
namespace Go.Proofs.YtcmhdpbmcgglmaaGreatDoor
open Go.Abs
section
variable {c : Cl} {w : Rc}
theorem RC.findN_mem (h : RC c w) {m : Int × List Int} (hm : m ∈ w.nodes) : findN w.nodes m.1 = some m := by
  cases hf : findN w.nodes m.1 with
  | none =>
    unfold findN at hf
    rw [List.find?_eq_none] at hf
    exact absurd (by simp) (hf m hm)
  | some x =>
    obtain ⟨h1, h2⟩ := findN_some hf
    rw [h.same h1 hm h2]
theorem RC.nds (h : RC c w) : ndL c = w.nodes := by
  unfold ndL
  rw [h.nodes.ids, List.map_map, List.map_map]
  conv => rhs; rw [← List.map_id w.nodes]
  refine List.map_congr_left fun m hm => ?_
  show ndOf c m.1 = m
  unfold ndOf
  rw [h.getN, h.findN_mem hm]
  rfl
theorem RC.nl (h : RC c w) : c.N.length ≤ 1000000 := by have := h.nodes.room; omega
noncomputable abbrev lvW (w : Rc) (p : Pod) (n : Int) : List Int := loadV w p n []
theorem RC.lds (h : RC c w) (p : Pod) (hp : Sz p.2) : Lds c p (lvW w p) := ⟨h.ok, h.nl, hp, fun n => h.ld p n [] (by decide)⟩
theorem RC.tot_some (h : RC c w) {p : Pod} {n : Int} {s cap : List Int} (e : totS c p n (lvW w p n) = some (some s, cap)) : ∃ m, findN w.nodes n = some m ∧ GoodV p.2 ∧ s = List.zipWith (· + ·) (loadV w p n []) p.2 ∧ cap = m.2 := by
  rw [h.tot] at e
  cases hf : findN w.nodes n with
  | none => rw [hf] at e; cases e
  | some m =>
    rw [hf] at e
    dsimp only at e
    by_cases hw : 0 ≤ wrongS p.2 2
    · rw [if_pos hw] at e; cases e
    · rw [if_neg hw] at e
      have e' := Option.some.inj e
      exact ⟨m, rfl, goodV_of hw, (Option.some.inj (congrArg Prod.fst e')).symm, (congrArg Prod.snd e').symm⟩
theorem two_of {v : List Int} (h : v.length = 2) : v = [v.getD 0 0, v.getD 1 0] := by
  match v, h with
  | [a, b], _ => rfl
theorem zip_two {u v : List Int} (hu : u.length = 2) (hv : v.length = 2) : (List.zipWith (· + ·) u v).length = 2 := by simp [hu, hv]
theorem RC.rss (h : RC c w) (p : Pod) (hp : Sz p.2) : Rss c p (lvW w p) where
  toLds := h.lds p hp
  len n s cap e := by
    obtain ⟨m, hm, hg, rfl, rfl⟩ := h.tot_some e
    have hgn := h.gn m (findN_some hm).1
    exact ⟨by rw [zip_two (load_len w p n []) hg.1, hgn.1], fun x hx => (hgn.2 x hx).1⟩
  few n := by
    cases ht : totS c p n (lvW w p n) with
    | none => exact (by decide : ([] : List Int).length ≤ 1000000)
    | some x =>
      obtain ⟨o, cap⟩ := x
      cases o with
      | none => exact (by decide : ([] : List Int).length ≤ 1000000)
      | some s =>
        obtain ⟨m, hm, hg, rfl, rfl⟩ := h.tot_some ht
        show (List.zipWith _ _ _).length ≤ _
        rw [List.length_zipWith, zip_two (load_len w p n []) hg.1]
        omega
theorem idxQ_two (a b : Int) : idxQ [a, b] = if 0 < a then 0 else if 0 < b then 1 else -1 := by
  unfold idxQ
  by_cases ha : 0 < a
  · simp [List.findIdx_cons, ha]
  · by_cases hb : 0 < b <;> simp [List.findIdx_cons, ha, hb]
theorem RC.part (h : RC c w) {p : Pod} (hv : GoodV p.2) {m : Int × List Int} (hm : m ∈ w.nodes) :
    (fitsB c p (lvW w p) m = true ∧ rsn c p (lvW w p) m.1 = -1 ∧ B (FitsP p.2 m.2) = true) ∨ (fitsB c p (lvW w p) m = false ∧ 0 ≤ rsn c p (lvW w p) m.1 ∧ rsn c p (lvW w p) m.1 ≤ 1) := by
  have hgn := h.gn m hm
  have hb0 := load_bd h p m.1 [] 0
  have hb1 := load_bd h p m.1 [] 1
  have hl := two_of (load_len w p m.1 [])
  have ht : totS c p m.1 (lvW w p m.1) = some (some (List.zipWith (· + ·) (loadV w p m.1 []) p.2), m.2) := by
    rw [h.tot, h.findN_mem hm]
    dsimp only
    rw [if_neg hv.ok]
  have hs : List.zipWith (· + ·) (loadV w p m.1 []) p.2 = [(loadV w p m.1 []).getD 0 0 + p.2.getD 0 0, (loadV w p m.1 []).getD 1 0 + p.2.getD 1 0] := by
    conv => lhs; rw [hl, hv.two]
    rfl
  have hc := hgn.two
  obtain ⟨s0, e0⟩ : ∃ x, x = (loadV w p m.1 []).getD 0 0 + p.2.getD 0 0 := ⟨_, rfl⟩
  obtain ⟨s1, e1⟩ : ∃ x, x = (loadV w p m.1 []).getD 1 0 + p.2.getD 1 0 := ⟨_, rfl⟩
  rw [← e0, ← e1] at hs
  rw [hs] at ht
  unfold fitsB rsn
  rw [ht]
  have hF : ∀ u : List Int, u.length = 2 → (FitsP u m.2 ↔ u.getD 0 0 ≤ m.2.getD 0 0 ∧ u.getD 1 0 ≤ m.2.getD 1 0) := fun u hu => by
    constructor
    · intro hf
      exact ⟨hf.2 0 (by omega), hf.2 1 (by omega)⟩
    · intro hf
      refine ⟨by rw [hu, hgn.1], fun k hk => ?_⟩
      have hk2 : k = 0 ∨ k = 1 := by omega
      rcases hk2 with rfl | rfl
      · exact hf.1
      · exact hf.2
  have hI : idxQ (shortL (some (some [s0, s1], m.2))) = if 0 < max s0 (m.2.getD 0 0) - m.2.getD 0 0 then 0 else if 0 < max s1 (m.2.getD 1 0) - m.2.getD 1 0 then 1 else -1 := by
    conv => lhs; rw [hc]
    exact idxQ_two _ _
  rw [hI]
  show (B (FitsP [s0, s1] m.2) = true ∧ _) ∨ (B (FitsP [s0, s1] m.2) = false ∧ _)
  have g0 := hv.at 0
  have g1 := hv.at 1
  by_cases hf : FitsP [s0, s1] m.2
  · left
    have hf' := (hF [s0, s1] rfl).1 hf
    simp only [List.getD_cons_zero, List.getD_cons_succ] at hf'
    refine ⟨B_true hf, ?_, B_true ((hF p.2 hv.1).2 ⟨by omega, by omega⟩)⟩
    rw [if_neg (by omega), if_neg (by omega)]
  · right
    have hf' : ¬ (s0 ≤ m.2.getD 0 0 ∧ s1 ≤ m.2.getD 1 0) := fun x => hf ((hF [s0, s1] rfl).2 x)
    refine ⟨B_false hf, ?_⟩
    by_cases k0 : s0 ≤ m.2.getD 0 0
    · have k1 : ¬ s1 ≤ m.2.getD 1 0 := fun x => hf' ⟨k0, x⟩
      rw [if_neg (by omega), if_pos (by omega)]
      omega
    · rw [if_pos (by omega)]
      omega
theorem RC.parts (h : RC c w) {p : Pod} (hv : GoodV p.2) : (selN w.nodes (fitsB c p (lvW w p))).length + (rsL c p (lvW w p) w.nodes).length = w.nodes.length := by
  have key : ∀ N : List (Int × List Int), (∀ m ∈ N, m ∈ w.nodes) → (selN N (fitsB c p (lvW w p))).length + (rsL c p (lvW w p) N).length = N.length := fun N => by
    induction N with
    | nil => intro _; rfl
    | cons m N ih =>
      intro hm
      have ih' := ih fun x hx => hm x (by simp [hx])
      unfold selN rsL at ih' ⊢
      rw [List.length_map, List.length_map] at ih' ⊢
      rw [List.filter_cons, List.filter_cons]
      rcases h.part hv (hm m (by simp)) with ⟨a, b, _⟩ | ⟨a, b, _⟩
      · rw [a, if_pos rfl, if_neg (by simp [b])]
        simp only [List.length_cons]
        omega
      · rw [a, if_neg (by simp), if_pos (by simp [b])]
        simp only [List.length_cons]
        omega
  exact key w.nodes fun m hm => hm
theorem RC.rs_mem (h : RC c w) {p : Pod} (hv : GoodV p.2) {x : Int × Int} (hx : x ∈ rsL c p (lvW w p) w.nodes) : x.1 ∉ selN w.nodes (fitsB c p (lvW w p)) ∧ 0 ≤ x.2 ∧ x.2 ≤ 1 := by
  unfold rsL at hx
  obtain ⟨m, hm, rfl⟩ := List.mem_map.1 hx
  obtain ⟨hm1, hm2⟩ := List.mem_filter.1 hm
  have hr := of_decide_eq_true hm2
  rcases h.part hv hm1 with ⟨a, b, _⟩ | ⟨a, b, b2⟩
  · omega
  · refine ⟨fun hs => ?_, b, b2⟩
    unfold selN at hs
    obtain ⟨m', hm', e⟩ := List.mem_map.1 hs
    obtain ⟨q1, q2⟩ := List.mem_filter.1 hm'
    rw [h.same q1 hm1 e, a] at q2
    cases q2
theorem RC.ever (h : RC c w) {p : Pod} (hv : GoodV p.2) : everB p w.nodes = true ∨ selN w.nodes (fitsB c p (lvW w p)) = [] := by
  cases hs : selN w.nodes (fitsB c p (lvW w p)) with
  | nil => exact .inr rfl
  | cons x l =>
    left
    have hx : x ∈ selN w.nodes (fitsB c p (lvW w p)) := by rw [hs]; simp
    unfold selN at hx
    obtain ⟨m, hm, rfl⟩ := List.mem_map.1 hx
    obtain ⟨q1, q2⟩ := List.mem_filter.1 hm
    rcases h.part hv q1 with ⟨_, _, b⟩ | ⟨a, _⟩
    · unfold everB
      rw [List.any_eq_true]
      exact ⟨m, q1, b⟩
    · rw [a] at q2; cases q2
end
end Go.Proofs.YtcmhdpbmcgglmaaGreatDoor
end
section
set_option autoImplicit false
set_option linter.unusedVariables false
set_option linter.unusedSimpArgs false
namespace Go.Proofs.YtcmhdpbmcgglmaaGreatDoor
open Go.Abs
theorem nids_nil : PCall env 59 [.nilp] .nils := by
  refine acalls_of envOk Tryz.func59 rfl (by kernel_rfl) (m := 5) rfl ?_
  simp only [push_cast, simprocAttr, pods_length, nds_length, fP, pL]
  refine nnodes_nil.go (by first | exact ⟨.inl rfl, trivial⟩ | exact ⟨.inl rfl, .inl rfl, trivial⟩ | exact ⟨.inl rfl, .inl rfl, .inl rfl, trivial⟩ | simp [argsOk, argOk, sl, sll]) (WK.now ?_)
  simp only [push_cast, simprocAttr, pods_length, nds_length, fP, pL]
  refine idsE_nil.go (by first | exact ⟨.inl rfl, trivial⟩ | exact ⟨.inl rfl, .inl rfl, trivial⟩ | exact ⟨.inl rfl, .inl rfl, .inl rfl, trivial⟩ | simp [argsOk, argOk, sl, sll]) (WK.now ?_)
  simp only [push_cast, simprocAttr, pods_length, nds_length, fP, pL]
  refine WK.now ?_
  simp only [push_cast, simprocAttr, pods_length, nds_length, fP, pL]
theorem cnodes_nil : PCall env 16 [.nilp] .nils := by
  refine acalls_of envOk Tryz.func16 rfl (by kernel_rfl) (m := 28) rfl ?_
  simp only [push_cast, simprocAttr, pods_length, nds_length, fP, pL]
  refine cstate_nil.go (by first | exact ⟨.inl rfl, trivial⟩ | exact ⟨.inl rfl, .inl rfl, trivial⟩ | exact ⟨.inl rfl, .inl rfl, .inl rfl, trivial⟩ | simp [argsOk, argOk, sl, sll]) (WK.now ?_)
  simp only [push_cast, simprocAttr, pods_length, nds_length, fP, pL]
  refine nids_nil.go (by first | exact ⟨.inl rfl, trivial⟩ | exact ⟨.inl rfl, .inl rfl, trivial⟩ | exact ⟨.inl rfl, .inl rfl, .inl rfl, trivial⟩ | simp [argsOk, argOk, sl, sll]) (WK.now ?_)
  simp only [push_cast, simprocAttr, pods_length, nds_length, fP, pL]
  refine ALoop.mk (fun k t H ds => k = 0 ∧ t = [.d .nilp, .dead, .dead, .d .nils, .dead, .dead, .dead, .dead, .dead, .dead, .dead, .d .nils, .d (.int .i64 0), .d (.int .i64 0), .dead, .dead, .dead, .dead, .dead, .dead, .dead, .dead, .dead, .dead, .dead, .dead, .dead, .dead, .dead] ∧ H = [] ∧ ds = []) 0
    (WK.fgt (by simp [fgt, ints_length, intss_length]) (WK.now ⟨rfl, rfl, rfl, rfl⟩)) ?_
  rintro k t H ds ⟨rfl, rfl, rfl, rfl⟩
  simp only [push_cast, simprocAttr, pods_length, nds_length, fP, pL]
  refine WK.now ?_
  simp only [push_cast, simprocAttr, pods_length, nds_length, fP, pL]
theorem nodesN_ok (p : Pod) :
    ACalls env 82 [.d .nilp, .func 84 [.pvar 0 0]] [PV p] fun r H' => r = .func 126 [.pvar 1 0, .pvar 2 0] ∧
      H' = [PV p, .var [.d .nilp], .var [.func 84 [.pvar 0 0]]] := by
  refine acalls_of envOk Tryz.func82 rfl (by kernel_rfl) (m := 4) rfl ?_
  simp only [PV, push_cast, simprocAttr, pods_length, nds_length, fP, pL]
  refine WK.now ?_
  simp only [PV, push_cast, simprocAttr, pods_length, nds_length, fP, pL]
set_option maxRecDepth 8000 in
theorem ever_nil (p : Pod) : PCall env 42 [.nilp, fP p] (.bool false) := by
  have hf := nodesN_ok p
  refine acalls_of envOk Tryz.func42 rfl (by kernel_rfl) (m := 7) rfl ?_
  simp only [push_cast, simprocAttr, pods_length, nds_length, fP, pL]
  refine hf.at [0] (by simp [Ci, nF, PV, Tb, Ps, Psn, Ns, Cs, Csn, fP, pL, fE, errD, errF, pgetD, nodeD, sl, pods_length, nds_length, sbl, ren_none, ren_var, ren_arr, ren_map, ren_mapb, ren_iter, ren_loop, ren_defr, bel_none, bel_var, bel_arr, bel_map, bel_mapb, bel_iter, bel_loop, bel_defr, AV.renL, AV.ren, AV.belL, AV.bel, rn]) (by simp) (by simp [Ci, nF, PV, Tb, Ps, Psn, Ns, Cs, Csn, fP, pL, fE, errD, errF, pgetD, nodeD, sl, pods_length, nds_length]) (by simp [Ci, nF, PV, Tb, Ps, Psn, Ns, Cs, Csn, fP, pL, fE, errD, errF, pgetD, nodeD, sl, pods_length, nds_length, AV.ren, AV.renL, rn]) (by simp [AV.belL, AV.bel]) (WK.now ?_)
  simp only [PV, push_cast, simprocAttr, pods_length, nds_length, fP, pL]
  refine ARng.funcG (fun fn lo hlo => ?_)
  simp only [push_cast, simprocAttr, pods_length, nds_length, fP, pL]
  refine acalls_of envOk Tryz.func126 rfl (by kernel_rfl) (m := 21) rfl ?_
  simp only [push_cast, simprocAttr, pods_length, nds_length, fP, pL]
  refine cnodes_nil.go (by first | exact ⟨.inl rfl, trivial⟩ | exact ⟨.inl rfl, .inl rfl, trivial⟩ | exact ⟨.inl rfl, .inl rfl, .inl rfl, trivial⟩ | simp [argsOk, argOk, sl, sll]) (WK.now ?_)
  simp only [push_cast, simprocAttr, pods_length, nds_length, fP, pL]
  refine ALoop.mk (fun k t H ds => k = 0 ∧ t = [.yield 5, .pvar 2 0, .pvar 3 0, .dead, .dead, .dead, .dead, .d .nils, .d (.int .i64 0), .d (.int .i64 0), .dead, .dead, .dead, .dead, .dead, .dead, .dead, .dead, .dead, .dead, .dead, .dead, .dead, .dead] ∧ H = [PV p, .var [.d (.bool false)], .var [.d .nilp], .var [.func 84 [.pvar 0 0]], .defr, lo] ∧ ds = []) 0
    (WK.fgt (t' := [.yield 5, .pvar 2 0, .pvar 3 0, .dead, .dead, .dead, .dead, .d .nils, .d (.int .i64 0), .d (.int .i64 0), .dead, .dead, .dead, .dead, .dead, .dead, .dead, .dead, .dead, .dead, .dead, .dead, .dead, .dead]) (by simp [fgt, ints_length, intss_length]) (WK.now ⟨rfl, rfl, rfl, rfl⟩)) ?_
  rintro k t H ds ⟨rfl, rfl, rfl, rfl⟩
  simp only [PV, push_cast, simprocAttr, pods_length, nds_length, fP, pL]
  refine WK.now ?_
  simp only [push_cast, simprocAttr, pods_length, nds_length, fP, pL]
  subst hlo
  refine Krng.go rfl (WK.now ?_)
  simp only [push_cast, simprocAttr, pods_length, nds_length, fP, pL]
  refine WK.now ?_
  simp only [push_cast, simprocAttr, pods_length, nds_length, fP, pL]
end Go.Proofs.YtcmhdpbmcgglmaaGreatDoor
end
section
set_option autoImplicit false
set_option linter.unusedVariables false
set_option linter.unusedSimpArgs false
namespace Go.Proofs.YtcmhdpbmcgglmaaGreatDoor
open Go.Abs
set_option maxRecDepth 8000 in
theorem seq_ok (a b : List Int) (ha : Sz a) (hb : Sz b) : PCall env 43 [sl a, sl b] (.bool (B (a = b))) := by
  unfold sl
  unfold Sz at ha hb
  refine acalls_of envOk Tryz.func43 rfl (by kernel_rfl) (m := 24) rfl ?_
  simp only [push_cast, simprocAttr, pods_length, fP, pL]
  refine Kbr.mk (fun c => ?_) (fun c => ?_)
  · have c1 : ¬ a.length = b.length := by simp at c; omega
    rw [B_false (show ¬ a = b from fun e => c1 (by rw [e]))]
    simp only [push_cast, simprocAttr, pods_length, fP, pL]
    refine WK.now ?_
    simp only [push_cast, simprocAttr, pods_length, fP, pL]
  · have c1 : a.length = b.length := by simp at c; omega
    simp only [push_cast, simprocAttr, pods_length, fP, pL]
    refine ALoop.mk (fun k t H ds => ∃ i : Nat, k = a.length - i ∧ i ≤ a.length ∧ (∀ j, j < i → a.getD j 0 = b.getD j 0) ∧ t = [.d (.slice 1 (ints a)), .d (.slice 1 (ints b)), .dead, .dead, .dead, .dead, .dead, .dead, .dead, .dead, .dead, .dead, .d (.int .i64 a.length), .d (.int .i64 (i : Nat)), .dead, .dead, .dead, .dead, .dead, .dead, .dead, .dead, .dead, .dead, .dead, .dead] ∧ H = [] ∧ ds = []) a.length
      (WK.fgt (t' := [.d (.slice 1 (ints a)), .d (.slice 1 (ints b)), .dead, .dead, .dead, .dead, .dead, .dead, .dead, .dead, .dead, .dead, .d (.int .i64 a.length), .d (.int .i64 (0 : Nat)), .dead, .dead, .dead, .dead, .dead, .dead, .dead, .dead, .dead, .dead, .dead, .dead]) (by simp [fgt, ints_length, intss_length]) (WK.now ⟨0, by omega, by omega, by intro j hj; omega, rfl, rfl, rfl⟩)) ?_
    rintro k t H ds ⟨i, rfl, hi, hq, rfl, rfl, rfl⟩
    simp only [push_cast, simprocAttr, pods_length, fP, pL]
    refine Kbr.mk (fun d => ?_) (fun d => ?_)
    · have c2 : i < a.length := by simpa using d
      have c3 : i < b.length := by omega
      have si := succ64 c2 (show a.length ≤ 4611686018427387904 by omega)
      simp only [push_cast, simprocAttr, pods_length, fP, pL]
      refine DRegL.one (by unfold DrawOK; kernel_rfl) ?_
      simp only [c2, c3, cel_ints, push_cast, simprocAttr, pods_length, fP, pL]
      refine Kbr.mk (fun f => ?_) (fun f => ?_)
      · have c4 : ¬ a.getD i 0 = b.getD i 0 := by simpa using f
        rw [B_false (show ¬ a = b from fun e => c4 (by rw [e]))]
        simp only [push_cast, simprocAttr, pods_length, fP, pL]
        refine WK.now ?_
        simp only [push_cast, simprocAttr, pods_length, fP, pL]
      · have c4 : a.getD i 0 = b.getD i 0 := by simpa using f
        simp only [si, push_cast, simprocAttr, pods_length, fP, pL]
        exact ⟨a.length - (i + 1), by omega, WK.fgt (t' := [.d (.slice 1 (ints a)), .d (.slice 1 (ints b)), .dead, .dead, .dead, .dead, .dead, .dead, .dead, .dead, .dead, .dead, .d (.int .i64 a.length), .d (.int .i64 (i + 1 : Nat)), .dead, .dead, .dead, .dead, .dead, .dead, .dead, .dead, .dead, .dead, .dead, .dead]) (by simp [fgt, ints_length, intss_length]) (WK.now ⟨i + 1, rfl, by omega, below_succ hq c4, rfl, rfl, rfl⟩)⟩
    · have c2 : ¬ i < a.length := by simpa using d
      rw [B_true (show a = b from List.ext_getElem c1 fun j g1 g2 => by
        have := hq j (by omega)
        simpa [List.getD_eq_getElem?_getD, g1, g2] using this)]
      simp only [push_cast, simprocAttr, pods_length, fP, pL]
      refine WK.now ?_
      simp only [push_cast, simprocAttr, pods_length, fP, pL]
def gp : Pod := (⟨1, 0, false, 0, 0, 0, 0, 0⟩, [4])
def gq : Pod := (⟨0, 0, false, 0, 0, 0, 0, 0⟩, [9])
def gw1 : Cl := ⟨1, [], [], [(7, 7, [5], [0])]⟩
def gw2 : Cl := ⟨1, [], [], [(7, 7, [5], [0]), (3, 3, [2], [0])]⟩
theorem g_add1 : clAdd ⟨max 1 0, [], [], []⟩ 7 [5] = gw1 := by
  unfold clAdd naddL addL gw1
  have : wrongS [5] (max 1 0) = -1 := by decide
  simp only [this]
  rfl
theorem g_addE1 : naddE (max 1 0) 1024 [] 7 [5] = none := by
  unfold naddE
  have : wrongS [5] (max 1 0) = -1 := by decide
  rw [this]
  rfl
theorem g_add2 : clAdd gw1 3 [2] = gw2 := by
  unfold clAdd naddL addL gw2 gw1
  have : wrongS [2] 1 = -1 := by decide
  simp only [this]
  rfl
theorem g_addE2 : naddE gw1.d 1024 gw1.N 3 [2] = none := by
  unfold naddE
  have : wrongS [2] gw1.d = -1 := by decide
  rw [this]
  rfl
theorem g_two {k : Int} {e : Ent} (h : lget gw2.N k = some e) : e = (7, [5], [0]) ∨ e = (3, [2], [0]) := by
  have hm : (k, e) ∈ gw2.N := (lget_mem (by unfold NoDup gw2; decide)).1 h
  simp only [gw2, List.mem_cons, Prod.mk.injEq, List.not_mem_nil, or_false] at hm
  rcases hm with ⟨_, h⟩ | ⟨_, h⟩
  · exact .inl h
  · exact .inr h
theorem g_ok2 : ClOk gw2 := ⟨fun k p h => (by cases h), by unfold Sz; decide, fun k hk => (by cases hk), fun k e h => (by
  rcases g_two h with rfl | rfl
  · exact ⟨inR_of (by simp [I64]), inR_of (by simp [I64]), by unfold Sz; decide, by unfold Sz; decide⟩
  · exact ⟨inR_of (by simp [I64]), inR_of (by simp [I64]), by unfold Sz; decide, by unfold Sz; decide⟩), by decide, by decide, by decide, fun k p h => (by cases h)⟩
theorem g_seen (p : Pod) (n : Int) : seenL gw2 p n = [] := by
  unfold seenL keepL listed
  rfl
theorem g_sum : addS [[0]] = some [0] := by
  rw [addS_1 (by simp) (by decide) (by simp [I64, colV])]
  rfl
theorem g_sum2 : addS [[0], [0]] = some [0] := by
  rw [addS_1 (by simp) (by decide) (by simp [I64, colV])]
  rfl
theorem g_ld (p : Pod) (n : Int) : LdOk gw2 p n [] [0] := by
  refine ⟨g_ok2, by decide, by decide, ⟨[0], ?_, by unfold Sz; decide, inR_of (by simp [I64]), ?_⟩, by unfold Sz; decide, inR_of (by simp [I64]), fun hn q hq => ?_⟩
  · rw [g_seen]; exact g_sum
  · unfold loadR
    cases hn : (lget gw2.N n).isSome with
    | true => exact g_sum2
    | false => exact g_sum
  · unfold listed at hq
    cases hq
theorem g_nd : ndL gw2 = [(3, [2]), (7, [5])] := by
  unfold ndL
  have : srt (gw2.N.map (·.1)) = [3, 7] := srt_unique (List.Perm.swap 7 3 []) (by decide)
  rw [this]
  rfl
theorem g_lds (p : Pod) (hp : Sz p.2) : Lds gw2 p (fun _ => [0]) := ⟨g_ok2, by decide, hp, fun n => g_ld p n⟩
theorem g_tot (p : Pod) (n x cap : Int) (u : List Int) (hp : p.2 = [x]) (hw : wrongS [x] 1 = -1) (hx : I64 (0 + x)) (hn : lget gw2.N n = some (n, [cap], u)) : totS gw2 p n [0] = some (some [x], [cap]) := by
  unfold totS
  have h2 : wrongS p.2 gw2.d = -1 := by rw [hp]; exact hw
  rw [hn, h2]
  show some (addS [[0], p.2], [cap]) = _
  rw [hp, addS_two (u := [0]) (v := [x]) rfl (fun k hk => by obtain rfl : k = 0 := by simpa using hk
                                                             exact hx)]
  simp
theorem g_none (p : Pod) (n : Int) (hn : lget gw2.N n = none) : totS gw2 p n [0] = none := by
  unfold totS
  rw [hn]
theorem g_p3 : totS gw2 gp 3 [0] = some (some [4], [2]) := g_tot gp 3 4 2 [0] rfl (by decide) (by simp [I64]) rfl
theorem g_p7 : totS gw2 gp 7 [0] = some (some [4], [5]) := g_tot gp 7 4 5 [0] rfl (by decide) (by simp [I64]) rfl
theorem g_q3 : totS gw2 gq 3 [0] = some (some [9], [2]) := g_tot gq 3 9 2 [0] rfl (by decide) (by simp [I64]) rfl
theorem g_q7 : totS gw2 gq 7 [0] = some (some [9], [5]) := g_tot gq 7 9 5 [0] rfl (by decide) (by simp [I64]) rfl
theorem fits1 (a b : Int) : B (FitsP [a] [b]) = decide (a ≤ b) := by
  by_cases h : a ≤ b
  · rw [B_true ⟨rfl, fun k hk => by obtain rfl : k = 0 := by simpa using hk
                                    exact h⟩, decide_eq_true h]
  · rw [B_false fun x => h (x.2 0 (by simp)), decide_eq_false h]
theorem g_selp : selN (ndL gw2) (fitsB gw2 gp (fun _ => [0])) = [7] := by
  rw [g_nd]
  have h3 : fitsB gw2 gp (fun _ => [0]) (3, [2]) = false := by unfold fitsB; rw [g_p3]; exact fits1 4 2
  have h7 : fitsB gw2 gp (fun _ => [0]) (7, [5]) = true := by unfold fitsB; rw [g_p7]; exact fits1 4 5
  unfold selN
  rw [List.filter_cons, List.filter_cons, h3, h7]
  rfl
theorem g_selq : selN (ndL gw2) (fitsB gw2 gq (fun _ => [0])) = [] := by
  rw [g_nd]
  have h3 : fitsB gw2 gq (fun _ => [0]) (3, [2]) = false := by unfold fitsB; rw [g_q3]; exact fits1 9 2
  have h7 : fitsB gw2 gq (fun _ => [0]) (7, [5]) = false := by unfold fitsB; rw [g_q7]; exact fits1 9 5
  unfold selN
  rw [List.filter_cons, List.filter_cons, h3, h7]
  rfl
theorem g_r3 : rsn gw2 gp (fun _ => [0]) 3 = 0 := by unfold rsn; rw [g_p3]; rfl
theorem g_r7 : rsn gw2 gp (fun _ => [0]) 7 = -1 := by unfold rsn; rw [g_p7]; rfl
theorem g_rs : rsL gw2 gp (fun _ => [0]) (ndL gw2) = [(3, 0)] := by
  rw [g_nd]
  unfold rsL
  rw [List.filter_cons, List.filter_cons, g_r3, g_r7]
  simp [g_r3]
theorem g_rss : Rss gw2 gp (fun _ => [0]) where
  toLds := g_lds gp (by unfold Sz; decide)
  len n s cap e := by
    cases hn : lget gw2.N n with
    | none => rw [g_none _ _ hn] at e; cases e
    | some x =>
      have hk := (lget_mem (by unfold NoDup gw2; decide)).1 hn
      simp only [gw2, List.mem_cons, Prod.mk.injEq, List.not_mem_nil, or_false] at hk
      rcases hk with ⟨rfl, _⟩ | ⟨rfl, _⟩
      · rw [g_p7] at e; cases e; exact ⟨rfl, by decide⟩
      · rw [g_p3] at e; cases e; exact ⟨rfl, by decide⟩
  few n := by
    cases hn : lget gw2.N n with
    | none => rw [g_none _ _ hn]; decide
    | some x =>
      have hk := (lget_mem (by unfold NoDup gw2; decide)).1 hn
      simp only [gw2, List.mem_cons, Prod.mk.injEq, List.not_mem_nil, or_false] at hk
      rcases hk with ⟨rfl, _⟩ | ⟨rfl, _⟩
      · rw [g_p7]; decide
      · rw [g_p3]; decide
theorem g_ever : everB gp (ndL gw2) = true := by
  rw [g_nd]
  unfold everB
  rw [List.any_eq_true]
  exact ⟨(7, [5]), by simp, fits1 4 5⟩
set_option maxRecDepth 8000 in
set_option maxHeartbeats 1000000 in
theorem awake17_ok : PCall env 36 [] (.bool true) := by
  have hfp := first_ok (g_lds gp (by unfold Sz; decide))
  have hfq := first_ok (g_lds gq (by unfold Sz; decide))
  have hnp := fnodes_ok (g_lds gp (by unfold Sz; decide))
  have hr := reason_ok g_rss 3
  have hrs := reasons_ok g_rss
  have hev := ever_ok (c := gw2) (p := gp) g_ok2 (by decide) (by unfold Sz; decide) (inR_of (by simp [I64, gp])) (by
    rw [g_nd]
    intro j hj
    have : j = 0 ∨ j = 1 := by have : j < 2 := hj; omega
    rcases this with rfl | rfl <;> exact inR_of (by simp [I64]))
  rw [g_selp] at hfp hnp
  rw [g_selq] at hfq
  rw [g_r3, show max (0 : Int) 0 = 0 from rfl] at hr
  rw [g_rs] at hrs
  rw [g_ever] at hev
  refine acalls_of envOk Tryz.func36 rfl (by kernel_rfl) (m := 96) rfl ?_
  simp only [push_cast, simprocAttr, pods_length, fP, pL]
  refine (cnew_ok 1).at [] (by simp [gp, gq, Ci, nF, PV, Tb, Ps, Psn, Ns, Cs, Csn, fP, pL, fE, errD, errF, pgetD, nodeD, sl, pods_length, nds_length, sbl, ren_none, ren_var, ren_arr, ren_map, ren_mapb, ren_iter, ren_loop, ren_defr, bel_none, bel_var, bel_arr, bel_map, bel_mapb, bel_iter, bel_loop, bel_defr, AV.renL, AV.ren, AV.belL, AV.bel, rn]) (by simp) (by simp [gp, gq, Ci, nF, PV, Tb, Ps, Psn, Ns, Cs, Csn, fP, pL, fE, errD, errF, pgetD, nodeD, sl, pods_length, nds_length]) (by simp [gp, gq, Ci, nF, PV, Tb, Ps, Psn, Ns, Cs, Csn, fP, pL, fE, errD, errF, pgetD, nodeD, sl, pods_length, nds_length, AV.ren, AV.renL, rn]) (by simp [AV.belL, AV.bel]) (WK.now ?_)
  simp only [Cs, ints_one, push_cast, simprocAttr, pods_length, fP, pL]
  refine ACalls.lowA ?_
  simp only [AV.lowA, push_cast, simprocAttr, pods_length, fP, pL]
  refine (cadd_ok ⟨max 1 0, [], [], []⟩ 7 [5] (by decide) (by decide) (by decide)).at [0, 1, 2, 3, 4, 5, 6, 7] (by simp [gp, gq, Ci, nF, PV, Tb, Ps, Psn, Ns, Cs, Csn, fP, pL, fE, errD, errF, pgetD, nodeD, sl, pods_length, nds_length, sbl, ren_none, ren_var, ren_arr, ren_map, ren_mapb, ren_iter, ren_loop, ren_defr, bel_none, bel_var, bel_arr, bel_map, bel_mapb, bel_iter, bel_loop, bel_defr, AV.renL, AV.ren, AV.belL, AV.bel, rn]) (by simp) (by simp [gp, gq, Ci, nF, PV, Tb, Ps, Psn, Ns, Cs, Csn, fP, pL, fE, errD, errF, pgetD, nodeD, sl, pods_length, nds_length]) (by simp [gp, gq, Ci, nF, PV, Tb, Ps, Psn, Ns, Cs, Csn, fP, pL, fE, errD, errF, pgetD, nodeD, sl, pods_length, nds_length, AV.ren, AV.renL, rn]) (by simp [AV.belL, AV.bel]) (WK.now ?_)
  rw [g_add1]
  simp only [g_addE1, errF, Cs, ints_one, push_cast, simprocAttr, pods_length, fP, pL]
  refine ACalls.lowA ?_
  simp only [AV.lowA, push_cast, simprocAttr, pods_length, fP, pL]
  refine (cadd_ok gw1 3 [2] (by decide) (by decide) (by decide)).at [0, 1, 2, 3, 4, 5, 6, 7] (by simp [gp, gq, Ci, nF, PV, Tb, Ps, Psn, Ns, Cs, Csn, fP, pL, fE, errD, errF, pgetD, nodeD, sl, pods_length, nds_length, sbl, ren_none, ren_var, ren_arr, ren_map, ren_mapb, ren_iter, ren_loop, ren_defr, bel_none, bel_var, bel_arr, bel_map, bel_mapb, bel_iter, bel_loop, bel_defr, AV.renL, AV.ren, AV.belL, AV.bel, rn]) (by simp) (by simp [gp, gq, Ci, nF, PV, Tb, Ps, Psn, Ns, Cs, Csn, fP, pL, fE, errD, errF, pgetD, nodeD, sl, pods_length, nds_length]) (by simp [gp, gq, Ci, nF, PV, Tb, Ps, Psn, Ns, Cs, Csn, fP, pL, fE, errD, errF, pgetD, nodeD, sl, pods_length, nds_length, AV.ren, AV.renL, rn]) (by simp [AV.belL, AV.bel]) (WK.now ?_)
  rw [g_add2]
  simp only [g_addE2, errF, Cs, ints_one, push_cast, simprocAttr, pods_length, fP, pL]
  refine ACalls.lowA ?_
  simp only [AV.lowA, push_cast, simprocAttr, pods_length, fP, pL]
  refine hfp.at [0, 1, 2, 3, 4, 5, 6, 7] (by simp [gp, gq, Ci, nF, PV, Tb, Ps, Psn, Ns, Cs, Csn, fP, pL, fE, errD, errF, pgetD, nodeD, sl, pods_length, nds_length, sbl, ren_none, ren_var, ren_arr, ren_map, ren_mapb, ren_iter, ren_loop, ren_defr, bel_none, bel_var, bel_arr, bel_map, bel_mapb, bel_iter, bel_loop, bel_defr, AV.renL, AV.ren, AV.belL, AV.bel, rn]) (by simp) (by simp [gp, gq, Ci, nF, PV, Tb, Ps, Psn, Ns, Cs, Csn, fP, pL, fE, errD, errF, pgetD, nodeD, sl, pods_length, nds_length]) (by simp [gp, gq, Ci, nF, PV, Tb, Ps, Psn, Ns, Cs, Csn, fP, pL, fE, errD, errF, pgetD, nodeD, sl, pods_length, nds_length, AV.ren, AV.renL, rn]) (by simp [AV.belL, AV.bel]) (WK.svaldat 8 4 rfl rfl (WK.now ?_))
  simp only [Cs, fstD, push_cast, simprocAttr, pods_length, fP, pL]
  refine hr.at [0, 1, 2, 3, 4, 5, 6, 7] (by simp [gp, gq, Ci, nF, PV, Tb, Ps, Psn, Ns, Cs, Csn, fP, pL, fE, errD, errF, pgetD, nodeD, sl, pods_length, nds_length, sbl, ren_none, ren_var, ren_arr, ren_map, ren_mapb, ren_iter, ren_loop, ren_defr, bel_none, bel_var, bel_arr, bel_map, bel_mapb, bel_iter, bel_loop, bel_defr, AV.renL, AV.ren, AV.belL, AV.bel, rn]) (by simp) (by simp [gp, gq, Ci, nF, PV, Tb, Ps, Psn, Ns, Cs, Csn, fP, pL, fE, errD, errF, pgetD, nodeD, sl, pods_length, nds_length]) (by simp [gp, gq, Ci, nF, PV, Tb, Ps, Psn, Ns, Cs, Csn, fP, pL, fE, errD, errF, pgetD, nodeD, sl, pods_length, nds_length, AV.ren, AV.renL, rn]) (by simp [AV.belL, AV.bel]) (WK.now ?_)
  simp only [Cs, ints_one, push_cast, simprocAttr, pods_length, fP, pL]
  refine ACalls.lowA ?_
  simp only [AV.lowA, push_cast, simprocAttr, pods_length, fP, pL]
  refine hfq.at [0, 1, 2, 3, 4, 5, 6, 7] (by simp [gp, gq, Ci, nF, PV, Tb, Ps, Psn, Ns, Cs, Csn, fP, pL, fE, errD, errF, pgetD, nodeD, sl, pods_length, nds_length, sbl, ren_none, ren_var, ren_arr, ren_map, ren_mapb, ren_iter, ren_loop, ren_defr, bel_none, bel_var, bel_arr, bel_map, bel_mapb, bel_iter, bel_loop, bel_defr, AV.renL, AV.ren, AV.belL, AV.bel, rn]) (by simp) (by simp [gp, gq, Ci, nF, PV, Tb, Ps, Psn, Ns, Cs, Csn, fP, pL, fE, errD, errF, pgetD, nodeD, sl, pods_length, nds_length]) (by simp [gp, gq, Ci, nF, PV, Tb, Ps, Psn, Ns, Cs, Csn, fP, pL, fE, errD, errF, pgetD, nodeD, sl, pods_length, nds_length, AV.ren, AV.renL, rn]) (by simp [AV.belL, AV.bel]) (WK.now ?_)
  simp only [Cs, fstD, push_cast, simprocAttr, pods_length, fP, pL]
  refine hrs.at [0, 1, 2, 3, 4, 5, 6, 7] (by simp [gp, gq, Ci, nF, PV, Tb, Ps, Psn, Ns, Cs, Csn, fP, pL, fE, errD, errF, pgetD, nodeD, sl, pods_length, nds_length, sbl, ren_none, ren_var, ren_arr, ren_map, ren_mapb, ren_iter, ren_loop, ren_defr, bel_none, bel_var, bel_arr, bel_map, bel_mapb, bel_iter, bel_loop, bel_defr, AV.renL, AV.ren, AV.belL, AV.bel, rn]) (by simp) (by simp [gp, gq, Ci, nF, PV, Tb, Ps, Psn, Ns, Cs, Csn, fP, pL, fE, errD, errF, pgetD, nodeD, sl, pods_length, nds_length]) (by simp [gp, gq, Ci, nF, PV, Tb, Ps, Psn, Ns, Cs, Csn, fP, pL, fE, errD, errF, pgetD, nodeD, sl, pods_length, nds_length, AV.ren, AV.renL, rn]) (by simp [AV.belL, AV.bel]) (WK.now ?_)
  simp only [Cs, prs, push_cast, simprocAttr, pods_length, fP, pL]
  refine hnp.at [0, 1, 2, 3, 4, 5, 6, 7] (by simp [gp, gq, Ci, nF, PV, Tb, Ps, Psn, Ns, Cs, Csn, fP, pL, fE, errD, errF, pgetD, nodeD, sl, pods_length, nds_length, sbl, ren_none, ren_var, ren_arr, ren_map, ren_mapb, ren_iter, ren_loop, ren_defr, bel_none, bel_var, bel_arr, bel_map, bel_mapb, bel_iter, bel_loop, bel_defr, AV.renL, AV.ren, AV.belL, AV.bel, rn]) (by simp) (by simp [gp, gq, Ci, nF, PV, Tb, Ps, Psn, Ns, Cs, Csn, fP, pL, fE, errD, errF, pgetD, nodeD, sl, pods_length, nds_length]) (by simp [gp, gq, Ci, nF, PV, Tb, Ps, Psn, Ns, Cs, Csn, fP, pL, fE, errD, errF, pgetD, nodeD, sl, pods_length, nds_length, AV.ren, AV.renL, rn]) (by simp [AV.belL, AV.bel]) (WK.now ?_)
  simp only [Cs, ints_one, push_cast, simprocAttr, pods_length, fP, pL]
  refine (seq_ok [7] [7] (by unfold Sz; decide) (by unfold Sz; decide)).go (by simp [argsOk, argOk, sl, sll, ints, intss]) (WK.now ?_)
  simp only [B_true (show ([7] : List Int) = [7] from rfl), push_cast, simprocAttr, pods_length, fP, pL]
  have hsg : seg [[D.int .i64 3, D.int .i64 0]] 0 0 2 = [D.int .i64 3, D.int .i64 0] := rfl
  rw [hsg]
  refine ⟨rfl, ?_⟩
  rw [show (skeqL [D.int .i64 3, D.int .i64 0] [D.int .i64 3, D.int .i64 0] == true) = true from rfl]
  simp only [hsg, push_cast, simprocAttr, pods_length, fP, pL]
  refine hev.at [0, 1, 2, 3, 4, 5, 6, 7] (by simp [gp, gq, Ci, nF, PV, Tb, Ps, Psn, Ns, Cs, Csn, fP, pL, fE, errD, errF, pgetD, nodeD, sl, pods_length, nds_length, sbl, ren_none, ren_var, ren_arr, ren_map, ren_mapb, ren_iter, ren_loop, ren_defr, bel_none, bel_var, bel_arr, bel_map, bel_mapb, bel_iter, bel_loop, bel_defr, AV.renL, AV.ren, AV.belL, AV.bel, rn]) (by simp) (by simp [gp, gq, Ci, nF, PV, Tb, Ps, Psn, Ns, Cs, Csn, fP, pL, fE, errD, errF, pgetD, nodeD, sl, pods_length, nds_length]) (by simp [gp, gq, Ci, nF, PV, Tb, Ps, Psn, Ns, Cs, Csn, fP, pL, fE, errD, errF, pgetD, nodeD, sl, pods_length, nds_length, AV.ren, AV.renL, rn]) (by simp [AV.belL, AV.bel]) (WK.now ?_)
  simp only [Cs, push_cast, simprocAttr, pods_length, fP, pL]
  refine (ever_nil gp).go ⟨.inl rfl, .inl rfl, trivial⟩ (WK.now ?_)
  simp only [push_cast, simprocAttr, pods_length, fP, pL]
  refine WK.now ?_
  simp only [push_cast, simprocAttr, pods_length, fP, pL]
end Go.Proofs.YtcmhdpbmcgglmaaGreatDoor
end
