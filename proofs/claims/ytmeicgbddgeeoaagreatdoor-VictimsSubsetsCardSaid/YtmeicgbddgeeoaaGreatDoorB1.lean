/-
  The walks of a table's functions at the elements nodes: what each makes of the table, by value.
  A table's Set and Remove at the elements nodes.
  The ids of a table of nodes, in order.
  The walks of a table's functions at the elements pods: what each makes of the table, by value.
  A table's Set at the elements pods.
  Sums and differences of two vectors, in plain words; what a change makes of the nodes.
  The walks of the package node: what each function makes of a store.
  A cluster and the reference's, by value; that they stay related.
  The operations keep a cluster and the reference's related.
  Placing and changing keep a cluster and the reference's related.
  Sums of many vectors, in plain words.
-/
import Derived.Test.YtmeicgbddgeeoaaGreatDoorB0
import Derived.Test.YtmeicgbddgeeoaaGreatDoorA3
import Derived.Test.YtmeicgbddgeeoaaGreatDoorA4
section
set_option autoImplicit false
set_option linter.unusedVariables false
set_option linter.unusedSimpArgs false
namespace Go.Proofs.YtmeicgbddgeeoaaGreatDoor
open Go.Abs
theorem newE_ok (n : Int) : ACalls env 115 [.d (.int .i64 n)] [] fun r H' => r = .pvar 1 0 ∧ H' = Tb fE (max n 0) [] := by
 refine acalls_of envOk Tryz.func115 rfl (by kernel_rfl) (m := 7) rfl ?_
 simp only [push_cast, simprocAttr, key3, entE_get, entE_all, entE_put, entE_del, entE_length, isIntK_int, QasgL_normal, fE]
 refine WK.now ?_
 simp only [push_cast, simprocAttr, key3, entE_get, entE_all, entE_put, entE_del, entE_length, isIntK_int, QasgL_normal, fE]
 rfl
def gotE (L : List (Int × (Ent))) (k : Int) : D := .tup [((lget L k).map fE).getD (.agg [.int .i64 0, .nils, .nils]), .bool (lget L k).isSome]
theorem getE_ok (sz : Int) (L : List (Int × (Ent))) (k : Int) : ACalls env 165 [.pvar 1 0, .d (.int .i64 k)] (Tb fE sz L) fun r H' => r = .d (gotE L k) ∧ H' = Tb fE sz L := by
 unfold Tb
 refine ACalls.cutTo [0, 1] rfl ?_ (fun l => by simp [Tb, sbl, ren_none, ren_var, ren_arr, ren_map, ren_mapb, ren_iter, ren_loop, ren_defr, bel_none, bel_var, bel_arr, bel_map, bel_mapb, bel_iter, bel_loop, bel_defr, AV.renL, AV.ren, AV.belL, AV.bel, rn]) (fun m => by simp [tellL, AV.ren, AV.renL, AV.bel, AV.belL, rn])
 refine acalls_of envOk Tryz.func165 rfl (by kernel_rfl) (m := 21) rfl ?_
 cases hl : lget L k with
 | none =>
  simp only [hl, Option.map_none, Option.getD_none, Option.isSome_none, push_cast, simprocAttr, key3, entE_get, entE_all, entE_put, entE_del, entE_length, isIntK_int, QasgL_normal, fE]
  refine WK.now ?_
  simp only [gotE, hl, Option.map_none, Option.getD_none, Option.isSome_none, push_cast, simprocAttr, key3, entE_get, entE_all, entE_put, entE_del, entE_length, isIntK_int, QasgL_normal, fE]
  first | done | exact ⟨_, rfl⟩ | exact ⟨rfl, _, rfl⟩
 | some v =>
  simp only [hl, Option.map_some, Option.getD_some, Option.isSome_some, push_cast, simprocAttr, key3, entE_get, entE_all, entE_put, entE_del, entE_length, isIntK_int, QasgL_normal, fE]
  refine WK.now ?_
  simp only [gotE, hl, Option.map_some, Option.getD_some, Option.isSome_some, push_cast, simprocAttr, key3, entE_get, entE_all, entE_put, entE_del, entE_length, isIntK_int, QasgL_normal, fE]
  first | done | exact ⟨_, rfl⟩ | exact ⟨rfl, _, rfl⟩
theorem getE_nil (k : Int) : PCall env 165 [.nilp, .int .i64 k] (.tup [.agg [.int .i64 0, .nils, .nils], .bool false]) := by
 refine acalls_of envOk Tryz.func165 rfl (by kernel_rfl) (m := 21) rfl ?_
 simp only [push_cast, simprocAttr, key3, entE_get, entE_all, entE_put, entE_del, entE_length, isIntK_int, QasgL_normal, fE]
 refine WK.now ?_
 simp only [fE, push_cast, simprocAttr, key3, entE_get, entE_all, entE_put, entE_del, entE_length, isIntK_int, QasgL_normal, fE]
theorem hasE_ok (sz : Int) (L : List (Int × (Ent))) (k : Int) : ACalls env 152 [.pvar 1 0, .d (.int .i64 k)] (Tb fE sz L) fun r H' => r = .d (.bool (lget L k).isSome) ∧ H' = Tb fE sz L := by
 refine ACalls.cutTo [0, 1] rfl ?_ (fun l => by simp [Tb, sbl, ren_none, ren_var, ren_arr, ren_map, ren_mapb, ren_iter, ren_loop, ren_defr, bel_none, bel_var, bel_arr, bel_map, bel_mapb, bel_iter, bel_loop, bel_defr, AV.renL, AV.ren, AV.belL, AV.bel, rn]) (fun m => by simp [tellL, AV.ren, AV.renL, AV.bel, AV.belL, rn])
 refine acalls_of envOk Tryz.func152 rfl (by kernel_rfl) (m := 12) rfl ?_
 simp only [push_cast, simprocAttr, key3, entE_get, entE_all, entE_put, entE_del, entE_length, isIntK_int, QasgL_normal, fE]
 refine (getE_ok sz L k).thus (WK.now ?_)
 cases hl : lget L k with
 | none =>
  simp only [Tb, gotE, hl, Option.map_none, Option.getD_none, Option.isSome_none, push_cast, simprocAttr, key3, entE_get, entE_all, entE_put, entE_del, entE_length, isIntK_int, QasgL_normal, fE]
  refine WK.now ?_
  simp only [Tb, push_cast, simprocAttr, key3, entE_get, entE_all, entE_put, entE_del, entE_length, isIntK_int, QasgL_normal, fE]
  first | done | exact ⟨_, rfl⟩ | exact ⟨rfl, _, rfl⟩
 | some v =>
  simp only [Tb, gotE, hl, Option.map_some, Option.getD_some, Option.isSome_some, push_cast, simprocAttr, key3, entE_get, entE_all, entE_put, entE_del, entE_length, isIntK_int, QasgL_normal, fE]
  refine WK.now ?_
  simp only [Tb, push_cast, simprocAttr, key3, entE_get, entE_all, entE_put, entE_del, entE_length, isIntK_int, QasgL_normal, fE]
  first | done | exact ⟨_, rfl⟩ | exact ⟨rfl, _, rfl⟩
theorem roomE_ok (sz : Int) (L : List (Int × (Ent))) (h : 0 ≤ sz ∧ sz ≤ 9223372036854775807 ∧ L.length ≤ 4611686018427387904) : ACalls env 153 [.pvar 1 0] (Tb fE sz L) fun r H' => r = .d (.int .i64 (sz - L.length)) ∧ H' = Tb fE sz L := by
 unfold Tb
 refine acalls_of envOk Tryz.func153 rfl (by kernel_rfl) (m := 14) rfl ?_
 simp only [push_cast, simprocAttr, key3, entE_get, entE_all, entE_put, entE_del, entE_length, isIntK_int, QasgL_normal, fE]
 refine DRegL.one (by unfold DrawOK; kernel_rfl) ?_
 simp only [wrapi (show -9223372036854775808 ≤ sz - (L.length : Int) by omega) (show sz - (L.length : Int) ≤ 9223372036854775807 by omega), push_cast, simprocAttr, key3, entE_get, entE_all, entE_put, entE_del, entE_length, isIntK_int, QasgL_normal, fE]
 refine WK.now ?_
 simp only [push_cast, simprocAttr, key3, entE_get, entE_all, entE_put, entE_del, entE_length, isIntK_int, QasgL_normal, fE]
theorem entE_putE (L : List (Int × (Ent))) (k : Int) (v : Ent) : dput (entE fE L) (.int .i64 k) (.agg [.int .i64 v.1, .slice 1 (ints v.2.1), .slice 1 (ints v.2.2)]) = entE fE (lput L k v) := entE_put fE L k v
theorem addE_ok (sz : Int) (L : List (Int × (Ent))) (k : Int) (v : Ent) (h : 0 ≤ sz ∧ sz ≤ 9223372036854775807 ∧ L.length ≤ 4611686018427387904) :
  ACalls env 118 [.pvar 1 0, .d (.int .i64 k), .d (fE v)] (Tb fE sz L) fun r H' => r = .d (errD (addE sz L k)) ∧ H' = Tb fE sz (addL sz L k v) := by
 refine ACalls.cutTo [0, 1] rfl ?_ (fun l => by simp [Tb, sbl, ren_none, ren_var, ren_arr, ren_map, ren_mapb, ren_iter, ren_loop, ren_defr, bel_none, bel_var, bel_arr, bel_map, bel_mapb, bel_iter, bel_loop, bel_defr, AV.renL, AV.ren, AV.belL, AV.bel, rn]) (fun m => by simp [tellL, AV.ren, AV.renL, AV.bel, AV.belL, rn])
 refine acalls_of envOk Tryz.func118 rfl (by kernel_rfl) (m := 24) rfl ?_
 simp only [Tb, push_cast, simprocAttr, key3, entE_get, entE_all, entE_put, entE_del, entE_length, isIntK_int, QasgL_normal, fE]
 refine (hasE_ok sz L k).at [0, 1] (by simp [Tb, sbl, ren_none, ren_var, ren_arr, ren_map, ren_mapb, ren_iter, ren_loop, ren_defr, bel_none, bel_var, bel_arr, bel_map, bel_mapb, bel_iter, bel_loop, bel_defr, AV.renL, AV.ren, AV.belL, AV.bel, rn]) (by simp) (by simp [Tb]) (by simp [Tb, AV.ren, AV.renL, rn]) (by simp [AV.belL, AV.bel]) (WK.now ?_)
 simp only [Tb, push_cast, simprocAttr, key3, entE_get, entE_all, entE_put, entE_del, entE_length, isIntK_int, QasgL_normal, fE]
 refine Kbr.mk (fun c => ?_) (fun c => ?_)
 ·simp only [push_cast, simprocAttr, key3, entE_get, entE_all, entE_put, entE_del, entE_length, isIntK_int, QasgL_normal, fE]
  refine WK.now ?_
  simp only [Tb, addE, addL, c, errD, push_cast, simprocAttr, key3, entE_get, entE_all, entE_put, entE_del, entE_length, isIntK_int, QasgL_normal, fE]
  first | done | exact ⟨_, rfl⟩ | exact ⟨rfl, _, rfl⟩
 ·simp only [push_cast, simprocAttr, key3, entE_get, entE_all, entE_put, entE_del, entE_length, isIntK_int, QasgL_normal, fE]
  refine (roomE_ok sz L h).at [0, 1] (by simp [Tb, sbl, ren_none, ren_var, ren_arr, ren_map, ren_mapb, ren_iter, ren_loop, ren_defr, bel_none, bel_var, bel_arr, bel_map, bel_mapb, bel_iter, bel_loop, bel_defr, AV.renL, AV.ren, AV.belL, AV.bel, rn]) (by simp) (by simp [Tb]) (by simp [Tb, AV.ren, AV.renL, rn]) (by simp [AV.belL, AV.bel]) (WK.now ?_)
  simp only [Tb, push_cast, simprocAttr, key3, entE_get, entE_all, entE_put, entE_del, entE_length, isIntK_int, QasgL_normal, fE]
  refine Kbr.mk (fun c2 => ?_) (fun c2 => ?_)
  ·have e : sz = L.length := by have := of_decide_eq_true c2; omega
   simp only [push_cast, simprocAttr, key3, entE_get, entE_all, entE_put, entE_del, entE_length, isIntK_int, QasgL_normal, fE]
   refine WK.now ?_
   simp [addE, addL, c, errD, e, Tb, Kfin, allDefr, offs, aresL, Kone, one?]
  ·have e : ¬ sz = L.length := by have := of_decide_eq_false c2; omega
   simp only [Tb, entE_putE, push_cast, simprocAttr, key3, entE_get, entE_all, entE_put, entE_del, entE_length, isIntK_int, QasgL_normal, fE]
   try refine DRegL.one (by unfold DrawOK; kernel_rfl) ?_
   try simp only [Tb, entE_putE, push_cast, simprocAttr, key3, entE_get, entE_all, entE_put, entE_del, entE_length, isIntK_int, QasgL_normal, fE]
   refine WK.now ?_
   simp [addE, addL, c, errD, e, Tb, Kfin, allDefr, offs, aresL, Kone, one?]
end Go.Proofs.YtmeicgbddgeeoaaGreatDoor
end
section
set_option autoImplicit false
set_option linter.unusedVariables false
set_option linter.unusedSimpArgs false
namespace Go.Proofs.YtmeicgbddgeeoaaGreatDoor
open Go.Abs
theorem setE_ok (sz : Int) (L : List (Int × (Ent))) (k : Int) (v : Ent) :
  ACalls env 181 [.pvar 1 0, .d (.int .i64 k), .d (fE v)] (Tb fE sz L) fun r H' => r = .d (errD (setE L k)) ∧ H' = Tb fE sz (setL L k v) := by
 refine ACalls.cutTo [0, 1] rfl ?_ (fun l => by simp [Tb, sbl, ren_none, ren_var, ren_arr, ren_map, ren_mapb, ren_iter, ren_loop, ren_defr, bel_none, bel_var, bel_arr, bel_map, bel_mapb, bel_iter, bel_loop, bel_defr, AV.renL, AV.ren, AV.belL, AV.bel, rn]) (fun m => by simp [tellL, AV.ren, AV.renL, AV.bel, AV.belL, rn])
 refine acalls_of envOk Tryz.func181 rfl (by kernel_rfl) (m := 15) rfl ?_
 simp only [Tb, push_cast, simprocAttr, key3, entE_get, entE_all, entE_put, entE_del, entE_length, isIntK_int, QasgL_normal, fE]
 refine (hasE_ok sz L k).at [0, 1] (by simp [Tb, sbl, ren_none, ren_var, ren_arr, ren_map, ren_mapb, ren_iter, ren_loop, ren_defr, bel_none, bel_var, bel_arr, bel_map, bel_mapb, bel_iter, bel_loop, bel_defr, AV.renL, AV.ren, AV.belL, AV.bel, rn]) (by simp) (by simp [Tb]) (by simp [Tb, AV.ren, AV.renL, rn]) (by simp [AV.belL, AV.bel]) (WK.now ?_)
 simp only [Tb, push_cast, simprocAttr, key3, entE_get, entE_all, entE_put, entE_del, entE_length, isIntK_int, QasgL_normal, fE]
 refine Kbr.mk (fun c => ?_) (fun c => ?_)
 ·have c : (lget L k).isSome = false := by simpa using c
  simp only [push_cast, simprocAttr, key3, entE_get, entE_all, entE_put, entE_del, entE_length, isIntK_int, QasgL_normal, fE]
  refine WK.now ?_
  simp only [Tb, setE, setL, c, errD, push_cast, simprocAttr, key3, entE_get, entE_all, entE_put, entE_del, entE_length, isIntK_int, QasgL_normal, fE]
  simp [Tb, setE, setL, c, errD, Kfin, allDefr, offs, aresL, Kone, one?]
 ·have c : (lget L k).isSome = true := by simpa using c
  simp only [Tb, entE_putE, push_cast, simprocAttr, key3, entE_get, entE_all, entE_put, entE_del, entE_length, isIntK_int, QasgL_normal, fE]
  try refine DRegL.one (by unfold DrawOK; kernel_rfl) ?_
  try simp only [Tb, entE_putE, push_cast, simprocAttr, key3, entE_get, entE_all, entE_put, entE_del, entE_length, isIntK_int, QasgL_normal, fE]
  refine WK.now ?_
  simp [Tb, setE, setL, c, errD, Kfin, allDefr, offs, aresL, Kone, one?]
end Go.Proofs.YtmeicgbddgeeoaaGreatDoor
end
section
set_option autoImplicit false
set_option linter.unusedVariables false
set_option linter.unusedSimpArgs false
namespace Go.Proofs.YtmeicgbddgeeoaaGreatDoor
open Go.Abs
end Go.Proofs.YtmeicgbddgeeoaaGreatDoor
end
section
set_option autoImplicit false
set_option linter.unusedVariables false
set_option linter.unusedSimpArgs false
namespace Go.Proofs.YtmeicgbddgeeoaaGreatDoor
open Go.Abs
theorem newP_ok (n : Int) : ACalls env 114 [.d (.int .i64 n)] [] fun r H' => r = .pvar 1 0 ∧ H' = Tb fP (max n 0) [] := by
 refine acalls_of envOk Tryz.func114 rfl (by kernel_rfl) (m := 7) rfl ?_
 simp only [push_cast, simprocAttr, key3, entE_get, entE_all, entE_put, entE_del, entE_length, isIntK_int, QasgL_normal, fP, pL]
 refine WK.now ?_
 simp only [push_cast, simprocAttr, key3, entE_get, entE_all, entE_put, entE_del, entE_length, isIntK_int, QasgL_normal, fP, pL]
 rfl
def gotP (L : List (Int × (Pod))) (k : Int) : D := .tup [((lget L k).map fP).getD (.agg [.int .i64 0, .int .i64 0, .bool false, .int .i64 0, .nils, .int .i64 0, .int .i64 0, .int .i64 0, .int .i64 0]), .bool (lget L k).isSome]
theorem getP_ok (sz : Int) (L : List (Int × (Pod))) (k : Int) : ACalls env 160 [.pvar 1 0, .d (.int .i64 k)] (Tb fP sz L) fun r H' => r = .d (gotP L k) ∧ H' = Tb fP sz L := by
 unfold Tb
 refine ACalls.cutTo [0, 1] rfl ?_ (fun l => by simp [Tb, sbl, ren_none, ren_var, ren_arr, ren_map, ren_mapb, ren_iter, ren_loop, ren_defr, bel_none, bel_var, bel_arr, bel_map, bel_mapb, bel_iter, bel_loop, bel_defr, AV.renL, AV.ren, AV.belL, AV.bel, rn]) (fun m => by simp [tellL, AV.ren, AV.renL, AV.bel, AV.belL, rn])
 refine acalls_of envOk Tryz.func160 rfl (by kernel_rfl) (m := 21) rfl ?_
 cases hl : lget L k with
 | none =>
  simp only [hl, Option.map_none, Option.getD_none, Option.isSome_none, push_cast, simprocAttr, key3, entE_get, entE_all, entE_put, entE_del, entE_length, isIntK_int, QasgL_normal, fP, pL]
  refine WK.now ?_
  simp only [gotP, hl, Option.map_none, Option.getD_none, Option.isSome_none, push_cast, simprocAttr, key3, entE_get, entE_all, entE_put, entE_del, entE_length, isIntK_int, QasgL_normal, fP, pL]
  first | done | exact ⟨_, rfl⟩ | exact ⟨rfl, _, rfl⟩
 | some v =>
  simp only [hl, Option.map_some, Option.getD_some, Option.isSome_some, push_cast, simprocAttr, key3, entE_get, entE_all, entE_put, entE_del, entE_length, isIntK_int, QasgL_normal, fP, pL]
  refine WK.now ?_
  simp only [gotP, hl, Option.map_some, Option.getD_some, Option.isSome_some, push_cast, simprocAttr, key3, entE_get, entE_all, entE_put, entE_del, entE_length, isIntK_int, QasgL_normal, fP, pL]
  first | done | exact ⟨_, rfl⟩ | exact ⟨rfl, _, rfl⟩
theorem hasP_ok (sz : Int) (L : List (Int × (Pod))) (k : Int) : ACalls env 158 [.pvar 1 0, .d (.int .i64 k)] (Tb fP sz L) fun r H' => r = .d (.bool (lget L k).isSome) ∧ H' = Tb fP sz L := by
 refine ACalls.cutTo [0, 1] rfl ?_ (fun l => by simp [Tb, sbl, ren_none, ren_var, ren_arr, ren_map, ren_mapb, ren_iter, ren_loop, ren_defr, bel_none, bel_var, bel_arr, bel_map, bel_mapb, bel_iter, bel_loop, bel_defr, AV.renL, AV.ren, AV.belL, AV.bel, rn]) (fun m => by simp [tellL, AV.ren, AV.renL, AV.bel, AV.belL, rn])
 refine acalls_of envOk Tryz.func158 rfl (by kernel_rfl) (m := 12) rfl ?_
 simp only [push_cast, simprocAttr, key3, entE_get, entE_all, entE_put, entE_del, entE_length, isIntK_int, QasgL_normal, fP, pL]
 refine (getP_ok sz L k).thus (WK.now ?_)
 cases hl : lget L k with
 | none =>
  simp only [Tb, gotP, hl, Option.map_none, Option.getD_none, Option.isSome_none, push_cast, simprocAttr, key3, entE_get, entE_all, entE_put, entE_del, entE_length, isIntK_int, QasgL_normal, fP, pL]
  refine WK.now ?_
  simp only [Tb, push_cast, simprocAttr, key3, entE_get, entE_all, entE_put, entE_del, entE_length, isIntK_int, QasgL_normal, fP, pL]
  first | done | exact ⟨_, rfl⟩ | exact ⟨rfl, _, rfl⟩
 | some v =>
  simp only [Tb, gotP, hl, Option.map_some, Option.getD_some, Option.isSome_some, push_cast, simprocAttr, key3, entE_get, entE_all, entE_put, entE_del, entE_length, isIntK_int, QasgL_normal, fP, pL]
  refine WK.now ?_
  simp only [Tb, push_cast, simprocAttr, key3, entE_get, entE_all, entE_put, entE_del, entE_length, isIntK_int, QasgL_normal, fP, pL]
  first | done | exact ⟨_, rfl⟩ | exact ⟨rfl, _, rfl⟩
theorem roomP_ok (sz : Int) (L : List (Int × (Pod))) (h : 0 ≤ sz ∧ sz ≤ 9223372036854775807 ∧ L.length ≤ 4611686018427387904) : ACalls env 159 [.pvar 1 0] (Tb fP sz L) fun r H' => r = .d (.int .i64 (sz - L.length)) ∧ H' = Tb fP sz L := by
 unfold Tb
 refine acalls_of envOk Tryz.func159 rfl (by kernel_rfl) (m := 14) rfl ?_
 simp only [push_cast, simprocAttr, key3, entE_get, entE_all, entE_put, entE_del, entE_length, isIntK_int, QasgL_normal, fP, pL]
 refine DRegL.one (by unfold DrawOK; kernel_rfl) ?_
 simp only [wrapi (show -9223372036854775808 ≤ sz - (L.length : Int) by omega) (show sz - (L.length : Int) ≤ 9223372036854775807 by omega), push_cast, simprocAttr, key3, entE_get, entE_all, entE_put, entE_del, entE_length, isIntK_int, QasgL_normal, fP, pL]
 refine WK.now ?_
 simp only [push_cast, simprocAttr, key3, entE_get, entE_all, entE_put, entE_del, entE_length, isIntK_int, QasgL_normal, fP, pL]
theorem entE_putP (L : List (Int × (Pod))) (k : Int) (v : Pod) : dput (entE fP L) (.int .i64 k) (.agg [.int .i64 v.1.id, .int .i64 v.1.pr, .bool v.1.pre, .int .i64 v.1.gr, .slice 1 (ints v.2), .int .i64 v.1.ar, .int .i64 v.1.ph, .int .i64 v.1.nd, .int .i64 v.1.dl]) = entE fP (lput L k v) := entE_put fP L k v
theorem addP_ok (sz : Int) (L : List (Int × (Pod))) (k : Int) (v : Pod) (h : 0 ≤ sz ∧ sz ≤ 9223372036854775807 ∧ L.length ≤ 4611686018427387904) :
  ACalls env 126 [.pvar 1 0, .d (.int .i64 k), .d (fP v)] (Tb fP sz L) fun r H' => r = .d (errD (addE sz L k)) ∧ H' = Tb fP sz (addL sz L k v) := by
 refine ACalls.cutTo [0, 1] rfl ?_ (fun l => by simp [Tb, sbl, ren_none, ren_var, ren_arr, ren_map, ren_mapb, ren_iter, ren_loop, ren_defr, bel_none, bel_var, bel_arr, bel_map, bel_mapb, bel_iter, bel_loop, bel_defr, AV.renL, AV.ren, AV.belL, AV.bel, rn]) (fun m => by simp [tellL, AV.ren, AV.renL, AV.bel, AV.belL, rn])
 refine acalls_of envOk Tryz.func126 rfl (by kernel_rfl) (m := 24) rfl ?_
 simp only [Tb, push_cast, simprocAttr, key3, entE_get, entE_all, entE_put, entE_del, entE_length, isIntK_int, QasgL_normal, fP, pL]
 refine (hasP_ok sz L k).at [0, 1] (by simp [Tb, sbl, ren_none, ren_var, ren_arr, ren_map, ren_mapb, ren_iter, ren_loop, ren_defr, bel_none, bel_var, bel_arr, bel_map, bel_mapb, bel_iter, bel_loop, bel_defr, AV.renL, AV.ren, AV.belL, AV.bel, rn]) (by simp) (by simp [Tb]) (by simp [Tb, AV.ren, AV.renL, rn]) (by simp [AV.belL, AV.bel]) (WK.now ?_)
 simp only [Tb, push_cast, simprocAttr, key3, entE_get, entE_all, entE_put, entE_del, entE_length, isIntK_int, QasgL_normal, fP, pL]
 refine Kbr.mk (fun c => ?_) (fun c => ?_)
 ·simp only [push_cast, simprocAttr, key3, entE_get, entE_all, entE_put, entE_del, entE_length, isIntK_int, QasgL_normal, fP, pL]
  refine WK.now ?_
  simp only [Tb, addE, addL, c, errD, push_cast, simprocAttr, key3, entE_get, entE_all, entE_put, entE_del, entE_length, isIntK_int, QasgL_normal, fP, pL]
  first | done | exact ⟨_, rfl⟩ | exact ⟨rfl, _, rfl⟩
 ·simp only [push_cast, simprocAttr, key3, entE_get, entE_all, entE_put, entE_del, entE_length, isIntK_int, QasgL_normal, fP, pL]
  refine (roomP_ok sz L h).at [0, 1] (by simp [Tb, sbl, ren_none, ren_var, ren_arr, ren_map, ren_mapb, ren_iter, ren_loop, ren_defr, bel_none, bel_var, bel_arr, bel_map, bel_mapb, bel_iter, bel_loop, bel_defr, AV.renL, AV.ren, AV.belL, AV.bel, rn]) (by simp) (by simp [Tb]) (by simp [Tb, AV.ren, AV.renL, rn]) (by simp [AV.belL, AV.bel]) (WK.now ?_)
  simp only [Tb, push_cast, simprocAttr, key3, entE_get, entE_all, entE_put, entE_del, entE_length, isIntK_int, QasgL_normal, fP, pL]
  refine Kbr.mk (fun c2 => ?_) (fun c2 => ?_)
  ·have e : sz = L.length := by have := of_decide_eq_true c2; omega
   simp only [push_cast, simprocAttr, key3, entE_get, entE_all, entE_put, entE_del, entE_length, isIntK_int, QasgL_normal, fP, pL]
   refine WK.now ?_
   simp [addE, addL, c, errD, e, Tb, Kfin, allDefr, offs, aresL, Kone, one?]
  ·have e : ¬ sz = L.length := by have := of_decide_eq_false c2; omega
   simp only [Tb, entE_putP, push_cast, simprocAttr, key3, entE_get, entE_all, entE_put, entE_del, entE_length, isIntK_int, QasgL_normal, fP, pL]
   try refine DRegL.one (by unfold DrawOK; kernel_rfl) ?_
   try simp only [Tb, entE_putP, push_cast, simprocAttr, key3, entE_get, entE_all, entE_put, entE_del, entE_length, isIntK_int, QasgL_normal, fP, pL]
   refine WK.now ?_
   simp [addE, addL, c, errD, e, Tb, Kfin, allDefr, offs, aresL, Kone, one?]
end Go.Proofs.YtmeicgbddgeeoaaGreatDoor
end
section
set_option autoImplicit false
set_option linter.unusedVariables false
set_option linter.unusedSimpArgs false
namespace Go.Proofs.YtmeicgbddgeeoaaGreatDoor
open Go.Abs
theorem setP_ok (sz : Int) (L : List (Int × (Pod))) (k : Int) (v : Pod) :
  ACalls env 161 [.pvar 1 0, .d (.int .i64 k), .d (fP v)] (Tb fP sz L) fun r H' => r = .d (errD (setE L k)) ∧ H' = Tb fP sz (setL L k v) := by
 refine ACalls.cutTo [0, 1] rfl ?_ (fun l => by simp [Tb, sbl, ren_none, ren_var, ren_arr, ren_map, ren_mapb, ren_iter, ren_loop, ren_defr, bel_none, bel_var, bel_arr, bel_map, bel_mapb, bel_iter, bel_loop, bel_defr, AV.renL, AV.ren, AV.belL, AV.bel, rn]) (fun m => by simp [tellL, AV.ren, AV.renL, AV.bel, AV.belL, rn])
 refine acalls_of envOk Tryz.func161 rfl (by kernel_rfl) (m := 15) rfl ?_
 simp only [Tb, push_cast, simprocAttr, key3, entE_get, entE_all, entE_put, entE_del, entE_length, isIntK_int, QasgL_normal, fP, pL]
 refine (hasP_ok sz L k).at [0, 1] (by simp [Tb, sbl, ren_none, ren_var, ren_arr, ren_map, ren_mapb, ren_iter, ren_loop, ren_defr, bel_none, bel_var, bel_arr, bel_map, bel_mapb, bel_iter, bel_loop, bel_defr, AV.renL, AV.ren, AV.belL, AV.bel, rn]) (by simp) (by simp [Tb]) (by simp [Tb, AV.ren, AV.renL, rn]) (by simp [AV.belL, AV.bel]) (WK.now ?_)
 simp only [Tb, push_cast, simprocAttr, key3, entE_get, entE_all, entE_put, entE_del, entE_length, isIntK_int, QasgL_normal, fP, pL]
 refine Kbr.mk (fun c => ?_) (fun c => ?_)
 ·have c : (lget L k).isSome = false := by simpa using c
  simp only [push_cast, simprocAttr, key3, entE_get, entE_all, entE_put, entE_del, entE_length, isIntK_int, QasgL_normal, fP, pL]
  refine WK.now ?_
  simp only [Tb, setE, setL, c, errD, push_cast, simprocAttr, key3, entE_get, entE_all, entE_put, entE_del, entE_length, isIntK_int, QasgL_normal, fP, pL]
  simp [Tb, setE, setL, c, errD, Kfin, allDefr, offs, aresL, Kone, one?]
 ·have c : (lget L k).isSome = true := by simpa using c
  simp only [Tb, entE_putP, push_cast, simprocAttr, key3, entE_get, entE_all, entE_put, entE_del, entE_length, isIntK_int, QasgL_normal, fP, pL]
  try refine DRegL.one (by unfold DrawOK; kernel_rfl) ?_
  try simp only [Tb, entE_putP, push_cast, simprocAttr, key3, entE_get, entE_all, entE_put, entE_del, entE_length, isIntK_int, QasgL_normal, fP, pL]
  refine WK.now ?_
  simp [Tb, setE, setL, c, errD, Kfin, allDefr, offs, aresL, Kone, one?]
end Go.Proofs.YtmeicgbddgeeoaaGreatDoor
end
section
set_option autoImplicit false
set_option linter.unusedVariables false
set_option linter.unusedSimpArgs false
namespace Go.Proofs.YtmeicgbddgeeoaaGreatDoor
open Go.Abs
theorem InR.mem {a : List Int} (h : InR a) : ∀ n ∈ a, I64 n := fun n hn => by
 obtain ⟨j, hj, rfl⟩ := List.getElem_of_mem hn
 have := h j
 simpa [List.getD_eq_getElem?_getD, hj] using this
theorem inR_of {a : List Int} (h : ∀ n ∈ a, I64 n) : InR a := fun k => by
 rw [List.getD_eq_getElem?_getD]
 cases hk : a[k]? with
 | none => simp [I64]
 | some x => exact h x (List.mem_of_getElem? hk)
theorem colS_two (u v : List Int) (k : Nat) : colS [u, v] k = u.getD k 0 + v.getD k 0 := by
 simp [colS, psum, at2]
theorem addS_two {u v : List Int} (hl : u.length = v.length) (hr : ∀ k, k < u.length → I64 (u.getD k 0 + v.getD k 0)) : addS [u, v] = some (List.zipWith (· + ·) u v) := by
 have h : AddP [u, v] := ⟨by simp, fun j hj => by
  have hj : j < 2 := hj
  rcases j with _ | _ | j
  ·rfl
  ·exact hl.symm
  ·omega, fun k hk => by rw [colS_two]; exact hr k hk⟩
 rw [addS, B_true h]
 show some _ = some _
 congr 1
 refine List.ext_getElem (by simp [hl]) fun j h1 h2 => ?_
 have hj : j < u.length := by simpa using h1
 simp [colS_two, List.getD_eq_getElem?_getD, hj, show j < v.length by omega]
theorem subS_yes {a b : List Int} (hl : a.length = b.length) (h : ∀ k, k < a.length → b.getD k 0 ≤ a.getD k 0 ∧ a.getD k 0 - b.getD k 0 ≤ 9223372036854775807) : subS a b = some (List.zipWith (· - ·) a b) := by
 unfold subS bothS
 rw [B_true ⟨hl, fun k hk => decide_eq_true (h k hk)⟩]
 show some _ = some _
 congr 1
 refine List.ext_getElem (by simp) fun j h1 h2 => ?_
 have hj : j < a.length := by simp at h1; omega
 have := h j hj
 simp [List.getD_eq_getElem?_getD, hj, show j < b.length by omega] at this
 simp
 rw [wrapi (by omega) (by omega)]
theorem rows2 {P : List Int → Prop} {u v : List Int} (h1 : P u) (h2 : P v) (h0 : P [] := by first | (unfold Sz; simp) | (intro k; simp [I64])) : ∀ j, P (([u, v] : List (List Int)).getD j [])
 | 0 => h1
 | 1 => h2
 | j + 2 => by simpa using h0
theorem addS_sz {u v s : List Int} (h : addS [u, v] = some s) (hs : ∀ j, Sz (([u, v] : List (List Int)).getD j [])) : Sz s := by
 unfold addS at h
 cases hb : B (AddP [u, v]) with
 | false => rw [hb] at h; cases h
 | true =>
  rw [hb] at h
  obtain rfl := Option.some.inj h
  have := hs 0
  unfold Sz at *
  simpa using this
theorem addS_inR {u v s : List Int} (h : addS [u, v] = some s) : InR s := by
 unfold addS at h
 cases hb : B (AddP [u, v]) with
 | false => rw [hb] at h; cases h
 | true =>
  rw [hb] at h
  obtain rfl := Option.some.inj h
  have hp := (B_iff.1 hb).2.2
  refine inR_of fun n hn => ?_
  obtain ⟨k, hk, rfl⟩ := List.mem_map.1 hn
  exact hp k (List.mem_range.1 hk)
theorem idx_neg {p : Int → Bool} {a : List Int} (h : ¬ 0 ≤ idx p a) : ∀ n ∈ a, p n = false := by
 unfold idx at h
 split at h
 ·omega
 ·rename_i h'
  rw [List.findIdx_lt_length] at h'
  intro n hn
  cases hp : p n with
  | false => rfl
  | true => exact absurd ⟨n, hn, hp⟩ h'
theorem wrongS_neg {a : List Int} {d : Int} (h : ¬ 0 ≤ wrongS a d) : (a.length : Int) = d ∧ ∀ n ∈ a, 0 ≤ n ∧ n ≤ 1099511627776 := by
 unfold wrongS at h
 split at h
 ·exact absurd ‹_› h
 ·rename_i h1
  split at h
  ·refine ⟨‹_›, fun n hn => ?_⟩
   have := idx_neg h1 n hn
   unfold wrongP at this
   have := of_decide_eq_false this
   omega
  ·omega
theorem fitsP_of {s c : List Int} (hl : s.length = c.length) (h : ∀ k, k < s.length → s.getD k 0 ≤ c.getD k 0) : B (FitsP s c) = true := B_true ⟨hl, h⟩
theorem zipAdd_get {u v : List Int} {k : Nat} (h : k < u.length) (hl : u.length = v.length) : (List.zipWith (· + ·) u v).getD k 0 = u.getD k 0 + v.getD k 0 := by
 have e1 : u[k]? = some u[k] := List.getElem?_eq_getElem h
 have e2 : v[k]? = some v[k] := List.getElem?_eq_getElem (by omega)
 simp only [List.getD_eq_getElem?_getD, List.getElem?_zipWith, e1, e2, Option.getD_some]
noncomputable def chgE (L : List (Int × Ent)) (d k : Int) (v : List Int) (f : Ent → Option (List Int)) : Option (Int × Int) :=
 match lget L k with
 | none => some (5, 0)
 | some e => if 0 ≤ wrongS v d then some (3, wrongS v d) else match f e with
  | none => some (10, 0)
  | some _ => none
noncomputable def chgL (L : List (Int × Ent)) (d k : Int) (v : List Int) (f : Ent → Option (List Int)) : List (Int × Ent) :=
 match lget L k with
 | none => L
 | some e => if 0 ≤ wrongS v d then L else match f e with
  | none => L
  | some u => lput L k (e.1, e.2.1, u)
noncomputable def heldS (v : List Int) (e : Ent) : Option (List Int) := (addS [e.2.2, v]).bind fun s => bif B (FitsP s e.2.1) then some s else none
noncomputable def freedS (v : List Int) (e : Ent) : Option (List Int) := subS e.2.2 v
theorem heldS_yes {v : List Int} {e : Ent} (h1 : e.2.2.length = v.length) (h2 : e.2.1.length = v.length)
  (h : ∀ k, k < v.length → -9223372036854775808 ≤ e.2.2.getD k 0 + v.getD k 0 ∧ e.2.2.getD k 0 + v.getD k 0 ≤ e.2.1.getD k 0 ∧ e.2.1.getD k 0 ≤ 9223372036854775807) : heldS v e = some (List.zipWith (· + ·) e.2.2 v) := by
 unfold heldS
 rw [addS_two h1 (fun k hk => by have := h k (by omega); exact ⟨this.1, by omega⟩), Option.bind_some,
  fitsP_of (by simp [h1, h2]) (fun k hk => by
   have hk' : k < v.length := by simp [h1] at hk; exact hk
   rw [zipAdd_get (by omega) h1]
   exact (h k hk').2.1)]
 rfl
def addF {α : Type} (sz : Int) (L : List (Int × α)) (k : Int) : Option (Int × Int) := (addE sz L k).map fun c => (c, 0)
noncomputable def naddE (d sz : Int) (L : List (Int × Ent)) (k : Int) (cap : List Int) : Option (Int × Int) := if 0 ≤ wrongS cap d then some (3, wrongS cap d) else addF sz L k
noncomputable def naddL (d sz : Int) (L : List (Int × Ent)) (k : Int) (cap : List Int) : List (Int × Ent) := if 0 ≤ wrongS cap d then L else addL sz L k (k, cap, List.replicate (max d 0).toNat 0)
end Go.Proofs.YtmeicgbddgeeoaaGreatDoor
end
section
set_option autoImplicit false
set_option linter.unusedVariables false
set_option linter.unusedSimpArgs false
namespace Go.Proofs.YtmeicgbddgeeoaaGreatDoor
open Go.Abs
def Ns (d sz : Int) (L : List (Int × Ent)) : List AObj := [.map (entE fE L), .var [.d (.int .i64 sz), .mapo 0], .var [.d (.int .i64 d), .pvar 1 0]]
theorem nnew_ok (d n : Int) : ACalls env 74 [.d (.int .i64 d), .d (.int .i64 n)] [] fun r H' => r = .pvar 2 0 ∧ H' = Ns (max d 0) (max n 0) [] := by
 refine acalls_of envOk Tryz.func74 rfl (by kernel_rfl) (m := 9) rfl ?_
 simp only [push_cast, simprocAttr]
 refine (newE_ok n).thus (WK.now ?_)
 simp only [Tb, push_cast, simprocAttr]
 refine WK.now ?_
 simp only [Ns, push_cast, simprocAttr]
theorem nnodes_ok (d sz : Int) (L : List (Int × Ent)) : ACalls env 150 [.pvar 2 0] (Ns d sz L) fun r H' => r = .pvar 1 0 ∧ H' = Ns d sz L := by
 unfold Ns
 refine acalls_of envOk Tryz.func150 rfl (by kernel_rfl) (m := 8) rfl ?_
 simp only [push_cast, simprocAttr]
 refine WK.now ?_
 simp only [push_cast, simprocAttr]
theorem ndims_ok (d sz : Int) (L : List (Int × Ent)) : ACalls env 124 [.pvar 2 0] (Ns d sz L) fun r H' => r = .d (.int .i64 d) ∧ H' = Ns d sz L := by
 unfold Ns
 refine acalls_of envOk Tryz.func124 rfl (by kernel_rfl) (m := 8) rfl ?_
 simp only [push_cast, simprocAttr]
 refine WK.now ?_
 simp only [push_cast, simprocAttr]
theorem nunk_ok : PCall env 116 [] (errF (some (5, 0))) := by
 refine acalls_of envOk Tryz.func116 rfl (by kernel_rfl) (m := 2) rfl ?_
 simp only [push_cast, simprocAttr]
 refine (fnew_ok 5 0).go (by first | exact ⟨.inl rfl, trivial⟩ | exact ⟨.inl rfl, .inl rfl, trivial⟩ | exact ⟨.inl rfl, .inl rfl, .inl rfl, trivial⟩ | simp [argsOk, argOk, sl, sll]) (WK.now ?_)
 simp only [push_cast, simprocAttr]
 refine WK.now ?_
 simp only [push_cast, simprocAttr]
def InE (L : List (Int × Ent)) : Prop := ∀ k e, lget L k = some e → InR e.2.1 ∧ InR e.2.2 ∧ Sz e.2.1 ∧ Sz e.2.2
set_option maxRecDepth 8000 in
theorem nchange_ok (g : FuncId) (hx : env.ext g = none) (f : Ent → Option (List Int)) (d sz : Int) (L : List (Int × Ent)) (k : Int) (v : List Int) (hv : Sz v)
  (hg : ∀ e, lget L k = some e → ∃ x, PCall env g [fE e, sl v] (.tup [x, .bool (f e).isSome]) ∧ ∀ u, f e = some u → x = sl u) :
  ACalls env 163 [.pvar 2 0, .d (.int .i64 k), .d (sl v), .d (.func g [])] (Ns d sz L) fun r H' => r = .d (errF (chgE L d k v f)) ∧ H' = Ns d sz (chgL L d k v f) := by
 unfold Ns
 refine ACalls.cutTo [0, 1, 2] rfl ?_ (fun l => by simp [Tb, Ns, fE, errD, errF, sbl, ren_none, ren_var, ren_arr, ren_map, ren_mapb, ren_iter, ren_loop, ren_defr, bel_none, bel_var, bel_arr, bel_map, bel_mapb, bel_iter, bel_loop, bel_defr, AV.renL, AV.ren, AV.belL, AV.bel, rn]) (fun m => by simp [tellL, AV.ren, AV.renL, AV.bel, AV.belL, rn])
 refine acalls_of envOk Tryz.func163 rfl (by kernel_rfl) (m := 48) rfl ?_
 simp only [push_cast, simprocAttr]
 refine (nnodes_ok d sz L).at [0, 1, 2] (by simp [Tb, Ns, fE, errD, errF, sbl, ren_none, ren_var, ren_arr, ren_map, ren_mapb, ren_iter, ren_loop, ren_defr, bel_none, bel_var, bel_arr, bel_map, bel_mapb, bel_iter, bel_loop, bel_defr, AV.renL, AV.ren, AV.belL, AV.bel, rn]) (by simp) (by simp [Tb, Ns, fE, errD, errF]) (by simp [Tb, Ns, fE, errD, errF, AV.ren, AV.renL, rn]) (by simp [AV.belL, AV.bel]) (WK.now ?_)
 simp only [Ns, push_cast, simprocAttr]
 refine (getE_ok sz L k).at [0, 1] (by simp [Tb, Ns, fE, errD, errF, sbl, ren_none, ren_var, ren_arr, ren_map, ren_mapb, ren_iter, ren_loop, ren_defr, bel_none, bel_var, bel_arr, bel_map, bel_mapb, bel_iter, bel_loop, bel_defr, AV.renL, AV.ren, AV.belL, AV.bel, rn]) (by simp) (by simp [Tb, Ns, fE, errD, errF]) (by simp [Tb, Ns, fE, errD, errF, AV.ren, AV.renL, rn]) (by simp [AV.belL, AV.bel]) (WK.now ?_)
 simp only [Tb, gotE, push_cast, simprocAttr]
 cases hl : lget L k with
 | none =>
  simp only [push_cast, simprocAttr]
  refine nunk_ok.go (by first | exact ⟨.inl rfl, trivial⟩ | exact ⟨.inl rfl, .inl rfl, trivial⟩ | exact ⟨.inl rfl, .inl rfl, .inl rfl, trivial⟩ | simp [argsOk, argOk, sl, sll]) (WK.now ?_)
  simp only [push_cast, simprocAttr]
  refine WK.now ?_
  simp only [chgE, chgL, hl, push_cast, simprocAttr]
  first | done | exact ⟨_, rfl⟩ | exact ⟨rfl, _, rfl⟩
 | some e =>
  obtain ⟨x, hp, hu⟩ := hg e hl
  simp only [fE, push_cast, simprocAttr]
  refine (vwrong_ok v d (Nat.le_trans hv (by omega))).go (by first | exact ⟨.inl rfl, trivial⟩ | exact ⟨.inl rfl, .inl rfl, trivial⟩ | exact ⟨.inl rfl, .inl rfl, .inl rfl, trivial⟩ | simp [argsOk, argOk, sl, sll]) (WK.now ?_)
  simp only [push_cast, simprocAttr]
  refine Kbr.mk (fun c => ?_) (fun c => ?_)
  ·have c1 : 0 ≤ wrongS v d := by have := of_decide_eq_true c; omega
   simp only [push_cast, simprocAttr]
   refine (fnew_ok 3 (wrongS v d)).go (by first | exact ⟨.inl rfl, trivial⟩ | exact ⟨.inl rfl, .inl rfl, trivial⟩ | exact ⟨.inl rfl, .inl rfl, .inl rfl, trivial⟩ | simp [argsOk, argOk, sl, sll]) (WK.now ?_)
   simp only [push_cast, simprocAttr]
   refine WK.now ?_
   simp only [chgE, chgL, hl, c1, if_true, push_cast, simprocAttr]
   first | done | exact ⟨_, rfl⟩ | exact ⟨rfl, _, rfl⟩
  ·have c1 : ¬ 0 ≤ wrongS v d := by have := of_decide_eq_false c; omega
   simp only [hx, push_cast, simprocAttr]
   refine hp.go (by first | exact ⟨.inl rfl, trivial⟩ | exact ⟨.inl rfl, .inl rfl, trivial⟩ | exact ⟨.inl rfl, .inl rfl, .inl rfl, trivial⟩ | simp [argsOk, argOk, sl, sll]) (WK.now ?_)
   cases hf : f e with
   | none =>
    simp only [push_cast, simprocAttr]
    refine (fnew_ok 10 0).go (by first | exact ⟨.inl rfl, trivial⟩ | exact ⟨.inl rfl, .inl rfl, trivial⟩ | exact ⟨.inl rfl, .inl rfl, .inl rfl, trivial⟩ | simp [argsOk, argOk, sl, sll]) (WK.now ?_)
    simp only [push_cast, simprocAttr]
    refine WK.now ?_
    simp only [chgE, chgL, hl, hf, c1, if_false, push_cast, simprocAttr]
    first | done | exact ⟨_, rfl⟩ | exact ⟨rfl, _, rfl⟩
   | some u =>
    obtain rfl := hu u hf
    simp only [push_cast, simprocAttr]
    refine DRegL.two [0, 1, 2, 3, 4, 5] [6, 7] (by unfold Draw2; kernel_rfl) (by kernel_rfl) (by kernel_rfl) ?_
    simp only [push_cast, simprocAttr]
    refine (setE_ok sz L k (e.1, e.2.1, u)).at [0, 1] (by simp [Tb, Ns, fE, errD, errF, sbl, ren_none, ren_var, ren_arr, ren_map, ren_mapb, ren_iter, ren_loop, ren_defr, bel_none, bel_var, bel_arr, bel_map, bel_mapb, bel_iter, bel_loop, bel_defr, AV.renL, AV.ren, AV.belL, AV.bel, rn]) (by simp) (by simp [Tb, Ns, fE, errD, errF]) (by simp [Tb, Ns, fE, errD, errF, AV.ren, AV.renL, rn]) (by simp [AV.belL, AV.bel]) ?_
    simp only [Tb, setE, setL, hl, push_cast, simprocAttr]
    refine WK.now ?_
    simp only [chgE, chgL, hl, hf, c1, if_false, errF, errD, push_cast, simprocAttr]
    first | done | exact ⟨_, rfl⟩ | exact ⟨rfl, _, rfl⟩
theorem two_rows (u v : List Int) : [[D.slice 1 (ints u)], [D.slice 1 (ints v)]] = intss [u, v] := rfl
theorem held_ok (e : Ent) (v : List Int) (h1 : InR e.2.1) (h2 : InR e.2.2) (h3 : Sz e.2.2) (h4 : InR v) (h5 : Sz v) :
  ∃ x, PCall env 167 [fE e, sl v] (.tup [x, .bool (heldS v e).isSome]) ∧ ∀ u, heldS v e = some u → x = sl u := by
 cases ha : addS [e.2.2, v] with
 | none =>
  refine ⟨.nils, ?_, fun u hu => by simp [heldS, ha] at hu⟩
  unfold fE
  refine acalls_of envOk Tryz.func167 rfl (by kernel_rfl) (m := 23) rfl ?_
  simp only [two_rows, push_cast, simprocAttr]
  refine (vadd_ok [e.2.2, v] (by unfold Sz; simp) (rows2 h3 h5) (rows2 h2 h4)).go (by first | exact ⟨.inl rfl, trivial⟩ | exact ⟨.inl rfl, .inl rfl, trivial⟩ | exact ⟨.inl rfl, .inl rfl, .inl rfl, trivial⟩ | simp [argsOk, argOk, sl, sll]) (WK.now ?_)
  simp only [ha, resS, push_cast, simprocAttr]
  refine WK.now ?_
  simp only [heldS, ha, Option.bind_none, Option.isSome_none, push_cast, simprocAttr]
 | some s =>
  refine ⟨sl s, ?_, fun u hu => ?_⟩
  ·unfold fE
   refine acalls_of envOk Tryz.func167 rfl (by kernel_rfl) (m := 23) rfl ?_
   simp only [two_rows, push_cast, simprocAttr]
   refine (vadd_ok [e.2.2, v] (by unfold Sz; simp) (rows2 h3 h5) (rows2 h2 h4)).go (by first | exact ⟨.inl rfl, trivial⟩ | exact ⟨.inl rfl, .inl rfl, trivial⟩ | exact ⟨.inl rfl, .inl rfl, .inl rfl, trivial⟩ | simp [argsOk, argOk, sl, sll]) (WK.now ?_)
   simp only [ha, resS, push_cast, simprocAttr]
   refine (vfits_ok s e.2.1 (addS_sz ha (rows2 h3 h5)) (addS_inR ha) h1).go (by first | exact ⟨.inl rfl, trivial⟩ | exact ⟨.inl rfl, .inl rfl, trivial⟩ | exact ⟨.inl rfl, .inl rfl, .inl rfl, trivial⟩ | simp [argsOk, argOk, sl, sll]) (WK.now ?_)
   simp only [push_cast, simprocAttr]
   refine WK.now ?_
   simp only [heldS, ha, Option.bind_some, push_cast, simprocAttr]
   cases B (FitsP s e.2.1) <;> rfl
  ·simp only [heldS, ha, Option.bind_some] at hu
   cases hb : B (FitsP s e.2.1) with
   | true => rw [hb] at hu; exact congrArg sl (Option.some.inj hu)
   | false => rw [hb] at hu; cases hu
theorem released_ok (e : Ent) (v : List Int) (h2 : InR e.2.2) (h3 : Sz e.2.2) (h4 : InR v) :
  ∃ x, PCall env 164 [fE e, sl v] (.tup [x, .bool (freedS v e).isSome]) ∧ ∀ u, freedS v e = some u → x = sl u := by
 have key : ∀ x, resS (freedS v e) = .tup [x, .bool (freedS v e).isSome] → PCall env 164 [fE e, sl v] (.tup [x, .bool (freedS v e).isSome]) := fun x hx => by
  unfold fE
  refine acalls_of envOk Tryz.func164 rfl (by kernel_rfl) (m := 10) rfl ?_
  simp only [push_cast, simprocAttr]
  have hs := vsub_ok e.2.2 v h3 h2 h4
  rw [show subS e.2.2 v = freedS v e from rfl, hx] at hs
  refine hs.go (by first | exact ⟨.inl rfl, trivial⟩ | exact ⟨.inl rfl, .inl rfl, trivial⟩ | exact ⟨.inl rfl, .inl rfl, .inl rfl, trivial⟩ | simp [argsOk, argOk, sl, sll]) (WK.now ?_)
  simp only [push_cast, simprocAttr]
  refine WK.now ?_
  simp only [push_cast, simprocAttr]
 cases hf : freedS v e with
 | none =>
  have := key .nils (by rw [hf]; rfl)
  rw [hf] at this
  exact ⟨_, this, fun u hu => by cases hu⟩
 | some s =>
  have := key (sl s) (by rw [hf]; rfl)
  rw [hf] at this
  exact ⟨_, this, fun u hu => by rw [Option.some.inj hu]⟩
theorem nhold_ok (d sz : Int) (L : List (Int × Ent)) (k : Int) (v : List Int) (hL : InE L) (hv : Sz v) (rv : InR v) :
  ACalls env 135 [.pvar 2 0, .d (.int .i64 k), .d (sl v)] (Ns d sz L) fun r H' => r = .d (errF (chgE L d k v (heldS v))) ∧ H' = Ns d sz (chgL L d k v (heldS v)) := by
 unfold Ns
 refine acalls_of envOk Tryz.func135 rfl (by kernel_rfl) (m := 8) rfl ?_
 simp only [push_cast, simprocAttr]
 refine (nchange_ok 167 rfl (heldS v) d sz L k v hv (fun e he => held_ok e v (hL k e he).1 (hL k e he).2.1 (hL k e he).2.2.2 rv hv)).thus (WK.now ?_)
 simp only [Ns, push_cast, simprocAttr]
 refine WK.now ?_
 simp only [push_cast, simprocAttr]
theorem nrel_ok (d sz : Int) (L : List (Int × Ent)) (k : Int) (v : List Int) (hL : InE L) (hv : Sz v) (rv : InR v) :
  ACalls env 132 [.pvar 2 0, .d (.int .i64 k), .d (sl v)] (Ns d sz L) fun r H' => r = .d (errF (chgE L d k v (freedS v))) ∧ H' = Ns d sz (chgL L d k v (freedS v)) := by
 unfold Ns
 refine acalls_of envOk Tryz.func132 rfl (by kernel_rfl) (m := 8) rfl ?_
 simp only [push_cast, simprocAttr]
 refine (nchange_ok 164 rfl (freedS v) d sz L k v hv (fun e he => released_ok e v (hL k e he).2.1 (hL k e he).2.2.2 rv)).thus (WK.now ?_)
 simp only [Ns, push_cast, simprocAttr]
 refine WK.now ?_
 simp only [push_cast, simprocAttr]
end Go.Proofs.YtmeicgbddgeeoaaGreatDoor
end
section
set_option autoImplicit false
set_option linter.unusedVariables false
set_option linter.unusedSimpArgs false
namespace Go.Proofs.YtmeicgbddgeeoaaGreatDoor
open Go.Abs
def GoodV (v : List Int) : Prop := v.length = 2 ∧ ∀ n ∈ v, 0 ≤ n ∧ n ≤ 1099511627776
theorem goodV_of {v : List Int} (h : ¬ 0 ≤ wrongS v 2) : GoodV v := ⟨by have := (wrongS_neg h).1; omega, (wrongS_neg h).2⟩
theorem GoodV.ok {v : List Int} (h : GoodV v) : ¬ 0 ≤ wrongS v 2 := by
 have hi : ¬ 0 ≤ idx wrongP v := by
  unfold idx
  split
  ·rename_i hlt
   rw [List.findIdx_lt_length] at hlt
   obtain ⟨x, hx, hp⟩ := hlt
   have := h.2 x hx
   unfold wrongP at hp
   have := of_decide_eq_true hp
   omega
  ·omega
 unfold wrongS
 rw [if_neg hi, if_pos (by rw [h.1]; rfl)]
 omega
theorem GoodV.at {v : List Int} (h : GoodV v) (k : Nat) : 0 ≤ v.getD k 0 ∧ v.getD k 0 ≤ 1099511627776 := by
 rw [List.getD_eq_getElem?_getD]
 cases hk : v[k]? with
 | none => simp
 | some x => exact h.2 x (List.mem_of_getElem? hk)
theorem GoodV.two {v : List Int} (h : GoodV v) : v = [v.getD 0 0, v.getD 1 0] := by
 obtain ⟨h1, h2⟩ := h
 match v, h1 with
 | [a, b], _ => rfl
theorem GoodV.inR {v : List Int} (h : GoodV v) : InR v := inR_of fun n hn => by have := h.2 n hn; unfold I64; omega
theorem GoodV.sz {v : List Int} (h : GoodV v) : Sz v := by unfold Sz; rw [h.1]; omega
structure Cl where
 d : Int
 L : List (Int × Pod)
 ids : List Int
 N : List (Int × Ent)
structure Rc where
 d : Int
 nodes : List (Int × List Int)
 pods : List Pod
def holdsP (ph : Int) : Prop := ph = 3 ∨ ph = 4
instance (ph : Int) : Decidable (holdsP ph) := inferInstanceAs (Decidable (_ ∨ _))
abbrev pid (p : Pod) : Int := p.1.id
def share (k : Nat) (n : Int) (p : Pod) : Int := if p.1.nd = n ∧ holdsP p.1.ph then p.2.getD k 0 else 0
def useAt (k : Nat) (P : List Pod) (n : Int) : Int := (P.map (share k n)).sum
def useOf (P : List Pod) (n : Int) : List Int := [useAt 0 P n, useAt 1 P n]
def updP (P : List Pod) (q : Pod) : List Pod := P.map fun p => if p.1.id = q.1.id then q else p
/-! What the operations make of a cluster: the cluster, the error, the pod. -/
noncomputable def clAdd (c : Cl) (k : Int) (cap : List Int) : Cl := { c with N := naddL c.d 1024 c.N k cap }
noncomputable def clSubmit (c : Cl) (p : Pod) : Cl × Option (Int × Int) :=
 if 0 ≤ wrongS p.2 c.d then (c, some (3, wrongS p.2 c.d))
 else match addE 65536 c.L p.1.id with
  | some e => (c, some (e, 0))
  | none => ({ c with L := addL 65536 c.L p.1.id (submitP p c.ids.length), ids := c.ids ++ [p.1.id] }, none)
noncomputable def clPlace (c : Cl) (id at_ ev : Int) : Cl × Option (Int × Int) :=
 match lget c.L id with
 | none => (c, some (5, 0))
 | some p => match lget c.N at_ with
  | none => (c, some (5, 1))
  | some e => match nextP p.1.ph ev with
   | none => (c, some (8, 0))
   | some to =>
    if ev = 1 then
     (if (chgE c.N c.d at_ p.2 (heldS p.2)).any (fun x => x.1 == 10) then (c, chgE c.N c.d at_ p.2 (heldS p.2))
     else ({ c with N := chgL c.N c.d at_ p.2 (heldS p.2), L := lput c.L id (applyP p ev to at_ (-1)) }, none))
    else ({ c with L := lput c.L id (applyP p ev to at_ (-1)) }, none)
noncomputable def clChange (c : Cl) (id ev dl : Int) : Cl × Option (Int × Int) :=
 match lget c.L id with
 | none => (c, some (5, 0))
 | some p =>
  if ev = 1 ∨ ev = 2 then (c, some (8, 0))
  else match nextP p.1.ph ev with
   | none => (c, some (8, 0))
   | some to =>
    if ev = 5 ∧ holdsP p.1.ph then ({ c with N := chgL c.N c.d p.1.nd p.2 (freedS p.2), L := lput c.L id (applyP p ev to (-1) dl) }, chgE c.N c.d p.1.nd p.2 (freedS p.2))
    else ({ c with L := lput c.L id (applyP p ev to (-1) dl) }, none)
/-! What they make of the reference's. -/
noncomputable def rcAdd (w : Rc) (k : Int) (cap : List Int) : Rc := if 0 ≤ wrongS cap (max w.d 0) then w else { w with nodes := raddK (·.1) w.nodes 1024 (k, cap) }
def findP (P : List Pod) (id : Int) : Option Pod := P.find? fun p => p.1.id == id
def findN (N : List (Int × List Int)) (id : Int) : Option (Int × List Int) := N.find? fun n => n.1 == id
noncomputable def rcSubmit (w : Rc) (p : Pod) : Rc :=
 if 0 ≤ wrongS p.2 (max w.d 0) then w else if (findP w.pods p.1.id).isSome then w else if 65536 ≤ w.pods.length then w else { w with pods := w.pods ++ [submitP p w.pods.length] }
noncomputable def rcPlace (w : Rc) (id at_ ev : Int) : Rc :=
 match findP w.pods id with
 | none => w
 | some p => match findN w.nodes at_ with
  | none => w
  | some n => match nextP p.1.ph ev with
   | none => w
   | some to =>
    if ev = 1 then (bif B (FitsP ((addS [useOf w.pods at_, p.2]).getD []) n.2) then { w with pods := updP w.pods (applyP p ev to at_ (-1)) } else w)
    else { w with pods := updP w.pods (applyP p ev to at_ (-1)) }
def rcChange (w : Rc) (id ev dl : Int) : Rc :=
 match findP w.pods id with
 | none => w
 | some p => if ev = 1 ∨ ev = 2 then w else match nextP p.1.ph ev with
  | none => w
  | some to => { w with pods := updP w.pods (applyP p ev to (-1) dl) }
structure RC (c : Cl) (w : Rc) : Prop where
 d1 : c.d = 2
 d2 : w.d = 2
 ids : c.ids = w.pods.map pid
 nd : NoDup c.L
 perm : c.L.Perm (kv pid w.pods)
 nodes : Rl 1024 c.N (w.nodes.map fun n => (n.1, (n.1, n.2, useOf w.pods n.1)))
 gp : ∀ p ∈ w.pods, GoodV p.2
 gn : ∀ n ∈ w.nodes, GoodV n.2
 fit : ∀ n ∈ w.nodes, ∀ k, k < 2 → useAt k w.pods n.1 ≤ n.2.getD k 0
 at_ : ∀ p ∈ w.pods, holdsP p.1.ph → p.1.nd ∈ w.nodes.map (·.1)
 len : w.pods.length ≤ 65536
section
variable {c : Cl} {w : Rc}
theorem RC.ndp (h : RC c w) : NoDup (kv pid w.pods) := ((h.perm.map (fun p : Int × Pod => p.1)).nodup_iff).1 (show (c.L.map (fun p : Int × Pod => p.1)).Nodup from h.nd)
theorem lget_kv (P : List Pod) (id : Int) : lget (kv pid P) id = findP P id := by
 unfold lget findP kv
 rw [List.find?_map, Option.map_map]
 have : ((fun p : Int × Pod => id == p.1) ∘ fun c : Pod => (pid c, c)) = fun p : Pod => p.1.id == id := by
  funext p
  simp only [Function.comp_apply, pid]
  rw [Bool.eq_iff_iff, beq_iff_eq, beq_iff_eq]
  exact eq_comm
 rw [this]
 show Option.map (fun x => x) (List.find? _ P) = _
 simp
theorem lget_perm {α : Type} {L M : List (Int × α)} (h : L.Perm M) (hn : NoDup L) (k : Int) : lget L k = lget M k := by
 have hm : NoDup M := ((h.map (fun p : Int × α => p.1)).nodup_iff).1 (show (L.map (fun p : Int × α => p.1)).Nodup from hn)
 cases hl : lget L k with
 | some v => exact ((lget_mem hm).2 (h.mem_iff.1 ((lget_mem hn).1 hl))).symm
 | none =>
  cases hr : lget M k with
  | none => rfl
  | some v => rw [(lget_mem hn).2 (h.mem_iff.2 ((lget_mem hm).1 hr))] at hl; cases hl
theorem RC.get (h : RC c w) (id : Int) : lget c.L id = findP w.pods id := by rw [lget_perm h.perm h.nd, lget_kv]
theorem RC.getN (h : RC c w) (n : Int) : lget c.N n = (findN w.nodes n).map fun x => (x.1, x.2, useOf w.pods x.1) := by
 rw [h.nodes.get]
 unfold lget findN
 rw [List.find?_map, Option.map_map]
 have : ((fun p : Int × Ent => n == p.1) ∘ fun x : Int × List Int => (x.1, (x.1, x.2, useOf w.pods x.1))) = fun x : Int × List Int => x.1 == n := by
  funext p
  simp only [Function.comp_apply]
  rw [Bool.eq_iff_iff, beq_iff_eq, beq_iff_eq]
  exact eq_comm
 rw [this]
 rfl
theorem findP_some {P : List Pod} {id : Int} {p : Pod} (h : findP P id = some p) : p ∈ P ∧ p.1.id = id :=
 ⟨List.mem_of_find?_eq_some h, by simpa using List.find?_some h⟩
theorem findN_some {N : List (Int × List Int)} {id : Int} {p : Int × List Int} (h : findN N id = some p) : p ∈ N ∧ p.1 = id :=
 ⟨List.mem_of_find?_eq_some h, by simpa using List.find?_some h⟩
theorem split_of {P : List Pod} {p : Pod} (hn : NoDup (kv pid P)) (hp : p ∈ P) : ∃ A B, P = A ++ p :: B ∧ (∀ q ∈ A, q.1.id ≠ p.1.id) ∧ ∀ q ∈ B, q.1.id ≠ p.1.id := by
 obtain ⟨A, B, rfl⟩ := List.append_of_mem hp
 refine ⟨A, B, rfl, fun q hq e => ?_, fun q hq e => ?_⟩
 ·unfold NoDup at hn
  rw [kv_keys, List.map_append, List.nodup_append] at hn
  exact hn.2.2 _ (List.mem_map.2 ⟨q, hq, rfl⟩) _ (List.mem_map.2 ⟨p, by simp, rfl⟩) e
 ·unfold NoDup at hn
  rw [kv_keys, List.map_append, List.nodup_append, List.map_cons, List.nodup_cons] at hn
  exact hn.2.1.1 (List.mem_map.2 ⟨q, hq, e⟩)
theorem updP_split {A B : List Pod} {p q : Pod} (he : q.1.id = p.1.id) (hA : ∀ x ∈ A, x.1.id ≠ p.1.id) (hB : ∀ x ∈ B, x.1.id ≠ p.1.id) : updP (A ++ p :: B) q = A ++ q :: B := by
 unfold updP
 rw [List.map_append, List.map_cons, if_pos he.symm]
 congr 1
 ·exact (List.map_congr_left fun x hx => if_neg (by rw [he]; exact hA x hx)).trans (List.map_id _)
 ·congr 1
  exact (List.map_congr_left fun x hx => if_neg (by rw [he]; exact hB x hx)).trans (List.map_id _)
theorem useAt_split (k : Nat) (A B : List Pod) (p : Pod) (n : Int) : useAt k (A ++ p :: B) n = useAt k A n + share k n p + useAt k B n := by
 simp [useAt, List.sum_append, Int.add_assoc]
theorem upd_keys {P : List Pod} {q : Pod} : (updP P q).map pid = P.map pid := by
 unfold updP
 rw [List.map_map]
 refine List.map_congr_left fun p hp => ?_
 simp only [Function.comp_apply]
 split
 ·rename_i h; exact h.symm
 ·rfl
theorem upd_mem {P : List Pod} {q x : Pod} (h : x ∈ updP P q) : x = q ∨ (x ∈ P ∧ x.1.id ≠ q.1.id) := by
 obtain ⟨p, hp, rfl⟩ := List.mem_map.1 h
 split
 ·exact .inl rfl
 ·exact .inr ⟨hp, ‹_›⟩
theorem upd_length (P : List Pod) (q : Pod) : (updP P q).length = P.length := by simp [updP]
theorem perm_upd {L : List (Int × Pod)} {P : List Pod} {p q : Pod} (hn : NoDup L) (hp : L.Perm (kv pid P)) (hm : p ∈ P) (he : q.1.id = p.1.id) :
  (lput L p.1.id q).Perm (kv pid (updP P q)) ∧ NoDup (lput L p.1.id q) := by
 have hnp : NoDup (kv pid P) := ((hp.map (fun p : Int × Pod => p.1)).nodup_iff).1 (show (L.map (fun p : Int × Pod => p.1)).Nodup from hn)
 have hn1 := lput_nodup (k := p.1.id) (v := q) hn
 refine ⟨perm_of hn1 (by unfold NoDup at *; rw [kv_keys, upd_keys]; rwa [kv_keys] at hnp) fun x => ?_, hn1⟩
 obtain ⟨A, B, rfl, hA, hB⟩ := split_of hnp hm
 rw [lput_mem hn, hp.mem_iff, updP_split he hA hB]
 unfold kv
 simp only [List.map_append, List.map_cons, List.mem_append, List.mem_cons, List.mem_map]
 constructor
 ·rintro (rfl | ⟨⟨y, hy, rfl⟩ | rfl | ⟨y, hy, rfl⟩, hne⟩)
  ·exact .inr (.inl (by rw [show pid q = p.1.id from he]))
  ·exact .inl ⟨y, hy, rfl⟩
  ·exact absurd rfl hne
  ·exact .inr (.inr ⟨y, hy, rfl⟩)
 ·rintro (⟨y, hy, rfl⟩ | rfl | ⟨y, hy, rfl⟩)
  ·exact .inr ⟨.inl ⟨y, hy, rfl⟩, hA y hy⟩
  ·exact .inl (by rw [show pid q = p.1.id from he])
  ·exact .inr ⟨.inr (.inr ⟨y, hy, rfl⟩), hB y hy⟩
end
end Go.Proofs.YtmeicgbddgeeoaaGreatDoor
end
section
set_option autoImplicit false
set_option linter.unusedVariables false
set_option linter.unusedSimpArgs false
namespace Go.Proofs.YtmeicgbddgeeoaaGreatDoor
open Go.Abs
/-! Lists with keys -/
section
variable {α β : Type}
theorem lput_cons (p : Int × α) (W : List (Int × α)) (k : Int) (v : α) : lput (p :: W) k v = if k = p.1 then (k, v) :: W else p :: lput W k v := by
 unfold lput
 rw [List.findIdx?_cons]
 by_cases h : k = p.1
 ·simp [h]
 ·have : (k == p.1) = false := by simpa using h
  rw [this, if_neg h]
  cases List.findIdx? (fun p => k == p.1) W <;> simp
theorem lput_mapK {W : List (Int × α)} {k : Int} {v : α} (hn : NoDup W) (h : k ∈ W.map (·.1)) : lput W k v = W.map fun p => if p.1 = k then (k, v) else p := by
 induction W with
 | nil => simp at h
 | cons p W ih =>
  unfold NoDup at hn ih
  rw [List.map_cons, List.nodup_cons] at hn
  rw [lput_cons]
  by_cases hk : k = p.1
  ·rw [if_pos hk, List.map_cons, if_pos hk.symm]
   congr 1
   refine ((List.map_congr_left fun x hx => if_neg fun e => hn.1 (List.mem_map.2 ⟨x, hx, by rw [e, hk]⟩)).trans (List.map_id _)).symm
  ·rw [if_neg hk, List.map_cons, if_neg (fun e => hk e.symm), ih hn.2 (by
    rw [List.map_cons, List.mem_cons] at h
    exact h.resolve_left hk)]
def mapV (φ : α → β) (W : List (Int × α)) : List (Int × β) := W.map fun p => (p.1, φ p.2)
theorem rfind_mapV (φ : α → β) (W : List (Int × α)) (k : Int) : rfind (mapV φ W) k = rfind W k := by
 unfold rfind mapV
 rw [findIdx_map]
theorem ins_mapV (φ : α → β) (W : List (Int × α)) (k : Int) (v : α) : ins (mapV φ W) (k, φ v) = mapV φ (ins W (k, v)) := by
 unfold ins mapV
 rw [map_takeWhile', map_dropWhile']
 simp [Function.comp_def]
theorem raddL_mapV (φ : α → β) (W : List (Int × α)) (sz k : Int) (v : α) : raddL (mapV φ W) sz (k, φ v) = mapV φ (raddL W sz (k, v)) := by
 unfold raddL
 rw [rfind_mapV, ins_mapV]
 simp only [mapV, List.length_map]
 split
 ·rfl
 ·split <;> rfl
theorem insK_mem {f : α → Int} {l : List α} {c x : α} : x ∈ insK f l c ↔ x = c ∨ x ∈ l := by
 unfold insK
 rw [List.mem_append, List.mem_append, List.mem_singleton]
 have := List.takeWhile_append_dropWhile (p := fun q => decide (f q < f c)) (l := l)
 constructor
 ·rintro ((h | h) | h)
  ·exact .inr (by rw [← this]; exact List.mem_append_left _ h)
  ·exact .inl h
  ·exact .inr (by rw [← this]; exact List.mem_append_right _ h)
 ·rintro (h | h)
  ·exact .inl (.inr h)
  ·rw [← this, List.mem_append] at h
   rcases h with h | h
   ·exact .inl (.inl h)
   ·exact .inr h
theorem raddK_mem {f : α → Int} {l : List α} {sz : Int} {c x : α} (h : x ∈ raddK f l sz c) : x = c ∨ x ∈ l := by
 unfold raddK at h
 split at h
 ·exact .inr h
 ·split at h
  ·exact .inr h
  ·exact insK_mem.1 h
theorem raddK_sub {f : α → Int} {l : List α} {sz : Int} {c x : α} (h : x ∈ l) : x ∈ raddK f l sz c := by
 unfold raddK
 split
 ·exact h
 ·split
  ·exact h
  ·exact insK_mem.2 (.inr h)
end
variable {c : Cl} {w : Rc}
def encN (P : List Pod) (n : Int × List Int) : Ent := (n.1, n.2, useOf P n.1)
theorem enc_kv (P : List Pod) (N : List (Int × List Int)) : (N.map fun n => (n.1, (n.1, n.2, useOf P n.1))) = mapV (encN P) (kv (·.1) N) := by
 simp [mapV, kv, encN, Function.comp_def]
theorem useAt_zero {P : List Pod} {n : Int} (k : Nat) (h : ∀ p ∈ P, holdsP p.1.ph → p.1.nd ≠ n) : useAt k P n = 0 := by
 unfold useAt
 have : P.map (share k n) = P.map fun _ => (0 : Int) := List.map_congr_left fun p hp => by
  unfold share
  rw [if_neg]
  rintro ⟨h1, h2⟩
  exact h p hp h2 h1
 rw [this]
 clear this h
 induction P with
 | nil => rfl
 | cons p P ih => simpa using ih
theorem share_pos {k : Nat} {n : Int} {p : Pod} (h : GoodV p.2) : 0 ≤ share k n p := by
 unfold share
 split
 ·exact (h.at k).1
 ·omega
theorem useAt_pos (k : Nat) (n : Int) : ∀ (P : List Pod), (∀ p ∈ P, GoodV p.2) → 0 ≤ useAt k P n
 | [], _ => by simp [useAt]
 | p :: P, h => by
  have h1 := useAt_pos k n P fun q hq => h q (by simp [hq])
  have h2 := share_pos (k := k) (n := n) (h p (by simp))
  simp only [useAt, List.map_cons, List.sum_cons] at h1 ⊢
  omega
theorem RC.add (h : RC c w) (k : Int) (cap : List Int) : RC (clAdd c k cap) (rcAdd w k cap) := by
 obtain ⟨d, L, ids, N⟩ := c
 obtain rfl : d = 2 := h.d1
 obtain ⟨d', nodes, pods⟩ := w
 obtain rfl : d' = 2 := h.d2
 have hids : ids = pods.map pid := h.ids
 unfold clAdd rcAdd naddL
 rw [show max (2 : Int) 0 = 2 by decide]
 by_cases hw : 0 ≤ wrongS cap 2
 ·rw [if_pos hw, if_pos hw]; exact h
 ·have hc := goodV_of hw
  rw [if_neg hw, if_neg hw]
  have hkeys : ∀ x, x ∈ N.map (·.1) ↔ x ∈ nodes.map (·.1) := fun x => by
   rw [(h.nodes.perm.map (fun p : Int × Ent => p.1)).mem_iff, List.map_map]
   rfl
  have hu : k ∉ nodes.map (·.1) → useOf pods k = [0, 0] := fun hk => by
   unfold useOf
   rw [useAt_zero 0 (fun p hp hh (e : p.1.nd = k) => hk (e ▸ h.at_ p hp hh)), useAt_zero 1 (fun p hp hh (e : p.1.nd = k) => hk (e ▸ h.at_ p hp hh))]
  have hR : Rl 1024 (addL 1024 N k (k, cap, useOf pods k)) (mapV (encN pods) (kv (·.1) (raddK (·.1) nodes 1024 (k, cap)))) := by
   have := (Rl.add (k := k) (v := encN pods (k, cap)) (by have := h.nodes; rw [enc_kv] at this; exact this)).1
   rw [raddL_mapV] at this
   have e := raddL_kv (fun x : Int × List Int => x.1) nodes 1024 (k, cap)
   rw [e] at this
   exact this
  have hN : addL 1024 N k (k, cap, List.replicate (2 : Int).toNat 0) = addL 1024 N k (k, cap, useOf pods k) := by
   unfold addL
   split
   ·rfl
   ·rename_i hs
    have hk : k ∉ nodes.map (·.1) := by
     rw [← hkeys, ← lget_none]
     cases hg : lget N k with
     | none => rfl
     | some _ => rw [hg] at hs; exact absurd rfl hs
    rw [hu hk]
    rfl
  rw [hN]
  refine ⟨h.d1, h.d2, h.ids, h.nd, h.perm, by rw [enc_kv]; exact hR, h.gp, fun n hn => ?_, fun n hn j hj => ?_, fun p hp hh => ?_, h.len⟩
  ·rcases raddK_mem hn with rfl | hn
   ·exact hc
   ·exact h.gn n hn
  ·rcases raddK_mem hn with rfl | hn'
   ·by_cases hk : k ∈ nodes.map (·.1)
    ·have : raddK (·.1) nodes 1024 (k, cap) = nodes := by
      unfold raddK
      rw [if_pos]
      have hne : ¬ rfind (kv (fun x : Int × List Int => x.1) nodes) k < 0 := by
       rw [rfind_neg, lget_none, kv_keys]
       simpa using hk
      exact Int.not_lt.1 hne
     rw [this] at hn
     exact h.fit _ hn j hj
    ·rw [useAt_zero j (fun p hp hh (e : p.1.nd = k) => hk (e ▸ h.at_ p hp hh))]
     exact (hc.at j).1
   ·exact h.fit n hn' j hj
  ·obtain ⟨n, hn, e⟩ := List.mem_map.1 (h.at_ p hp hh)
   exact List.mem_map.2 ⟨n, raddK_sub hn, e⟩
theorem useAt_snoc {k : Nat} {P : List Pod} {q : Pod} {n : Int} : useAt k (P ++ [q]) n = useAt k P n + share k n q := by simp [useAt, List.sum_append]
theorem RC.submit (h : RC c w) (p : Pod) : RC (clSubmit c p).1 (rcSubmit w p) := by
 obtain ⟨d, L, ids, N⟩ := c
 obtain rfl : d = 2 := h.d1
 obtain ⟨d', nodes, pods⟩ := w
 obtain rfl : d' = 2 := h.d2
 have hids : ids = pods.map pid := h.ids
 unfold clSubmit rcSubmit
 rw [show max (2 : Int) 0 = 2 by decide]
 by_cases hw : 0 ≤ wrongS p.2 2
 ·rw [if_pos hw, if_pos hw]; exact h
 ·have hg := goodV_of hw
  rw [if_neg hw, if_neg hw]
  have hlen : L.length = pods.length := by rw [h.perm.length_eq, kv_length]
  by_cases hs : (findP pods p.1.id).isSome
  ·rw [if_pos hs]
   have : addE 65536 L p.1.id = some 6 := by unfold addE; rw [h.get, if_pos hs]
   rw [this]; exact h
  ·rw [if_neg hs]
   have hl : pods.length ≤ 65536 := h.len
   by_cases hf : 65536 ≤ pods.length
   ·rw [if_pos hf]
    have : addE 65536 L p.1.id = some 7 := by unfold addE; rw [h.get, if_neg hs, if_pos (by omega)]
    rw [this]; exact h
   ·rw [if_neg hf]
    have hno : (65536 : Int) ≠ L.length := by omega
    have : addE 65536 L p.1.id = none := by unfold addE; rw [h.get, if_neg hs, if_neg hno]
    rw [this]
    have hn : lget L p.1.id = none := by
     rw [h.get]
     cases hg : findP pods p.1.id with
     | none => rfl
     | some _ => rw [hg] at hs; exact absurd rfl hs
    have hadd : ∀ q, addL 65536 L p.1.id q = L ++ [(p.1.id, q)] := fun q => by
     unfold addL
     rw [hn, if_neg (by simp), if_neg hno, lput_new hn]
    have hil : ids.length = pods.length := by rw [hids, List.length_map]
    have hsh : ∀ k n, share k n (submitP p pods.length) = 0 := fun k n => by
     unfold share submitP holdsP
     rw [if_neg]
     rintro ⟨_, h1 | h1⟩ <;> simp at h1
    have hus : ∀ k n, useAt k (pods ++ [submitP p pods.length]) n = useAt k pods n := fun k n => by rw [useAt_snoc, hsh]; omega
    have huo : ∀ n, useOf (pods ++ [submitP p pods.length]) n = useOf pods n := fun n => by unfold useOf; rw [hus, hus]
    simp only [hadd, hil]
    refine ⟨h.d1, h.d2, by simp only [hids, List.map_append]; rfl, ?_, ?_, ?_, ?_, h.gn, fun n hn k hk => by rw [hus]; exact h.fit n hn k hk, ?_, by simp; omega⟩
    ·have := lput_nodup (k := p.1.id) (v := submitP p pods.length) h.nd
     rwa [lput_new hn] at this
    ·have := h.perm.append_right [(p.1.id, submitP p pods.length)]
     simpa [kv, pid, submitP] using this
    ·simp only [huo]
     exact h.nodes
    ·intro q hq
     rcases List.mem_append.1 hq with hq | hq
     ·exact h.gp q hq
     ·rw [List.mem_singleton] at hq; subst hq; exact hg
    ·intro q hq hh
     rcases List.mem_append.1 hq with hq | hq
     ·exact h.at_ q hq hh
     ·rw [List.mem_singleton] at hq; subst hq
      unfold submitP holdsP at hh
      simp at hh
end Go.Proofs.YtmeicgbddgeeoaaGreatDoor
end
section
set_option autoImplicit false
set_option linter.unusedVariables false
set_option linter.unusedSimpArgs false
namespace Go.Proofs.YtmeicgbddgeeoaaGreatDoor
open Go.Abs
theorem use_upd {P : List Pod} {p q : Pod} (hn : NoDup (kv pid P)) (hp : p ∈ P) (hid : q.1.id = p.1.id) (k : Nat) (n : Int) : useAt k (updP P q) n = useAt k P n - share k n p + share k n q := by
 obtain ⟨A, B, rfl, hA, hB⟩ := split_of hn hp
 rw [updP_split hid hA hB, useAt_split, useAt_split]
 omega
theorem share_le {P : List Pod} {p : Pod} (hn : NoDup (kv pid P)) (hp : p ∈ P) (hg : ∀ p ∈ P, GoodV p.2) (k : Nat) (n : Int) : share k n p ≤ useAt k P n := by
 obtain ⟨A, B, rfl, hA, hB⟩ := split_of hn hp
 rw [useAt_split]
 have h1 := useAt_pos k n A fun q hq => hg q (by simp [hq])
 have h2 := useAt_pos k n B fun q hq => hg q (by simp [hq])
 omega
variable {c : Cl} {w : Rc}
theorem RC.put (h : RC c w) {id : Int} {p q : Pod} (hp : findP w.pods id = some p) (hid : q.1.id = p.1.id) (hr : q.2 = p.2) {N' : List (Int × Ent)}
  (hN : Rl 1024 N' (w.nodes.map fun n => (n.1, (n.1, n.2, useOf (updP w.pods q) n.1)))) (hfit : ∀ n ∈ w.nodes, ∀ k, k < 2 → useAt k (updP w.pods q) n.1 ≤ n.2.getD k 0)
  (hat : holdsP q.1.ph → q.1.nd ∈ w.nodes.map (·.1)) : RC { c with N := N', L := lput c.L id q } { w with pods := updP w.pods q } := by
 obtain ⟨hm, hi⟩ := findP_some hp
 subst hi
 have hpu := perm_upd h.nd h.perm hm hid
 have hg : GoodV q.2 := by rw [hr]; exact h.gp p hm
 refine ⟨h.d1, h.d2, by rw [h.ids]; exact upd_keys.symm, hpu.2, hpu.1, hN, fun x hx => ?_, h.gn, hfit, fun x hx hh => ?_, by rw [show ({ w with pods := updP w.pods q } : Rc).pods = updP w.pods q from rfl, upd_length]; exact h.len⟩
 ·rcases upd_mem hx with rfl | ⟨hx, _⟩
  ·exact hg
  ·exact h.gp x hx
 ·rcases upd_mem hx with rfl | ⟨hx, _⟩
  ·exact hat hh
  ·exact h.at_ x hx hh
theorem RC.keep (h : RC c w) {id : Int} {p q : Pod} (hp : findP w.pods id = some p) (hid : q.1.id = p.1.id) (hr : q.2 = p.2) (hs : ∀ k n, share k n q = share k n p)
  (hat : holdsP q.1.ph → q.1.nd ∈ w.nodes.map (·.1)) : RC { c with L := lput c.L id q } { w with pods := updP w.pods q } := by
 have hu : ∀ k n, useAt k (updP w.pods q) n = useAt k w.pods n := fun k n => by rw [use_upd h.ndp (findP_some hp).1 hid, hs]; omega
 have huo : ∀ n, useOf (updP w.pods q) n = useOf w.pods n := fun n => by unfold useOf; rw [hu, hu]
 exact h.put hp hid hr (N' := c.N) (by simp only [huo]; exact h.nodes) (fun n hn k hk => by rw [hu]; exact h.fit n hn k hk) hat
theorem RC.keysN (h : RC c w) : (w.nodes.map (·.1)).Nodup := by
 have hn := h.nodes.ndw
 unfold NoDup at hn
 rw [List.map_map] at hn
 exact hn
theorem RC.same (h : RC c w) {x n : Int × List Int} (hx : x ∈ w.nodes) (hm : n ∈ w.nodes) (e : x.1 = n.1) : x = n := by
 obtain ⟨i, hi, rfl⟩ := List.getElem_of_mem hx
 obtain ⟨j, hj, rfl⟩ := List.getElem_of_mem hm
 have hp := List.pairwise_iff_getElem.1 h.keysN
 rcases Nat.lt_trichotomy i j with hlt | rfl | hlt
 ·exact (hp i j (by simpa using hi) (by simpa using hj) hlt (by rw [List.getElem_map, List.getElem_map]; exact e)).elim
 ·rfl
 ·exact (hp j i (by simpa using hj) (by simpa using hi) hlt (by rw [List.getElem_map, List.getElem_map]; exact e.symm)).elim
theorem RC.node (h : RC c w) {a : Int} {n : Int × List Int} (hn : findN w.nodes a = some n) {P' : List Pod} {u : List Int} (hu : u = useOf P' a) (ho : ∀ b, b ≠ a → useOf P' b = useOf w.pods b) :
  Rl 1024 (lput c.N a (a, n.2, u)) (w.nodes.map fun n => (n.1, (n.1, n.2, useOf P' n.1))) := by
 obtain ⟨hm, ha⟩ := findN_some hn
 have hl : lget c.N a ≠ none := by rw [h.getN, hn]; simp
 have hlw : lget (w.nodes.map fun n => (n.1, (n.1, n.2, useOf w.pods n.1))) a ≠ none := by rw [← h.nodes.get]; exact hl
 have hR := (Rl.set (k := a) (v := ((a, n.2, u) : Ent)) h.nodes).1
 have e1 : setL c.N a ((a, n.2, u) : Ent) = lput c.N a (a, n.2, u) := by
  unfold setL
  rw [if_pos]
  cases hh : lget c.N a with
  | none => exact absurd hh hl
  | some _ => rfl
 rw [e1, rset_eq _ _ _ hlw, lput_mapK h.nodes.ndw (by
  rw [List.map_map]
  exact List.mem_map.2 ⟨n, hm, ha⟩)] at hR
 rw [List.map_map] at hR
 have e2 : (w.nodes.map ((fun p : Int × Ent => if p.1 = a then (a, ((a, n.2, u) : Ent)) else p) ∘ fun n => (n.1, (n.1, n.2, useOf w.pods n.1)))) = w.nodes.map fun n => (n.1, (n.1, n.2, useOf P' n.1)) := by
  refine List.map_congr_left fun x hx => ?_
  simp only [Function.comp_apply]
  by_cases hxa : x.1 = a
  ·have hxn : x = n := h.same hx hm (hxa.trans ha.symm)
   subst hxn
   rw [if_pos hxa, hu, hxa]
  ·rw [if_neg hxa, ho _ hxa]
 rw [e2] at hR
 exact hR
theorem next_waits {p to : Int} (h : nextP p 1 = some to ∨ nextP p 2 = some to) : (p = 1 ∨ p = 2) := by
 rcases h with h | h
 ·by_cases hp : p = 1 ∨ p = 2
  ·exact hp
  ·simp [nextP, hp] at h
 ·by_cases hp : p = 1 ∨ p = 2
  ·exact hp
  ·simp [nextP, hp] at h
theorem share_none {k : Nat} {n : Int} {p : Pod} (h : ¬ holdsP p.1.ph) : share k n p = 0 := if_neg fun h' => h h'.2
theorem RC.claim (h : RC c w) (id a : Int) : RC (clPlace c id a 2).1 (rcPlace w id a 2) := by
 unfold clPlace rcPlace
 rw [h.get, h.getN]
 cases hp : findP w.pods id with
 | none => exact h
 | some p =>
  cases hn : findN w.nodes a with
  | none => exact h
  | some n =>
   simp only [Option.map_some]
   cases hx : nextP p.1.ph 2 with
   | none => exact h
   | some to =>
    have hw := next_waits (.inr hx)
    have hto : to = 2 := by
     unfold nextP at hx
     rw [if_neg (by omega), if_pos rfl, if_pos hw] at hx
     exact (Option.some.inj hx).symm
    have hnp : ¬ holdsP p.1.ph := by unfold holdsP; omega
    have hnq : ¬ holdsP (applyP p 2 to a (-1)).1.ph := by show ¬ holdsP to; unfold holdsP; omega
    exact h.keep hp rfl rfl (fun k m => by rw [share_none hnp, share_none hnq]) (fun hh => absurd hh hnq)
theorem RC.bind (h : RC c w) (id a : Int) : RC (clPlace c id a 1).1 (rcPlace w id a 1) := by
 obtain ⟨d, L, ids, N⟩ := c
 obtain rfl : d = 2 := h.d1
 unfold clPlace rcPlace
 rw [h.get, h.getN]
 cases hp : findP w.pods id with
 | none => exact h
 | some p =>
  cases hn : findN w.nodes a with
  | none => exact h
  | some n =>
   obtain ⟨hm, hid⟩ := findP_some hp
   obtain ⟨hnm, hna⟩ := findN_some hn
   simp only [Option.map_some]
   cases hx : nextP p.1.ph 1 with
   | none => exact h
   | some to =>
    have hw := next_waits (.inl hx)
    have hto : to = 3 := by
     unfold nextP at hx
     rw [if_pos rfl, if_pos hw] at hx
     exact (Option.some.inj hx).symm
    subst hto
    have hg := h.gp p hm
    have hgn := h.gn n hnm
    have hnp : ¬ holdsP p.1.ph := by unfold holdsP; omega
    have hsz := h.len
    have u0 := useAt_pos 0 a w.pods h.gp
    have u1 := useAt_pos 1 a w.pods h.gp
    have f0 := h.fit n hnm 0 (by omega)
    have f1 := h.fit n hnm 1 (by omega)
    rw [hna] at f0 f1
    have g0 := hg.at 0
    have g1 := hg.at 1
    have c0 := hgn.at 0
    have c1 := hgn.at 1
    have hadd : addS [useOf w.pods a, p.2] = some (List.zipWith (· + ·) (useOf w.pods a) p.2) := addS_two (by rw [hg.1]; rfl) (fun k hk => by
     have hk2 : k = 0 ∨ k = 1 := by have : k < 2 := hk; omega
     rcases hk2 with rfl | rfl
     ·show I64 (useAt 0 w.pods a + _); unfold I64; omega
     ·show I64 (useAt 1 w.pods a + _); unfold I64; omega)
    have hgetN : lget N a = some (n.1, n.2, useOf w.pods n.1) := by
     have := h.getN a
     rw [hn] at this
     exact this
    have hz : List.zipWith (· + ·) (useOf w.pods a) p.2 = [useAt 0 w.pods a + p.2.getD 0 0, useAt 1 w.pods a + p.2.getD 1 0] := by
     conv => lhs; rw [hg.two]
     rfl
    have hheld : heldS p.2 (n.1, n.2, useOf w.pods n.1) = bif B (FitsP (List.zipWith (· + ·) (useOf w.pods a) p.2) n.2) then some (List.zipWith (· + ·) (useOf w.pods a) p.2) else none := by
     unfold heldS
     rw [hna, hadd]
     rfl
    have hchgE : chgE N 2 a p.2 (heldS p.2) = bif B (FitsP (List.zipWith (· + ·) (useOf w.pods a) p.2) n.2) then none else some (10, 0) := by
     unfold chgE
     rw [hgetN]
     simp only [if_neg hg.ok, hheld]
     cases B (FitsP (List.zipWith (· + ·) (useOf w.pods a) p.2) n.2) <;> rfl
    have hchgL : B (FitsP (List.zipWith (· + ·) (useOf w.pods a) p.2) n.2) = true → chgL N 2 a p.2 (heldS p.2) = lput N a (a, n.2, List.zipWith (· + ·) (useOf w.pods a) p.2) := fun hb => by
     unfold chgL
     rw [hgetN]
     rw [hna] at hheld
     simp only [if_neg hg.ok, hna, hheld, hb, cond_true]
    simp only [if_true, hchgE, hadd, Option.getD_some]
    cases hb : B (FitsP (List.zipWith (· + ·) (useOf w.pods a) p.2) n.2) with
    | false =>
     simp only [cond_false, Option.any_some, beq_self_eq_true, if_true]
     exact h
    | true =>
     simp only [cond_true, Option.any_none, Bool.false_eq_true, if_false]
     rw [hchgL hb]
     have hfp := (B_iff.1 hb).2
     have hlen : (List.zipWith (· + ·) (useOf w.pods a) p.2).length = 2 := by rw [hz]; rfl
     have hsh : ∀ k m, share k m (applyP p 1 3 a (-1)) = if a = m then p.2.getD k 0 else 0 := fun k m => by
      unfold share
      by_cases ham : a = m
      ·rw [if_pos ham, if_pos ⟨ham, .inl rfl⟩]; rfl
      ·rw [if_neg ham, if_neg fun hh => ham hh.1]
     have hus : ∀ k m, useAt k (updP w.pods (applyP p 1 3 a (-1))) m = useAt k w.pods m + if a = m then p.2.getD k 0 else 0 := fun k m => by
      rw [use_upd (q := applyP p 1 3 a (-1)) h.ndp hm rfl, share_none hnp, hsh]; omega
     refine h.put (q := applyP p 1 3 a (-1)) hp rfl rfl (h.node hn ?_ fun b hb' => ?_) (fun x hx' k hk => ?_) fun _ => ?_
     ·rw [hz]; unfold useOf; rw [hus, hus, if_pos rfl, if_pos rfl]
     ·unfold useOf; rw [hus, hus, if_neg (fun e => hb' e.symm), if_neg (fun e => hb' e.symm), Int.add_zero, Int.add_zero]
     ·rw [hus]
      by_cases hxa : a = x.1
      ·rw [if_pos hxa]
       have hxn : x = n := h.same hx' hnm (hxa.symm.trans hna.symm)
       subst hxn
       have := hfp k (by omega)
       rw [hz] at this
       rw [← hxa]
       have hk2 : k = 0 ∨ k = 1 := by omega
       rcases hk2 with rfl | rfl
       ·exact this
       ·exact this
      ·rw [if_neg hxa, Int.add_zero]
       exact h.fit x hx' k hk
     ·exact List.mem_map.2 ⟨n, hnm, hna⟩
theorem RC.change (h : RC c w) (id eo dl : Int) : RC (clChange c id eo dl).1 (rcChange w id eo dl) := by
 obtain ⟨d, L, ids, N⟩ := c
 obtain rfl : d = 2 := h.d1
 unfold clChange rcChange
 rw [h.get]
 cases hp : findP w.pods id with
 | none => exact h
 | some p =>
  obtain ⟨hm, hid⟩ := findP_some hp
  simp only []
  by_cases he : eo = 1 ∨ eo = 2
  ·rw [if_pos he, if_pos he]; exact h
  rw [if_neg he, if_neg he]
  cases hx : nextP p.1.ph eo with
  | none => exact h
  | some to =>
   simp only []
   have hph : (eo = 3 ∧ p.1.ph = 2 ∧ to = 1) ∨ (eo = 4 ∧ p.1.ph = 3 ∧ to = 4) ∨ (eo = 5 ∧ to = 5) := by
    unfold nextP at hx
    rw [if_neg (by omega), if_neg (by omega)] at hx
    by_cases h3 : eo = 3
    ·rw [if_pos h3] at hx
     by_cases h2 : p.1.ph = 2
     ·rw [if_pos h2] at hx; exact .inl ⟨h3, h2, (Option.some.inj hx).symm⟩
     ·rw [if_neg h2] at hx; cases hx
    rw [if_neg h3] at hx
    by_cases h4 : eo = 4
    ·rw [if_pos h4] at hx
     by_cases h2 : p.1.ph = 3
     ·rw [if_pos h2] at hx; exact .inr (.inl ⟨h4, h2, (Option.some.inj hx).symm⟩)
     ·rw [if_neg h2] at hx; cases hx
    rw [if_neg h4] at hx
    by_cases h5 : eo = 5
    ·rw [if_pos h5] at hx
     split at hx
     ·exact .inr (.inr ⟨h5, (Option.some.inj hx).symm⟩)
     ·cases hx
    ·rw [if_neg h5] at hx; cases hx
   by_cases hf : eo = 5 ∧ holdsP p.1.ph
   ·rw [if_pos hf]
    obtain ⟨rfl, hh⟩ := hf
    have hto : to = 5 := by omega
    subst hto
    have hg := h.gp p hm
    obtain ⟨n, hnm, hna⟩ := List.mem_map.1 (h.at_ p hm hh)
    have hgn := h.gn n hnm
    have hnq : ¬ holdsP (applyP p 5 5 (-1) dl).1.ph := by show ¬ holdsP 5; unfold holdsP; omega
    have hfn : findN w.nodes p.1.nd = some n := by
     unfold findN
     cases hfi : w.nodes.find? (fun n => n.1 == p.1.nd) with
     | none => exact absurd (by simpa using hna) (List.find?_eq_none.1 hfi n hnm)
     | some n' =>
      have h1 := List.mem_of_find?_eq_some hfi
      have h2 := List.find?_some hfi
      rw [h.same hnm h1 (hna.trans (by simpa using h2 : n'.1 = p.1.nd).symm)]
    have hsh : ∀ k, share k p.1.nd p = p.2.getD k 0 := fun k => if_pos ⟨rfl, hh⟩
    have hle : ∀ k, p.2.getD k 0 ≤ useAt k w.pods p.1.nd := fun k => by rw [← hsh k]; exact share_le h.ndp hm h.gp k _
    have l0 := hle 0
    have l1 := hle 1
    have f0 := h.fit n hnm 0 (by omega)
    have f1 := h.fit n hnm 1 (by omega)
    rw [hna] at f0 f1
    have g0 := hg.at 0
    have g1 := hg.at 1
    have c0 := hgn.at 0
    have c1 := hgn.at 1
    have hz : List.zipWith (· - ·) (useOf w.pods p.1.nd) p.2 = [useAt 0 w.pods p.1.nd - p.2.getD 0 0, useAt 1 w.pods p.1.nd - p.2.getD 1 0] := by
     conv => lhs; rw [hg.two]
     rfl
    have hsub : freedS p.2 (n.1, n.2, useOf w.pods n.1) = some (List.zipWith (· - ·) (useOf w.pods p.1.nd) p.2) := by
     unfold freedS
     rw [hna]
     refine subS_yes (by rw [hg.1]; rfl) fun k hk => ?_
     have hk2 : k = 0 ∨ k = 1 := by have : k < 2 := hk; omega
     rcases hk2 with rfl | rfl
     ·exact ⟨l0, by show useAt 0 w.pods p.1.nd - _ ≤ _; omega⟩
     ·exact ⟨l1, by show useAt 1 w.pods p.1.nd - _ ≤ _; omega⟩
    have hgetN : lget N p.1.nd = some (n.1, n.2, useOf w.pods n.1) := by
     have := h.getN p.1.nd
     rw [hfn] at this
     exact this
    have hchg : chgL N 2 p.1.nd p.2 (freedS p.2) = lput N p.1.nd (p.1.nd, n.2, List.zipWith (· - ·) (useOf w.pods p.1.nd) p.2) := by
     unfold chgL
     rw [hgetN]
     rw [hna] at hsub
     simp only [if_neg hg.ok, hna, hsub]
    have hus : ∀ k m, useAt k (updP w.pods (applyP p 5 5 (-1) dl)) m = useAt k w.pods m - if p.1.nd = m then p.2.getD k 0 else 0 := fun k m => by
     rw [use_upd (q := applyP p 5 5 (-1) dl) h.ndp hm rfl, share_none hnq]
     unfold share
     by_cases hpm : p.1.nd = m
     ·rw [if_pos hpm, if_pos ⟨hpm, hh⟩]; omega
     ·rw [if_neg hpm, if_neg fun hc => hpm hc.1]; omega
    simp only [hchg]
    refine h.put (q := applyP p 5 5 (-1) dl) hp rfl rfl (h.node hfn ?_ fun b hb' => ?_) (fun x hx' k hk => ?_) fun hc => absurd hc hnq
    ·rw [hz]; unfold useOf; rw [hus, hus, if_pos rfl, if_pos rfl]
    ·unfold useOf; rw [hus, hus, if_neg (fun e => hb' e.symm), if_neg (fun e => hb' e.symm), Int.sub_zero, Int.sub_zero]
    ·rw [hus]
     have := h.fit x hx' k hk
     have := (hg.at k).1
     split <;> omega
   ·rw [if_neg hf]
    refine h.keep (q := applyP p eo to (-1) dl) hp rfl rfl (fun k m => ?_) fun hc => ?_
    ·rcases hph with ⟨rfl, h2, rfl⟩ | ⟨rfl, h2, rfl⟩ | ⟨rfl, rfl⟩
     ·rw [share_none (by show ¬ holdsP 1; unfold holdsP; omega), share_none (by unfold holdsP; omega)]
     ·unfold share
      show (if p.1.nd = m ∧ holdsP 4 then _ else _) = _
      have e4 : holdsP 4 := .inr rfl
      have e3 : holdsP p.1.ph := .inl h2
      by_cases hpm : p.1.nd = m
      ·rw [if_pos ⟨hpm, e4⟩, if_pos ⟨hpm, e3⟩]; rfl
      ·rw [if_neg fun hc => hpm hc.1, if_neg fun hc => hpm hc.1]
     ·rw [share_none (by show ¬ holdsP 5; unfold holdsP; omega), share_none (fun hh => hf ⟨rfl, hh⟩)]
    ·rcases hph with ⟨rfl, h2, rfl⟩ | ⟨rfl, h2, rfl⟩ | ⟨rfl, rfl⟩
     ·exact absurd hc (by show ¬ holdsP 1; unfold holdsP; omega)
     ·exact h.at_ p hm (.inl h2)
     ·exact absurd hc (by show ¬ holdsP 5; unfold holdsP; omega)
end Go.Proofs.YtmeicgbddgeeoaaGreatDoor
end
section
set_option autoImplicit false
set_option linter.unusedVariables false
set_option linter.unusedSimpArgs false
namespace Go.Proofs.YtmeicgbddgeeoaaGreatDoor
open Go.Abs
def colV (l : List (List Int)) (k : Nat) : Int := (l.map fun v => v.getD k 0).sum
theorem colS_eq (l : List (List Int)) (k : Nat) : colS l k = colV l k := by
 have h : ∀ n, n ≤ l.length → psum (at2 l k) n = ((l.take n).map fun v => v.getD k 0).sum := by
  intro n
  induction n with
  | zero => intro _; simp [psum]
  | succ n ih =>
   intro hn
   rw [List.take_add_one, List.map_append, List.sum_append, ← ih (by omega), List.getElem?_eq_getElem (show n < l.length by omega)]
   simp [psum, at2, List.getD_eq_getElem?_getD, List.getElem?_eq_getElem (show n < l.length by omega)]
 have := h l.length (Nat.le_refl _)
 rw [List.take_length] at this
 exact this
theorem addS_rows {d : Nat} {l : List (List Int)} (h0 : l ≠ []) (hl : ∀ v ∈ l, v.length = d) (hr : ∀ k, k < d → I64 (colV l k)) : addS l = some ((List.range d).map (colV l)) := by
 have hlen : 0 < l.length := List.length_pos_iff.2 h0
 have hd : (l.getD 0 []).length = d := by
  rw [List.getD_eq_getElem?_getD, List.getElem?_eq_getElem hlen]
  exact hl _ (List.getElem_mem hlen)
 have h : AddP l := ⟨hlen, fun j hj => by
  rw [hd, List.getD_eq_getElem?_getD, List.getElem?_eq_getElem hj]
  exact hl _ (List.getElem_mem hj), fun k hk => by rw [colS_eq]; exact hr k (by omega)⟩
 rw [addS, B_true h, hd]
 show some _ = some _
 congr 1
 exact List.map_congr_left fun k _ => colS_eq l k
theorem colV_cons (v : List Int) (l : List (List Int)) (k : Nat) : colV (v :: l) k = v.getD k 0 + colV l k := by simp [colV]
theorem colV_nil (k : Nat) : colV [] k = 0 := rfl
theorem colV_zero (n k : Nat) : (List.replicate n (0 : Int)).getD k 0 = 0 := by
 rw [List.getD_eq_getElem?_getD, List.getElem?_replicate]
 split <;> rfl
end Go.Proofs.YtmeicgbddgeeoaaGreatDoor
end
