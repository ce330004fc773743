/-
  errors.As at an error of the type api.Code and a target of the type *api.Code: Go's own text, walked; what comes of it, by value.
  errors.Is at no error, at a fault, for a code: what it answers.
  The walks of the package node, continued: adding and reading.
  The phases after events: the table, laid in whatever order, and what is found in it.
  The walks of the package pod: a store by value; making, reading, submitting and changing.
  The walks of the package pod, continued: submitting and changing.
  The walks of the package pod, continued: lists of pods with a property.
  The walks of the package cluster: making, reading.
  The walks of the package cluster: submitting, placing, changing.
  The walks of the package cluster: submitting, placing, changing.
-/
import Derived.Test.YtmeicgbddgeeoaaGreatDoorB0
import Derived.Test.YtmeicgbddgeeoaaGreatDoorA3
import Derived.WalkKit
import Derived.LaidEql
import Derived.Stop.Asserts
import Derived.RowKitTokens
import Derived.Test.YtmeicgbddgeeoaaGreatDoorA4
import Derived.Test.YtmeicgbddgeeoaaGreatDoorB1
section
set_option autoImplicit false
set_option linter.unusedVariables false
set_option linter.unusedSimpArgs false
namespace Go.Proofs.YtmeicgbddgeeoaaGreatDoor
open Go.RowKit Go.Extern.Stop Go.Stop Go.Extern Go.Abs
theorem as_nilW (t : Value) (w : World) :
  Calls Tryz.prog 120 #[.nilIface, t] w fun e w' => e = .returned (.bool false) ∧ w' = w := by
 go_enter Tryz.func120, Tryz.ntmps120
 go_wp2
 go_ret
 exact ⟨rfl, rfl⟩
theorem as_valueOfP (t : Addr) (w : World) : (ReflectliteValue.unpack (.iface 164 (.pointer (some t)))).run Tryz.prog w
  = .ok (.agg #[.pointer (some ⟨1, 164, none⟩), .pointer (some ⟨w.heap.size, 0, none⟩), .int .u64 150]) (w.alloc (.cells #[.pointer (some t)] 164)) := by kernel_rfl
theorem as_typeP (a : Addr) (w : World) : (ReflectliteValue.methodAny (ReflectliteValue.valueError "reflectlite.Value.Type" 0) (fun t _ _ _ => ReflectliteType.toType t) #[.agg #[.pointer (some ⟨1, 164, none⟩), .pointer (some a), .int .u64 150]]).run Tryz.prog w
  = .ok (.iface 235 (.agg #[.pointer (some ⟨1, 164, none⟩)])) w := by kernel_rfl
theorem as_methodKind (h : Value) (w : World) : (Go.method 398 235 (.agg #[h]) "Kind").run Tryz.prog w = .ok (223, h) w := by kernel_rfl
theorem as_kindP (w : World) : ((ReflectliteType.abiMethod fun t => (fun a : Nat => Value.int IntKind.u8 (a : Int)) <$> Rtype.kind t) #[.pointer (some ⟨1, 164, none⟩)]).run Tryz.prog w = .ok (.int .u8 22) w := by kernel_rfl
theorem as_kindC (w : World) : ((ReflectliteType.abiMethod fun t => (fun a : Nat => Value.int IntKind.u8 (a : Int)) <$> Rtype.kind t) #[.pointer (some ⟨1, 122, none⟩)]).run Tryz.prog w = .ok (.int .u8 2) w := by kernel_rfl
theorem as_rlm (z : Sem Value) (f : TypeId → Addr → Nat → Nat → Sem Value) (v : Value) :
  ReflectliteValue.method z f #[v] = (do match ← ReflectliteValue.parts v with | none => z | some (t, a, fl) => f t a fl (fl % 32)) := rfl
theorem as_partsP (a : Addr) (w : World) : (ReflectliteValue.parts (.agg #[.pointer (some ⟨1, 164, none⟩), .pointer (some a), .int .u64 150])).run Tryz.prog w = .ok (some (164, a, 150)) w := by kernel_rfl
theorem as_isNilP (a p : Addr) (W : World) (ha : W.cell? a = some (.pointer (some p))) :
  (ReflectliteValue.method (ReflectliteValue.valueError "reflectlite.Value.IsNil" 0) ReflectliteValue.isNil #[.agg #[.pointer (some ⟨1, 164, none⟩), .pointer (some a), .int .u64 150]]).run Tryz.prog W = .ok (.bool false) W := by
 rw [as_rlm]
 simp only [Sem.run_bind, as_partsP, Result.andThen]
 simp [ReflectliteValue.isNil, loadVar, isAgg, underlying, Tryz.underlying164, ha, Result.andThen]
theorem as_methodElem (h : Value) (w : World) : (Go.method 398 235 (.agg #[h]) "Elem").run Tryz.prog w = .ok (239, .agg #[h]) w := by kernel_rfl
theorem as_methodImplements (h : Value) (w : World) : (Go.method 398 235 (.agg #[h]) "Implements").run Tryz.prog w = .ok (240, .agg #[h]) w := by kernel_rfl
theorem as_methodAssignableTo (h : Value) (w : World) : (Go.method 398 235 (.agg #[h]) "AssignableTo").run Tryz.prog w = .ok (237, .agg #[h]) w := by kernel_rfl
theorem as_elemP (w : World) : (ReflectliteType.method ReflectliteType.elem #[.agg #[.pointer (some ⟨1, 164, none⟩)]]).run Tryz.prog w = .ok (.iface 235 (.agg #[.pointer (some ⟨1, 122, none⟩)])) w := by kernel_rfl
theorem as_implementsC (w : World) : (ReflectliteType.relation "Implements" ReflectliteType.implements_ #[.agg #[.pointer (some ⟨1, 122, none⟩)], .iface 235 (.agg #[.pointer (some ⟨1, 74, none⟩)])]).run Tryz.prog w = .ok (.bool true) w := by kernel_rfl
theorem as_typeOfC (v : Value) (w : World) : (ReflectliteType.typeOf #[.iface 122 v]).run Tryz.prog w = .ok (.iface 235 (.agg #[.pointer (some ⟨1, 122, none⟩)])) w := by kernel_rfl
theorem as_assignableC (w : World) : (ReflectliteType.relation "AssignableTo" ReflectliteType.assignableTo #[.agg #[.pointer (some ⟨1, 122, none⟩)], .iface 235 (.agg #[.pointer (some ⟨1, 122, none⟩)])]).run Tryz.prog w = .ok (.bool true) w := by kernel_rfl
theorem as_valueOfC (c : Int) (w : World) : (ReflectliteValue.unpack (.iface 122 (.int .i64 c))).run Tryz.prog w
  = .ok (.agg #[.pointer (some ⟨1, 122, none⟩), .pointer (some ⟨w.heap.size, 0, none⟩), .int .u64 130]) (w.alloc (.cells #[.int .i64 c] 122)) := by kernel_rfl
theorem as_elemOfP (w : World) : (Rtype.elem? 164).run Tryz.prog w = .ok (some 122) w := by kernel_rfl
theorem as_mkC (p : Addr) (w : World) : (ReflectliteValue.mk 122 p ReflectliteValue.flagAddr).run Tryz.prog w = .ok (.agg #[.pointer (some ⟨1, 122, none⟩), .pointer (some p), .int .u64 386]) w := by kernel_rfl
theorem as_elemVP (a p : Addr) (W : World) (ha : W.cell? a = some (.pointer (some p))) :
  (ReflectliteValue.method (ReflectliteValue.valueError "reflectlite.Value.Elem" 0) ReflectliteValue.elem #[.agg #[.pointer (some ⟨1, 164, none⟩), .pointer (some a), .int .u64 150]]).run Tryz.prog W
   = .ok (.agg #[.pointer (some ⟨1, 122, none⟩), .pointer (some p), .int .u64 386]) W := by
 rw [as_rlm]
 simp only [Sem.run_bind, as_partsP, Result.andThen]
 simp [ReflectliteValue.elem, loadVar, isAgg, underlying, Tryz.underlying164, ha, Result.andThen, as_elemOfP, as_mkC]
theorem as_rls (v x : Value) : ReflectliteValue.set #[v, x] = (do
  let (some (dst, a, fl), some (src, b, _)) := (← ReflectliteValue.parts v, ← ReflectliteValue.parts x)
   | unsupported (.noEntry "extern/(internal/reflectlite.Value).Set.zeroValue")
  if fl / ReflectliteValue.flagAddr % 2 == 0 then unsupported (.noEntry "extern/(internal/reflectlite.Value).Set.unaddressable")
  let val ← loadVar src b
  if ← Rtype.directlyAssignable dst src then storeVar dst a val
  else if ← Rtype.implements dst src then
   if (← Rtype.kind src) == 20 then
    match val with
    | .nilIface => unsupported (.noEntry "extern/reflectlite: a nil value of one interface type handed on as a value of another")
    | _ => storeVar dst a val
   else storeVar dst a (.iface src val)
  else panicString ("reflectlite.Set: value of type " ++ (← Rtype.spelt src) ++ " is not assignable to type " ++ (← Rtype.spelt dst))
  pure (.tuple #[])) := rfl
theorem as_partsCa (a : Addr) (w : World) : (ReflectliteValue.parts (.agg #[.pointer (some ⟨1, 122, none⟩), .pointer (some a), .int .u64 386])).run Tryz.prog w = .ok (some (122, a, 386)) w := by kernel_rfl
theorem as_partsC (a : Addr) (w : World) : (ReflectliteValue.parts (.agg #[.pointer (some ⟨1, 122, none⟩), .pointer (some a), .int .u64 130])).run Tryz.prog w = .ok (some (122, a, 130)) w := by kernel_rfl
theorem as_directC (w : World) : (Rtype.directlyAssignable 122 122).run Tryz.prog w = .ok true w := by kernel_rfl
theorem as_setC (ta b : Addr) (c : Int) (old : Value) (W : World) (hb : W.cell? b = some (.int .i64 c)) (ht : W.cell? ta = some old) (hf : W.frozen? ta = false) :
  (ReflectliteValue.set #[.agg #[.pointer (some ⟨1, 122, none⟩), .pointer (some ta), .int .u64 386], .agg #[.pointer (some ⟨1, 122, none⟩), .pointer (some b), .int .u64 130]]).run Tryz.prog W
   = .ok (.tuple #[]) (W.setCell ta (.int .i64 c)) := by
 rw [as_rls]
 simp only [Sem.run_bind, as_partsCa, as_partsC, Result.andThen]
 simp [ReflectliteValue.flagAddr, loadVar, isAgg, underlying, Tryz.underlying122, hb, Result.andThen, as_directC, storeVar, Value.cells, storeCells, Addr.add]
 rw [run_store Tryz.prog W ta _ _ (by rfl)]
 simp [ht, hf]
set_option maxHeartbeats 4000000 in
theorem as_hitW (c : Int) (t : Addr) (old : Value) (w : World) (hg : w.cell? ⟨0, 0, none⟩ = some (.iface 235 (.agg #[.pointer (some ⟨1, 74, none⟩)]))) (ht0 : w.cell? t = some old) (hf0 : w.frozen? t = false) :
  Calls Tryz.prog 120 #[.iface 122 (.int .i64 c), .iface 164 (.pointer (some t))] w fun ev w' => ev = .returned (.bool true) ∧ w' = ((((w.alloc (.cells #[.pointer (some t)] 164)).alloc (.cells #[.pointer (some ⟨1, 164, none⟩), .pointer (some ⟨w.heap.size, 0, none⟩), .int .u64 150] 200)).alloc (.cells #[.pointer (some ⟨1, 164, none⟩), .pointer (some ⟨w.heap.size, 0, none⟩), .int .u64 150] 200)).alloc (.cells #[.int .i64 c] 122)).setCell t (.int .i64 c) := by
 have h6 := @run_callFunc_extern Tryz.prog 154 _ (fun args => ReflectliteValue.unpack (args.getD 0 (.tuple #[]))) Tryz.func154 (by kernel_rfl) (by kernel_rfl) (by kernel_rfl) (by kernel_rfl)
 have h7 := @run_callFunc_extern Tryz.prog 155 _ (ReflectliteValue.methodAny (ReflectliteValue.valueError "reflectlite.Value.Type" 0) (fun t _ _ _ => ReflectliteType.toType t)) Tryz.func155 (by kernel_rfl) (by kernel_rfl) (by kernel_rfl) (by kernel_rfl)
 have h8 := @run_callFunc_extern Tryz.prog 156 _ (ReflectliteValue.method (ReflectliteValue.valueError "reflectlite.Value.IsNil" 0) ReflectliteValue.isNil) Tryz.func156 (by kernel_rfl) (by kernel_rfl) (by kernel_rfl) (by kernel_rfl)
 have h27 := @run_callFunc_extern Tryz.prog 223 _ (ReflectliteType.abiMethod fun t => do pure (.int .u8 (← Rtype.kind t))) Tryz.func223 (by kernel_rfl) (by kernel_rfl) (by kernel_rfl) (by kernel_rfl)
 have h37 := @run_callFunc_extern Tryz.prog 239 _ (ReflectliteType.method ReflectliteType.elem) Tryz.func239 (by kernel_rfl) (by kernel_rfl) (by kernel_rfl) (by kernel_rfl)
 have h38 := @run_callFunc_extern Tryz.prog 240 _ (ReflectliteType.relation "Implements" ReflectliteType.implements_) Tryz.func240 (by kernel_rfl) (by kernel_rfl) (by kernel_rfl) (by kernel_rfl)
 have h10 := @run_callFunc_extern Tryz.prog 168 _ ReflectliteType.typeOf Tryz.func168 (by kernel_rfl) (by kernel_rfl) (by kernel_rfl) (by kernel_rfl)
 have h35 := @run_callFunc_extern Tryz.prog 237 _ (ReflectliteType.relation "AssignableTo" ReflectliteType.assignableTo) Tryz.func237 (by kernel_rfl) (by kernel_rfl) (by kernel_rfl) (by kernel_rfl)
 have h11 := @run_callFunc_extern Tryz.prog 179 _ (ReflectliteValue.method (ReflectliteValue.valueError "reflectlite.Value.Elem" 0) ReflectliteValue.elem) Tryz.func179 (by kernel_rfl) (by kernel_rfl) (by kernel_rfl) (by kernel_rfl)
 have h12 := @run_callFunc_extern Tryz.prog 180 _ ReflectliteValue.set Tryz.func180 (by kernel_rfl) (by kernel_rfl) (by kernel_rfl) (by kernel_rfl)
 have tO := as_typeOfC
 have mA := as_methodAssignableTo
 have a25 := as_assignableC
 have v25 := as_valueOfC
 have f6 := as_valueOfP
 have f7 := as_typeP
 have mK := as_methodKind
 have mE := as_methodElem
 have mI := as_methodImplements
 have k27 := as_kindP
 have k25 := as_kindC
 have e27 := as_elemP
 have i25 := as_implementsC
 have n8 := as_isNilP ⟨w.heap.size, 0, none⟩ t ((w.alloc (.cells #[.pointer (some t)] 164)).alloc (.cells #[.pointer (some ⟨1, 164, none⟩), .pointer (some ⟨w.heap.size, 0, none⟩), .int .u64 150] 200)) (by simp)
 have hlt : 0 < w.heap.size := by
  rcases Nat.eq_zero_or_pos w.heap.size with h0 | h
  ·simp [World.cell?, h0] at hg
  ·exact h
 have hg2 : ((w.alloc (.cells #[.pointer (some t)] 164)).alloc (.cells #[.pointer (some ⟨1, 164, none⟩), .pointer (some ⟨w.heap.size, 0, none⟩), .int .u64 150] 200)).cell? ⟨0, 0, none⟩ = some (.iface 235 (.agg #[.pointer (some ⟨1, 74, none⟩)])) := by
  rw [World.cell?_alloc_lt _ _ ⟨0, 0, none⟩ (by simp), World.cell?_alloc_lt _ _ ⟨0, 0, none⟩ hlt]; exact hg
 have htl : t.block < w.heap.size := by
  rcases Nat.lt_or_ge t.block w.heap.size with h | h
  ·exact h
  ·simp [World.cell?, Array.getElem?_eq_none h] at ht0
 have el := as_elemVP ⟨w.heap.size, 0, none⟩ t (((w.alloc (.cells #[.pointer (some t)] 164)).alloc (.cells #[.pointer (some ⟨1, 164, none⟩), .pointer (some ⟨w.heap.size, 0, none⟩), .int .u64 150] 200)).alloc (.cells #[.pointer (some ⟨1, 164, none⟩), .pointer (some ⟨w.heap.size, 0, none⟩), .int .u64 150] 200)) (by rw [World.cell?_alloc_lt _ _ ⟨w.heap.size, 0, none⟩ (by simp; omega)]; simp)
 have st := as_setC t ⟨w.heap.size + 1 + 1 + 1, 0, none⟩ c old ((((w.alloc (.cells #[.pointer (some t)] 164)).alloc (.cells #[.pointer (some ⟨1, 164, none⟩), .pointer (some ⟨w.heap.size, 0, none⟩), .int .u64 150] 200)).alloc (.cells #[.pointer (some ⟨1, 164, none⟩), .pointer (some ⟨w.heap.size, 0, none⟩), .int .u64 150] 200)).alloc (.cells #[.int .i64 c] 122))
  (by rw [World.cell?_alloc_at _ _ _ _ (by simp)]; rfl)
  (by rw [World.cell?_alloc_lt _ _ t (by simp; omega), World.cell?_alloc_lt _ _ t (by simp; omega), World.cell?_alloc_lt _ _ t (by simp; omega), World.cell?_alloc_lt _ _ t htl]; exact ht0)
  (by rw [World.frozen?_alloc_old _ _ t (by simp; omega), World.frozen?_alloc_old _ _ t (by simp; omega), World.frozen?_alloc_old _ _ t (by simp; omega), World.frozen?_alloc_old _ _ t (Nat.ne_of_lt htl)]; exact hf0)
 go_enter Tryz.func120, Tryz.ntmps120
 go_wp2
 refine wp_loop_rounds 1 ?_
 rw [rounds_succ]
 go_wp2
 go_ret
 exact ⟨rfl, rfl⟩
theorem as_nil (H : List AObj) (a : AV) : ACalls env 120 [.d .nili, a] H fun r H' => r = .d (.bool false) ∧ H' = H := by
 refine ⟨Go.Abs.enters_of Tryz.func120 rfl (by kernel_rfl), fun w F Γ vs hS hV => ?_⟩
 obtain ⟨v, rfl⟩ := RVL_nil hV
 refine (as_nilW v w).mono ?_
 rintro e w' ⟨rfl, rfl⟩
 exact ⟨_, _, H, F, Γ, rfl, hS, .d (.bool _), ⟨rfl, rfl⟩, Ext.refl (by rw [hS.len]; exact Nat.le_refl _)⟩
theorem as_hit (c : Int) (c0 : AV) : ACalls env 120 [.d (.iface 122 (.int .i64 c)), .iface 164 (.pvar 0 0)] [.var [c0]] fun r H' => r = .d (.bool true) ∧ H' = [.var [.d (.int .i64 c)]] := by
 refine ⟨Go.Abs.enters_of Tryz.func120 rfl (by kernel_rfl), fun w F Γ vs hS hV => ?_⟩
 obtain ⟨s, b, hs, hb, rfl⟩ := RVL_as hV
 exact out_as hS hs hb (fun old ht hf => as_hitW c ⟨b, 0, none⟩ old w (glob_cell (hS.glob 0 1 _ gl0)) ht hf)
end Go.Proofs.YtmeicgbddgeeoaaGreatDoor
end
section
set_option autoImplicit false
set_option linter.unusedVariables false
set_option linter.unusedSimpArgs false
namespace Go.Proofs.YtmeicgbddgeeoaaGreatDoor
open Go.RowKit Go.Extern.Stop Go.Stop Go.Extern Go.Abs
theorem is_typeOf (v : Value) (w : World) : (ReflectliteType.typeOf #[.iface 122 v]).run Tryz.prog w = .ok (.iface 235 (.agg #[.pointer (some ⟨1, 122, none⟩)])) w := by kernel_rfl
theorem is_methodCmp (h : Value) (w : World) : (Go.method 398 235 (.agg #[h]) "Comparable").run Tryz.prog w = .ok (238, .agg #[h]) w := by kernel_rfl
theorem is_cmp (w : World) : (ReflectliteType.method (fun t => do
   Rtype.noPackHeld "Comparable" t
   (fun a => Value.bool a.comparable) <$> typeInfo t) #[.agg #[.pointer (some ⟨1, 122, none⟩)]]).run Tryz.prog w = .ok (.bool true) w := by kernel_rfl
theorem is_methodUnwrap (h g : Value) (w : World) : (Go.method 398 169 (.agg #[h, g]) "Unwrap").run Tryz.prog w = .ok (232, .agg #[h, g]) w := by kernel_rfl
theorem is_noIsF (v : Value) (xT : TypeId) (w : World) : (Instr.typeAssert (.iface 169 v) xT 247 true).run Tryz.prog w = .ok (.tuple #[.nilIface, .bool false]) w := run_typeAssert_lacksB Tryz.underlying247 (by kernel_rfl) (by kernel_rfl) v xT w
theorem is_hasUn (v : Value) (xT : TypeId) (w : World) : (Instr.typeAssert (.iface 169 v) xT 242 true).run Tryz.prog w = .ok (.tuple #[.iface 169 v, .bool true]) w := run_typeAssert_hasB Tryz.underlying242 (by kernel_rfl) v xT w
theorem is_noIsC (v : Value) (xT : TypeId) (w : World) : (Instr.typeAssert (.iface 122 v) xT 247 true).run Tryz.prog w = .ok (.tuple #[.nilIface, .bool false]) w := run_typeAssert_lacksB Tryz.underlying247 (by kernel_rfl) (by kernel_rfl) v xT w
theorem is_noUnC (v : Value) (xT : TypeId) (w : World) : (Instr.typeAssert (.iface 122 v) xT 242 true).run Tryz.prog w = .ok (.tuple #[.nilIface, .bool false]) w := run_typeAssert_lacksB Tryz.underlying242 (by kernel_rfl) (by kernel_rfl) v xT w
theorem is_noUlC (v : Value) (xT : TypeId) (w : World) : (Instr.typeAssert (.iface 122 v) xT 243 true).run Tryz.prog w = .ok (.tuple #[.nilIface, .bool false]) w := run_typeAssert_lacksB Tryz.underlying243 (by kernel_rfl) (by kernel_rfl) v xT w
theorem is_eqN (c : Int) (w : World) : (binOp .eql 74 .nilIface (.iface 122 (.int .i64 c))).run Tryz.prog w = .ok (.bool false) w := by kernel_rfl
theorem is_eqFC (c a d : Int) (w : World) : (binOp .eql 74 (.iface 169 (.agg #[.int .i64 c, .int .i64 a])) (.iface 122 (.int .i64 d))).run Tryz.prog w = .ok (.bool false) w := by kernel_rfl
theorem is_eqCC (c d : Int) (w : World) : (binOp .eql 74 (.iface 122 (.int .i64 c)) (.iface 122 (.int .i64 d))).run Tryz.prog w = .ok (.bool (c == d)) w := by kernel_rfl
theorem is_eqFN (c a : Int) (w : World) : (binOp .eql 74 (.iface 169 (.agg #[.int .i64 c, .int .i64 a])) .nilIface).run Tryz.prog w = .ok (.bool false) w := by kernel_rfl
theorem is_eqCN (c : Int) (w : World) : (binOp .eql 74 (.iface 122 (.int .i64 c)) .nilIface).run Tryz.prog w = .ok (.bool false) w := by kernel_rfl
set_option maxRecDepth 100000 in
theorem is_nilW (c : Int) (w : World) :
  Calls Tryz.prog 136 #[.nilIface, .iface 122 (.int .i64 c)] w fun e w' => e = .returned (.bool false) ∧ w' = w := by
 have e1 := is_eqN
 go_enter Tryz.func136, Tryz.ntmps136
 go_wp2
 go_ret
 exact ⟨rfl, rfl⟩
set_option maxRecDepth 100000 in
set_option maxHeartbeats 4000000 in
theorem is_faultW (c a d : Int) (w : World) :
  Calls Tryz.prog 136 #[.iface 169 (.agg #[.int .i64 c, .int .i64 a]), .iface 122 (.int .i64 d)] w fun e w' => e = .returned (.bool (c == d)) ∧ Later w w' := by
 have h1 := @run_callFunc_extern Tryz.prog 168 _ ReflectliteType.typeOf Tryz.func168 (by kernel_rfl) (by kernel_rfl) (by kernel_rfl) (by kernel_rfl)
 have h2 := @run_callFunc_extern Tryz.prog 238 _ (ReflectliteType.method fun t => do Rtype.noPackHeld "Comparable" t; pure (.bool (← typeInfo t).comparable)) Tryz.func238 (by kernel_rfl) (by kernel_rfl) (by kernel_rfl) (by kernel_rfl)
 have tO := is_typeOf
 have mC := is_methodCmp
 have cC := is_cmp
 have mU := is_methodUnwrap
 have n1 := is_noIsF
 have n2 := is_hasUn
 have n3 := is_noIsC
 have n4 := is_noUnC
 have n5 := is_noUlC
 have e2 := is_eqFC
 have e4 := is_eqFN
 have e5 := is_eqCN
 by_cases hcd : c = d
 ·have e3 : ∀ w, (binOp .eql 74 (.iface 122 (.int .i64 c)) (.iface 122 (.int .i64 d))).run Tryz.prog w = .ok (.bool true) w := fun w => by rw [is_eqCC, hcd, beq_self_eq_true]
  rw [hcd, beq_self_eq_true]
  rw [hcd] at e3
  go_enter Tryz.func136, Tryz.ntmps136
  go_wp2
  refine wp_loop_rounds 3 ?_
  rw [rounds_succ]
  go_wp2
  rw [rounds_succ]
  go_wp2
  go_ret
  exact ⟨rfl, by repeat (first | exact Later.refl _ | refine Later.alloc ?_ _)⟩
 ·have hb : (c == d) = false := by simpa using hcd
  have e3 : ∀ w, (binOp .eql 74 (.iface 122 (.int .i64 c)) (.iface 122 (.int .i64 d))).run Tryz.prog w = .ok (.bool false) w := fun w => by rw [is_eqCC, hb]
  rw [hb]
  go_enter Tryz.func136, Tryz.ntmps136
  go_wp2
  refine wp_loop_rounds 3 ?_
  rw [rounds_succ]
  go_wp2
  rw [rounds_succ]
  go_wp2
  go_ret
  exact ⟨rfl, by repeat (first | exact Later.refl _ | refine Later.alloc ?_ _)⟩
theorem is_ok (o : Option (Int × Int)) (d : Int) : PCall env 136 [errF o, .iface 122 (.int .i64 d)] (.bool (o.any fun x => x.1 == d)) := by
 refine pcall_later (E := env) (enters_of (P := Tryz.prog) (fn := Tryz.f136) (c := Tryz.f136.body.getD .skip) Tryz.func136 (by kernel_rfl) (by kernel_rfl)) fun w F Γ vs hS hV => ?_
 obtain ⟨x, y, rfl, h1, h2⟩ := RVL_two hV
 obtain rfl := rd_ifaceI h2.of_d
 cases o with
 | none =>
  obtain rfl := rd_nili h1.of_d
  exact ⟨_, fun _ _ => .bool _, (is_nilW d w).mono fun e w' ⟨h3, h4⟩ => ⟨h3, h4 ▸ Later.refl w⟩⟩
 | some p =>
  obtain rfl := rd_ifaceF h1.of_d
  exact ⟨_, fun _ _ => .bool _, is_faultW p.1 p.2 d w⟩
end Go.Proofs.YtmeicgbddgeeoaaGreatDoor
end
section
set_option autoImplicit false
set_option linter.unusedVariables false
set_option linter.unusedSimpArgs false
namespace Go.Proofs.YtmeicgbddgeeoaaGreatDoor
open Go.Abs
theorem clone_nil : ACalls env 117 [.d .nils] [] fun r H' => r = .sfull 0 ∧ H' = [.arr 2 1 (ints [])] :=
 (clone_ok [] (by unfold Sz; simp)).argv (by simp [avsOk, avOk, argOk, ints])
def nodeD : Option Ent → D
 | none => .tup [.agg [.int .i64 0, .slice 1 []], .bool false]
 | some e => .tup [.agg [.int .i64 e.1, .slice 1 (ints e.2.1)], .bool true]
set_option maxRecDepth 8000 in
theorem nget_ok (d sz : Int) (L : List (Int × Ent)) (k : Int) (hL : InE L) :
  ACalls env 133 [.pvar 2 0, .d (.int .i64 k)] (Ns d sz L) fun r H' => r = .d (nodeD (lget L k)) ∧ H' = Ns d sz L := by
 unfold Ns
 refine ACalls.cutTo [0, 1, 2] rfl ?_ (fun l => by simp [Tb, Ns, fE, errD, errF, sbl, ren_none, ren_var, ren_arr, ren_map, ren_mapb, ren_iter, ren_loop, ren_defr, bel_none, bel_var, bel_arr, bel_map, bel_mapb, bel_iter, bel_loop, bel_defr, AV.renL, AV.ren, AV.belL, AV.bel, rn]) (fun m => by simp [tellL, AV.ren, AV.renL, AV.bel, AV.belL, rn])
 refine acalls_of envOk Tryz.func133 rfl (by kernel_rfl) (m := 22) rfl ?_
 simp only [push_cast, simprocAttr]
 refine (nnodes_ok d sz L).at [0, 1, 2] (by simp [Tb, Ns, fE, errD, errF, sbl, ren_none, ren_var, ren_arr, ren_map, ren_mapb, ren_iter, ren_loop, ren_defr, bel_none, bel_var, bel_arr, bel_map, bel_mapb, bel_iter, bel_loop, bel_defr, AV.renL, AV.ren, AV.belL, AV.bel, rn]) (by simp) (by simp [Tb, Ns, fE, errD, errF]) (by simp [Tb, Ns, fE, errD, errF, AV.ren, AV.renL, rn]) (by simp [AV.belL, AV.bel]) (WK.now ?_)
 simp only [Ns, push_cast, simprocAttr]
 refine (getE_ok sz L k).at [0, 1] (by simp [Tb, Ns, fE, errD, errF, sbl, ren_none, ren_var, ren_arr, ren_map, ren_mapb, ren_iter, ren_loop, ren_defr, bel_none, bel_var, bel_arr, bel_map, bel_mapb, bel_iter, bel_loop, bel_defr, AV.renL, AV.ren, AV.belL, AV.bel, rn]) (by simp) (by simp [Tb, Ns, fE, errD, errF]) (by simp [Tb, Ns, fE, errD, errF, AV.ren, AV.renL, rn]) (by simp [AV.belL, AV.bel]) (WK.now ?_)
 simp only [Tb, gotE, push_cast, simprocAttr]
 cases hl : lget L k with
 | none =>
  simp only [push_cast, simprocAttr]
  refine DRegL.two [0, 1, 2, 3, 4, 5, 8] [6, 7, 9, 10] (by unfold Draw2; kernel_rfl) (by kernel_rfl) (by kernel_rfl) ?_
  simp only [push_cast, simprocAttr]
  refine clone_nil.at [] (by simp [Tb, Ns, fE, errD, errF, sbl, ren_none, ren_var, ren_arr, ren_map, ren_mapb, ren_iter, ren_loop, ren_defr, bel_none, bel_var, bel_arr, bel_map, bel_mapb, bel_iter, bel_loop, bel_defr, AV.renL, AV.ren, AV.belL, AV.bel, rn]) (by simp) (by simp [Tb, Ns, fE, errD, errF]) (by simp [Tb, Ns, fE, errD, errF, AV.ren, AV.renL, rn]) (by simp [AV.belL, AV.bel]) ?_
  simp only [push_cast, simprocAttr]
  refine WK.frz 5 rfl (WK.now ?_)
  simp only [nodeD, push_cast, simprocAttr]
  first | done | exact ⟨_, rfl⟩ | exact ⟨rfl, _, rfl⟩
 | some e =>
  have he := (hL k e hl).2.2.1
  simp only [fE, push_cast, simprocAttr]
  refine DRegL.two [0, 1, 2, 3, 4, 5, 8] [6, 7, 9, 10] (by unfold Draw2; kernel_rfl) (by kernel_rfl) (by kernel_rfl) ?_
  simp only [push_cast, simprocAttr]
  refine (clone_ok e.2.1 he).at [] (by simp [Tb, Ns, fE, errD, errF, sbl, ren_none, ren_var, ren_arr, ren_map, ren_mapb, ren_iter, ren_loop, ren_defr, bel_none, bel_var, bel_arr, bel_map, bel_mapb, bel_iter, bel_loop, bel_defr, AV.renL, AV.ren, AV.belL, AV.bel, rn]) (by simp) (by simp [Tb, Ns, fE, errD, errF]) (by simp [Tb, Ns, fE, errD, errF, AV.ren, AV.renL, rn]) (by simp [AV.belL, AV.bel]) ?_
  simp only [push_cast, simprocAttr]
  refine WK.frz 5 rfl (WK.now ?_)
  simp only [nodeD, push_cast, simprocAttr]
  first | done | exact ⟨_, rfl⟩ | exact ⟨rfl, _, rfl⟩
set_option maxRecDepth 8000 in
theorem nadd_ok (d sz : Int) (L : List (Int × Ent)) (k : Int) (cap : List Int) (hd : d ≤ 1000000) (h : 0 ≤ sz ∧ sz ≤ 9223372036854775807 ∧ L.length ≤ 4611686018427387904) (hc : cap.length ≤ 9223372036854775807) :
  ACalls env 76 [.pvar 2 0, .d (.agg [.int .i64 k, .slice 1 (ints cap)])] (Ns d sz L) fun r H' => r = .d (errF (naddE d sz L k cap)) ∧ H' = Ns d sz (naddL d sz L k cap) := by
 unfold Ns
 refine ACalls.cutTo [0, 1, 2] rfl ?_ (fun l => by simp [Tb, Ns, fE, errD, errF, sbl, ren_none, ren_var, ren_arr, ren_map, ren_mapb, ren_iter, ren_loop, ren_defr, bel_none, bel_var, bel_arr, bel_map, bel_mapb, bel_iter, bel_loop, bel_defr, AV.renL, AV.ren, AV.belL, AV.bel, rn]) (fun m => by simp [tellL, AV.ren, AV.renL, AV.bel, AV.belL, rn])
 refine acalls_of envOk Tryz.func76 rfl (by kernel_rfl) (m := 43) rfl ?_
 simp only [push_cast, simprocAttr]
 refine DRegL.one (by unfold DrawOK; kernel_rfl) ?_
 simp only [push_cast, simprocAttr]
 refine (vwrong_ok cap d hc).quiet' (by first | exact ⟨.inl rfl, trivial⟩ | exact ⟨.inl rfl, .inl rfl, trivial⟩ | exact ⟨.inl rfl, .inl rfl, .inl rfl, trivial⟩ | simp [argsOk, argOk, sl, sll]) ?_
 simp only [push_cast, simprocAttr]
 refine Kbr.mk (fun c => ?_) (fun c => ?_)
 ·have c1 : 0 ≤ wrongS cap d := by have := of_decide_eq_true c; omega
  simp only [push_cast, simprocAttr]
  refine (fnew_ok 3 (wrongS cap d)).go (by first | exact ⟨.inl rfl, trivial⟩ | exact ⟨.inl rfl, .inl rfl, trivial⟩ | exact ⟨.inl rfl, .inl rfl, .inl rfl, trivial⟩ | simp [argsOk, argOk, sl, sll]) (WK.now ?_)
  simp only [push_cast, simprocAttr]
  refine WK.now ?_
  simp only [naddE, naddL, c1, if_true, push_cast, simprocAttr]
  first | done | exact ⟨_, rfl⟩ | exact ⟨rfl, _, rfl⟩
 ·have c1 : ¬ 0 ≤ wrongS cap d := by have := of_decide_eq_false c; omega
  simp only [push_cast, simprocAttr]
  have hc' : Sz cap := by have := (wrongS_neg c1).1; unfold Sz; omega
  refine (clone_ok cap hc').at [] (by simp [Tb, Ns, fE, errD, errF, sbl, ren_none, ren_var, ren_arr, ren_map, ren_mapb, ren_iter, ren_loop, ren_defr, bel_none, bel_var, bel_arr, bel_map, bel_mapb, bel_iter, bel_loop, bel_defr, AV.renL, AV.ren, AV.belL, AV.bel, rn]) (by simp) (by simp [Tb, Ns, fE, errD, errF]) (by simp [Tb, Ns, fE, errD, errF, AV.ren, AV.renL, rn]) (by simp [AV.belL, AV.bel]) (WK.frz 4 rfl (WK.now ?_))
  simp only [push_cast, simprocAttr]
  refine DRegL.two [0, 1, 2, 3, 4, 5, 6, 7, 8, 9, 10] [11, 12, 13, 14] (by unfold Draw2; kernel_rfl) (by kernel_rfl) (by kernel_rfl) ?_
  simp only [push_cast, simprocAttr]
  refine (zero_ok d hd).go (by first | exact ⟨.inl rfl, trivial⟩ | exact ⟨.inl rfl, .inl rfl, trivial⟩ | exact ⟨.inl rfl, .inl rfl, .inl rfl, trivial⟩ | simp [argsOk, argOk, sl, sll]) ?_
  simp only [push_cast, simprocAttr]
  refine (addE_ok sz L k (k, cap, List.replicate (max d 0).toNat 0) h).at [0, 1] (by simp [Tb, Ns, fE, errD, errF, sbl, ren_none, ren_var, ren_arr, ren_map, ren_mapb, ren_iter, ren_loop, ren_defr, bel_none, bel_var, bel_arr, bel_map, bel_mapb, bel_iter, bel_loop, bel_defr, AV.renL, AV.ren, AV.belL, AV.bel, rn]) (by simp) (by simp [Tb, Ns, fE, errD, errF]) (by simp [Tb, Ns, fE, errD, errF, AV.ren, AV.renL, rn]) (by simp [AV.belL, AV.bel]) ?_
  simp only [Tb, push_cast, simprocAttr]
  cases hE : addE sz L k with
  | none =>
   simp only [errD, push_cast, simprocAttr]
   refine (as_nil [.var [.d (.int .i64 0)]] (.iface 164 (.pvar 0 0))).at [5] (by simp [Tb, Ns, fE, errD, errF, sbl, ren_none, ren_var, ren_arr, ren_map, ren_mapb, ren_iter, ren_loop, ren_defr, bel_none, bel_var, bel_arr, bel_map, bel_mapb, bel_iter, bel_loop, bel_defr, AV.renL, AV.ren, AV.belL, AV.bel, rn]) (by simp) (by simp [Tb, Ns, fE, errD, errF]) (by simp [Tb, Ns, fE, errD, errF, AV.ren, AV.renL, rn]) (by simp [AV.belL, AV.bel]) (WK.now ?_)
   simp only [push_cast, simprocAttr]
   refine WK.now ?_
   simp only [naddE, naddL, addF, hE, c1, if_false, Option.map_none, errF, push_cast, simprocAttr]
   first | done | exact ⟨_, rfl⟩ | exact ⟨rfl, _, rfl⟩
  | some e =>
   simp only [errD, push_cast, simprocAttr]
   refine (as_hit e (.d (.int .i64 0))).at [5] (by simp [Tb, Ns, fE, errD, errF, sbl, ren_none, ren_var, ren_arr, ren_map, ren_mapb, ren_iter, ren_loop, ren_defr, bel_none, bel_var, bel_arr, bel_map, bel_mapb, bel_iter, bel_loop, bel_defr, AV.renL, AV.ren, AV.belL, AV.bel, rn]) (by simp) (by simp [Tb, Ns, fE, errD, errF]) (by simp [Tb, Ns, fE, errD, errF, AV.ren, AV.renL, rn]) (by simp [AV.belL, AV.bel]) (WK.now ?_)
   simp only [push_cast, simprocAttr]
   refine (fnew_ok e 0).go (by first | exact ⟨.inl rfl, trivial⟩ | exact ⟨.inl rfl, .inl rfl, trivial⟩ | exact ⟨.inl rfl, .inl rfl, .inl rfl, trivial⟩ | simp [argsOk, argOk, sl, sll]) (WK.now ?_)
   simp only [push_cast, simprocAttr]
   refine WK.now ?_
   simp only [naddE, naddL, addF, hE, c1, if_false, Option.map_some, errF, push_cast, simprocAttr]
   first | done | exact ⟨_, rfl⟩ | exact ⟨rfl, _, rfl⟩
end Go.Proofs.YtmeicgbddgeeoaaGreatDoor
end
section
set_option autoImplicit false
set_option linter.unusedVariables false
set_option linter.unusedSimpArgs false
namespace Go.Proofs.YtmeicgbddgeeoaaGreatDoor
open Go.Abs
def ents : List (Int × Int × Int) := [(1, 1, 3), (2, 1, 3), (1, 2, 2), (2, 2, 2), (2, 3, 1), (3, 4, 4), (1, 5, 5), (2, 5, 5), (3, 5, 5), (4, 5, 5)]
def keyD (a b : Int) : D := .agg [.int .i64 a, .int .i64 b]
def entD (j : Nat) : D × D := (keyD (ents.getD j (0, 0, 0)).1 (ents.getD j (0, 0, 0)).2.1, .int .i64 (ents.getD j (0, 0, 0)).2.2)
structure litI (L : Nat → Bool) (t : List AV) (H : List AObj) (ds : List Nat) : Prop where
 len : t.length = 13
 dsn : ds = []
 c0 : L 0 = false → H = []
 dep : ∀ j, j < 10 → L (2 * j + 2) = true → L 0 = true
 c1 : L 0 = true → t[1]? = some (.mapo 0) ∧ ∃ es, H = [.map es] ∧ (∀ p ∈ es, ∃ j, j < 10 ∧ L (2 * j + 2) = true ∧ p = entD j) ∧ ∀ j, j < 10 → L (2 * j + 2) = true → entD j ∈ es
 bld : ∀ j, j < 10 → L (2 * j + 1) = true → t[j + 2]? = some (.d (entD j).1)
 c21 : L 21 = true → t[12]? = some (.mapo 0)
 c22 : L 22 = true → t[0]? = some (.mapo 0)
theorem keyD_eq {a b c d : Int} : dkeq (keyD a b) (keyD c d) = (a == c && b == d) := by simp [keyD, dkeq, skeqL, skeq]
theorem ent_ne : ∀ j, j < 10 → ∀ k, k < 10 → dkeq (entD j).1 (entD k).1 = true → j = k := by
 have : ∀ j : Fin 10, ∀ k : Fin 10, ((ents.getD j.1 (0, 0, 0)).1 == (ents.getD k.1 (0, 0, 0)).1 && (ents.getD j.1 (0, 0, 0)).2.1 == (ents.getD k.1 (0, 0, 0)).2.1) = true → j = k := by decide
 intro j hj k hk h
 unfold entD at h
 rw [keyD_eq] at h
 exact congrArg Fin.val (this ⟨j, hj⟩ ⟨k, hk⟩ h)
section
variable {L : Nat → Bool} {t : List AV} {H : List AObj} {ds : List Nat}
theorem set_ne' {i k : Nat} (h : k ≠ i) : setL' L i k = L k := by unfold setL'; rw [if_neg h]
theorem set_eq' {i : Nat} : setL' L i i = true := by unfold setL'; rw [if_pos rfl]
theorem getD_of {i : Nat} {v : AV} (h : t[i]? = some v) : t.getD i .x = v := by rw [List.getD_eq_getElem?_getD, h]; rfl
theorem litI_map (h : litI L t H ds) (h0 : L 0 = false) : litI (setL' L 0) (t.set 1 (.mapo H.length)) (H ++ [.map []]) ds := by
 obtain ⟨h1, h2, h3, h4, h5, h6, h7, h8⟩ := h
 obtain rfl := h3 h0
 have no : ∀ j, j < 10 → L (2 * j + 2) = true → False := fun j hj hl => by rw [h4 j hj hl] at h0; cases h0
 refine ⟨by simpa using h1, h2, fun h => (by rw [set_eq'] at h; cases h), fun j hj _ => set_eq', fun _ => ⟨by simp [List.getElem?_set, h1], [], rfl, by simp, fun j hj hl => ?_⟩, fun j hj hl => ?_, fun hl => ?_, fun hl => ?_⟩
 ·rw [set_ne' (by omega)] at hl; exact (no j hj hl).elim
 ·rw [set_ne' (by omega)] at hl; rw [List.getElem?_set_ne (by omega)]; exact h6 j hj hl
 ·rw [set_ne' (by omega)] at hl; rw [List.getElem?_set_ne (by omega)]; exact h7 hl
 ·rw [set_ne' (by omega)] at hl; rw [List.getElem?_set_ne (by omega)]; exact h8 hl
theorem litI_build (j : Nat) (hj : j < 10) (h : litI L t H ds) : litI (setL' L (2 * j + 1)) (t.set (j + 2) (.d (entD j).1)) H ds := by
 obtain ⟨h1, h2, h3, h4, h5, h6, h7, h8⟩ := h
 refine ⟨by simpa using h1, h2, fun h => h3 (by rwa [set_ne' (by omega)] at h), fun k hk hl => ?_, fun hl => ?_, fun k hk hl => ?_, fun hl => ?_, fun hl => ?_⟩
 ·rw [set_ne' (by omega)] at hl ⊢; exact h4 k hk hl
 ·rw [set_ne' (by omega)] at hl
  obtain ⟨g1, es, g2, g3, g4⟩ := h5 hl
  refine ⟨by rw [List.getElem?_set_ne (by omega)]; exact g1, es, g2, fun p hp => ?_, fun k hk hl => ?_⟩
  ·obtain ⟨k, k1, k2, k3⟩ := g3 p hp
   exact ⟨k, k1, by rw [set_ne' (by omega)]; exact k2, k3⟩
  ·rw [set_ne' (by omega)] at hl; exact g4 k hk hl
 ·by_cases hk' : k = j
  ·subst hk'; rw [List.getElem?_set_self (by omega)]
  ·rw [set_ne' (by omega)] at hl; rw [List.getElem?_set_ne (by omega)]; exact h6 k hk hl
 ·rw [set_ne' (by omega)] at hl; rw [List.getElem?_set_ne (by omega)]; exact h7 hl
 ·rw [set_ne' (by omega)] at hl; rw [List.getElem?_set_ne (by omega)]; exact h8 hl
theorem litI_put (j : Nat) (hj : j < 10) (h : litI L t H ds) (h0 : L 0 = true) (h1 : L (2 * j + 1) = true) (hn : L (2 * j + 2) = false) :
  ∃ es, H = [.map es] ∧ t[1]? = some (.mapo 0) ∧ t[j + 2]? = some (.d (entD j).1) ∧ (∀ p ∈ es, isAggK [.int .i64, .int .i64] p.1 = true) ∧
   litI (setL' L (2 * j + 2)) t [.map (dput es (entD j).1 (entD j).2)] ds := by
 obtain ⟨g1, g2, g3, g4, g5, g6, g7, g8⟩ := h
 obtain ⟨k1, es, k2, k3, k4⟩ := g5 h0
 have hnone : es.findIdx? (fun p => dkeq (entD j).1 p.1) = none := by
  rw [List.findIdx?_eq_none_iff]
  intro p hp
  obtain ⟨k, q1, q2, rfl⟩ := k3 p hp
  cases hd : dkeq (entD j).1 (entD k).1 with
  | false => rfl
  | true =>
   have := ent_ne j hj k q1 hd
   subst this
   rw [hn] at q2; cases q2
 have hput : dput es (entD j).1 (entD j).2 = es ++ [entD j] := by unfold dput; rw [hnone]
 refine ⟨es, k2, k1, g6 j hj h1, fun p hp => ?_, g1, g2, fun h => ?_, fun k hk hl => ?_, fun _ => ⟨k1, _, rfl, fun p hp => ?_, fun k hk hl => ?_⟩, fun k hk hl => ?_, fun hl => ?_, fun hl => ?_⟩
 ·obtain ⟨k, _, _, rfl⟩ := k3 p hp; rfl
 ·rw [set_ne' (by omega)] at h; rw [h] at h0; cases h0
 ·rw [set_ne' (by omega)]; exact h0
 ·rw [hput, List.mem_append] at hp
  rcases hp with hp | hp
  ·obtain ⟨k, q1, q2, q3⟩ := k3 p hp
   refine ⟨k, q1, ?_, q3⟩
   by_cases e : k = j
   ·subst e; exact set_eq'
   ·rw [set_ne' (by omega)]; exact q2
  ·rw [List.mem_singleton] at hp
   exact ⟨j, hj, set_eq', hp⟩
 ·rw [hput, List.mem_append]
  by_cases e : k = j
  ·subst e; exact .inr (by simp)
  ·rw [set_ne' (by omega)] at hl; exact .inl (k4 k hk hl)
 ·rw [set_ne' (by omega)] at hl; exact g6 k hk hl
 ·rw [set_ne' (by omega)] at hl; exact g7 hl
 ·rw [set_ne' (by omega)] at hl; exact g8 hl
theorem litI_move (h : litI L t H ds) (h0 : L 0 = true) : t[1]? = some (.mapo 0) ∧ litI (setL' L 21) (t.set 12 (.mapo 0)) H ds := by
 obtain ⟨g1, g2, g3, g4, g5, g6, g7, g8⟩ := h
 obtain ⟨k1, es, k2, k3, k4⟩ := g5 h0
 refine ⟨k1, by simpa using g1, g2, fun h => g3 (by rwa [set_ne' (by omega)] at h), fun k hk hl => by rw [set_ne' (by omega)] at hl ⊢; exact g4 k hk hl, fun _ => ⟨by rw [List.getElem?_set_ne (by omega)]; exact k1, es, k2, fun p hp => ?_, fun k hk hl => by rw [set_ne' (by omega)] at hl; exact k4 k hk hl⟩, fun k hk hl => ?_, fun hl => ?_, fun hl => ?_⟩
 ·obtain ⟨k, q1, q2, q3⟩ := k3 p hp
  exact ⟨k, q1, by rw [set_ne' (by omega)]; exact q2, q3⟩
 ·rw [set_ne' (by omega)] at hl; rw [List.getElem?_set_ne (by omega)]; exact g6 k hk hl
 ·rw [List.getElem?_set_self (by omega)]
 ·rw [set_ne' (by omega)] at hl; rw [List.getElem?_set_ne (by omega)]; exact g8 hl
theorem litI_last (h : litI L t H ds) (h0 : L 0 = true) (h21 : L 21 = true) : t[12]? = some (.mapo 0) ∧ litI (setL' L 22) (t.set 0 (.mapo 0)) H ds := by
 obtain ⟨g1, g2, g3, g4, g5, g6, g7, g8⟩ := h
 obtain ⟨k1, es, k2, k3, k4⟩ := g5 h0
 refine ⟨g7 h21, by simpa using g1, g2, fun h => g3 (by rwa [set_ne' (by omega)] at h), fun k hk hl => by rw [set_ne' (by omega)] at hl ⊢; exact g4 k hk hl, fun _ => ⟨by rw [List.getElem?_set_ne (by omega)]; exact k1, es, k2, fun p hp => ?_, fun k hk hl => by rw [set_ne' (by omega)] at hl; exact k4 k hk hl⟩, fun k hk hl => ?_, fun hl => ?_, fun hl => ?_⟩
 ·obtain ⟨k, q1, q2, q3⟩ := k3 p hp
  exact ⟨k, q1, by rw [set_ne' (by omega)]; exact q2, q3⟩
 ·rw [set_ne' (by omega)] at hl; rw [List.getElem?_set_ne (by omega)]; exact g6 k hk hl
 ·rw [set_ne' (by omega)] at hl; rw [List.getElem?_set_ne (by omega)]; exact g7 hl
 ·rw [List.getElem?_set_self (by omega)]
end
set_option maxRecDepth 8000 in
theorem ptable_ok : ACalls env 166 [] [] fun r H' => r = .mapo 0 ∧ ∃ es, H' = [.map es] ∧ (∀ p ∈ es, ∃ j, j < 10 ∧ p = entD j) ∧ ∀ j, j < 10 → entD j ∈ es := by
 refine acalls_of envOk Tryz.func166 rfl (by kernel_rfl) (m := 13) rfl ?_
 simp only [push_cast, simprocAttr, key3, key217, isIntK_int]
 refine DRegL.any (by kernel_rfl) ⟨litI, ⟨rfl, rfl, fun _ => rfl, fun _ _ h => (by cases h), fun h => (by cases h), fun _ _ h => (by cases h), fun h => (by cases h), fun h => (by cases h)⟩, fun L t H ds hI hall => ?_, fun L t H ds i o hI ho hL hdep => ?_⟩
 ·obtain ⟨h1, rfl, h3, h4, h5, h6, h7, h8⟩ := hI
  obtain ⟨k1, es, rfl, k3, k4⟩ := h5 (hall 0 (by decide))
  have e0 := h8 (hall 22 (by decide))
  have g0 := getD_of e0
  simp only [push_cast, simprocAttr, key3, key217, isIntK_int]
  refine WK.now ?_
  simp only [g0, push_cast, simprocAttr, key3, key217, isIntK_int]
  refine ⟨es, rfl, fun p hp => ?_, fun j hj => k4 j hj (hall (2 * j + 2) (show 2 * j + 2 < 23 by omega))⟩
  obtain ⟨j, q1, _, q3⟩ := k3 p hp
  exact ⟨j, q1, q3⟩
 ·have hdl : ∀ e ∈ o.after.toList, Region.binds .any e = true → L e.on = true := fun e he hb => hdep e (Array.mem_toList_iff.1 he) hb
  clear hdep
  match i, ho, hL with
  | 0, ho, hL =>
   simp only [List.getElem?_toArray, List.getElem?_cons_zero, List.getElem?_cons_succ] at ho
   obtain rfl := Option.some.inj ho
   refine .inr ⟨rfl, _, ?_, fun _ _ h => h⟩
   simp only [push_cast, simprocAttr, key3, key217, isIntK_int]
   exact litI_map hI hL
  | 1, ho, hL =>
   simp only [List.getElem?_toArray, List.getElem?_cons_zero, List.getElem?_cons_succ] at ho
   obtain rfl := Option.some.inj ho
   refine .inr ⟨rfl, _, ?_, fun _ _ h => h⟩
   simp only [push_cast, simprocAttr, key3, key217, isIntK_int]
   exact litI_build 0 (by omega) hI
  | 2, ho, hL =>
   simp only [List.getElem?_toArray, List.getElem?_cons_zero, List.getElem?_cons_succ] at ho
   obtain rfl := Option.some.inj ho
   refine .inr ⟨rfl, _, ?_, fun _ _ h => h⟩
   have h0 : L 0 = true := hdl ⟨0, .data⟩ (by simp) rfl
   have h1 : L 1 = true := hdl ⟨1, .data⟩ (by simp) rfl
   obtain ⟨es, rfl, e1, e2, e3, e4⟩ := litI_put 0 (by omega) hI h0 h1 hL
   have g1 := getD_of e1
   have g2 : t.getD 2 .x = .d (.agg [.int .i64 1, .int .i64 1]) := getD_of e2
   simp only [g1, g2, push_cast, simprocAttr, key3, key217, isIntK_int]
   exact ⟨e3, e4⟩
  | 3, ho, hL =>
   simp only [List.getElem?_toArray, List.getElem?_cons_zero, List.getElem?_cons_succ] at ho
   obtain rfl := Option.some.inj ho
   refine .inr ⟨rfl, _, ?_, fun _ _ h => h⟩
   simp only [push_cast, simprocAttr, key3, key217, isIntK_int]
   exact litI_build 1 (by omega) hI
  | 4, ho, hL =>
   simp only [List.getElem?_toArray, List.getElem?_cons_zero, List.getElem?_cons_succ] at ho
   obtain rfl := Option.some.inj ho
   refine .inr ⟨rfl, _, ?_, fun _ _ h => h⟩
   have h0 : L 0 = true := hdl ⟨0, .data⟩ (by simp) rfl
   have h1 : L 3 = true := hdl ⟨3, .data⟩ (by simp) rfl
   obtain ⟨es, rfl, e1, e2, e3, e4⟩ := litI_put 1 (by omega) hI h0 h1 hL
   have g1 := getD_of e1
   have g2 : t.getD 3 .x = .d (.agg [.int .i64 2, .int .i64 1]) := getD_of e2
   simp only [g1, g2, push_cast, simprocAttr, key3, key217, isIntK_int]
   exact ⟨e3, e4⟩
  | 5, ho, hL =>
   simp only [List.getElem?_toArray, List.getElem?_cons_zero, List.getElem?_cons_succ] at ho
   obtain rfl := Option.some.inj ho
   refine .inr ⟨rfl, _, ?_, fun _ _ h => h⟩
   simp only [push_cast, simprocAttr, key3, key217, isIntK_int]
   exact litI_build 2 (by omega) hI
  | 6, ho, hL =>
   simp only [List.getElem?_toArray, List.getElem?_cons_zero, List.getElem?_cons_succ] at ho
   obtain rfl := Option.some.inj ho
   refine .inr ⟨rfl, _, ?_, fun _ _ h => h⟩
   have h0 : L 0 = true := hdl ⟨0, .data⟩ (by simp) rfl
   have h1 : L 5 = true := hdl ⟨5, .data⟩ (by simp) rfl
   obtain ⟨es, rfl, e1, e2, e3, e4⟩ := litI_put 2 (by omega) hI h0 h1 hL
   have g1 := getD_of e1
   have g2 : t.getD 4 .x = .d (.agg [.int .i64 1, .int .i64 2]) := getD_of e2
   simp only [g1, g2, push_cast, simprocAttr, key3, key217, isIntK_int]
   exact ⟨e3, e4⟩
  | 7, ho, hL =>
   simp only [List.getElem?_toArray, List.getElem?_cons_zero, List.getElem?_cons_succ] at ho
   obtain rfl := Option.some.inj ho
   refine .inr ⟨rfl, _, ?_, fun _ _ h => h⟩
   simp only [push_cast, simprocAttr, key3, key217, isIntK_int]
   exact litI_build 3 (by omega) hI
  | 8, ho, hL =>
   simp only [List.getElem?_toArray, List.getElem?_cons_zero, List.getElem?_cons_succ] at ho
   obtain rfl := Option.some.inj ho
   refine .inr ⟨rfl, _, ?_, fun _ _ h => h⟩
   have h0 : L 0 = true := hdl ⟨0, .data⟩ (by simp) rfl
   have h1 : L 7 = true := hdl ⟨7, .data⟩ (by simp) rfl
   obtain ⟨es, rfl, e1, e2, e3, e4⟩ := litI_put 3 (by omega) hI h0 h1 hL
   have g1 := getD_of e1
   have g2 : t.getD 5 .x = .d (.agg [.int .i64 2, .int .i64 2]) := getD_of e2
   simp only [g1, g2, push_cast, simprocAttr, key3, key217, isIntK_int]
   exact ⟨e3, e4⟩
  | 9, ho, hL =>
   simp only [List.getElem?_toArray, List.getElem?_cons_zero, List.getElem?_cons_succ] at ho
   obtain rfl := Option.some.inj ho
   refine .inr ⟨rfl, _, ?_, fun _ _ h => h⟩
   simp only [push_cast, simprocAttr, key3, key217, isIntK_int]
   exact litI_build 4 (by omega) hI
  | 10, ho, hL =>
   simp only [List.getElem?_toArray, List.getElem?_cons_zero, List.getElem?_cons_succ] at ho
   obtain rfl := Option.some.inj ho
   refine .inr ⟨rfl, _, ?_, fun _ _ h => h⟩
   have h0 : L 0 = true := hdl ⟨0, .data⟩ (by simp) rfl
   have h1 : L 9 = true := hdl ⟨9, .data⟩ (by simp) rfl
   obtain ⟨es, rfl, e1, e2, e3, e4⟩ := litI_put 4 (by omega) hI h0 h1 hL
   have g1 := getD_of e1
   have g2 : t.getD 6 .x = .d (.agg [.int .i64 2, .int .i64 3]) := getD_of e2
   simp only [g1, g2, push_cast, simprocAttr, key3, key217, isIntK_int]
   exact ⟨e3, e4⟩
  | 11, ho, hL =>
   simp only [List.getElem?_toArray, List.getElem?_cons_zero, List.getElem?_cons_succ] at ho
   obtain rfl := Option.some.inj ho
   refine .inr ⟨rfl, _, ?_, fun _ _ h => h⟩
   simp only [push_cast, simprocAttr, key3, key217, isIntK_int]
   exact litI_build 5 (by omega) hI
  | 12, ho, hL =>
   simp only [List.getElem?_toArray, List.getElem?_cons_zero, List.getElem?_cons_succ] at ho
   obtain rfl := Option.some.inj ho
   refine .inr ⟨rfl, _, ?_, fun _ _ h => h⟩
   have h0 : L 0 = true := hdl ⟨0, .data⟩ (by simp) rfl
   have h1 : L 11 = true := hdl ⟨11, .data⟩ (by simp) rfl
   obtain ⟨es, rfl, e1, e2, e3, e4⟩ := litI_put 5 (by omega) hI h0 h1 hL
   have g1 := getD_of e1
   have g2 : t.getD 7 .x = .d (.agg [.int .i64 3, .int .i64 4]) := getD_of e2
   simp only [g1, g2, push_cast, simprocAttr, key3, key217, isIntK_int]
   exact ⟨e3, e4⟩
  | 13, ho, hL =>
   simp only [List.getElem?_toArray, List.getElem?_cons_zero, List.getElem?_cons_succ] at ho
   obtain rfl := Option.some.inj ho
   refine .inr ⟨rfl, _, ?_, fun _ _ h => h⟩
   simp only [push_cast, simprocAttr, key3, key217, isIntK_int]
   exact litI_build 6 (by omega) hI
  | 14, ho, hL =>
   simp only [List.getElem?_toArray, List.getElem?_cons_zero, List.getElem?_cons_succ] at ho
   obtain rfl := Option.some.inj ho
   refine .inr ⟨rfl, _, ?_, fun _ _ h => h⟩
   have h0 : L 0 = true := hdl ⟨0, .data⟩ (by simp) rfl
   have h1 : L 13 = true := hdl ⟨13, .data⟩ (by simp) rfl
   obtain ⟨es, rfl, e1, e2, e3, e4⟩ := litI_put 6 (by omega) hI h0 h1 hL
   have g1 := getD_of e1
   have g2 : t.getD 8 .x = .d (.agg [.int .i64 1, .int .i64 5]) := getD_of e2
   simp only [g1, g2, push_cast, simprocAttr, key3, key217, isIntK_int]
   exact ⟨e3, e4⟩
  | 15, ho, hL =>
   simp only [List.getElem?_toArray, List.getElem?_cons_zero, List.getElem?_cons_succ] at ho
   obtain rfl := Option.some.inj ho
   refine .inr ⟨rfl, _, ?_, fun _ _ h => h⟩
   simp only [push_cast, simprocAttr, key3, key217, isIntK_int]
   exact litI_build 7 (by omega) hI
  | 16, ho, hL =>
   simp only [List.getElem?_toArray, List.getElem?_cons_zero, List.getElem?_cons_succ] at ho
   obtain rfl := Option.some.inj ho
   refine .inr ⟨rfl, _, ?_, fun _ _ h => h⟩
   have h0 : L 0 = true := hdl ⟨0, .data⟩ (by simp) rfl
   have h1 : L 15 = true := hdl ⟨15, .data⟩ (by simp) rfl
   obtain ⟨es, rfl, e1, e2, e3, e4⟩ := litI_put 7 (by omega) hI h0 h1 hL
   have g1 := getD_of e1
   have g2 : t.getD 9 .x = .d (.agg [.int .i64 2, .int .i64 5]) := getD_of e2
   simp only [g1, g2, push_cast, simprocAttr, key3, key217, isIntK_int]
   exact ⟨e3, e4⟩
  | 17, ho, hL =>
   simp only [List.getElem?_toArray, List.getElem?_cons_zero, List.getElem?_cons_succ] at ho
   obtain rfl := Option.some.inj ho
   refine .inr ⟨rfl, _, ?_, fun _ _ h => h⟩
   simp only [push_cast, simprocAttr, key3, key217, isIntK_int]
   exact litI_build 8 (by omega) hI
  | 18, ho, hL =>
   simp only [List.getElem?_toArray, List.getElem?_cons_zero, List.getElem?_cons_succ] at ho
   obtain rfl := Option.some.inj ho
   refine .inr ⟨rfl, _, ?_, fun _ _ h => h⟩
   have h0 : L 0 = true := hdl ⟨0, .data⟩ (by simp) rfl
   have h1 : L 17 = true := hdl ⟨17, .data⟩ (by simp) rfl
   obtain ⟨es, rfl, e1, e2, e3, e4⟩ := litI_put 8 (by omega) hI h0 h1 hL
   have g1 := getD_of e1
   have g2 : t.getD 10 .x = .d (.agg [.int .i64 3, .int .i64 5]) := getD_of e2
   simp only [g1, g2, push_cast, simprocAttr, key3, key217, isIntK_int]
   exact ⟨e3, e4⟩
  | 19, ho, hL =>
   simp only [List.getElem?_toArray, List.getElem?_cons_zero, List.getElem?_cons_succ] at ho
   obtain rfl := Option.some.inj ho
   refine .inr ⟨rfl, _, ?_, fun _ _ h => h⟩
   simp only [push_cast, simprocAttr, key3, key217, isIntK_int]
   exact litI_build 9 (by omega) hI
  | 20, ho, hL =>
   simp only [List.getElem?_toArray, List.getElem?_cons_zero, List.getElem?_cons_succ] at ho
   obtain rfl := Option.some.inj ho
   refine .inr ⟨rfl, _, ?_, fun _ _ h => h⟩
   have h0 : L 0 = true := hdl ⟨0, .data⟩ (by simp) rfl
   have h1 : L 19 = true := hdl ⟨19, .data⟩ (by simp) rfl
   obtain ⟨es, rfl, e1, e2, e3, e4⟩ := litI_put 9 (by omega) hI h0 h1 hL
   have g1 := getD_of e1
   have g2 : t.getD 11 .x = .d (.agg [.int .i64 4, .int .i64 5]) := getD_of e2
   simp only [g1, g2, push_cast, simprocAttr, key3, key217, isIntK_int]
   exact ⟨e3, e4⟩
  | 21, ho, hL =>
   simp only [List.getElem?_toArray, List.getElem?_cons_zero, List.getElem?_cons_succ] at ho
   obtain rfl := Option.some.inj ho
   refine .inr ⟨rfl, _, ?_, fun _ _ h => h⟩
   have h0 : L 0 = true := hdl ⟨0, .data⟩ (by simp) rfl
   obtain ⟨e1, e2⟩ := litI_move hI h0
   have g1 := getD_of e1
   simp only [g1, push_cast, simprocAttr, key3, key217, isIntK_int]
   exact e2
  | 22, ho, hL =>
   simp only [List.getElem?_toArray, List.getElem?_cons_zero, List.getElem?_cons_succ] at ho
   obtain rfl := Option.some.inj ho
   refine .inr ⟨rfl, _, ?_, fun _ _ h => h⟩
   have h0 : L 0 = true := hdl ⟨0, .phase⟩ (by simp) rfl
   have h21 : L 21 = true := hdl ⟨21, .data⟩ (by simp) rfl
   obtain ⟨e1, e2⟩ := litI_last hI h0 h21
   have g1 := getD_of e1
   simp only [g1, push_cast, simprocAttr, key3, key217, isIntK_int]
   exact e2
  | i + 23, ho, hL => simp at ho
theorem nextP_ent : ∀ j, j < 10 → nextP (ents.getD j (0, 0, 0)).1 (ents.getD j (0, 0, 0)).2.1 = some (ents.getD j (0, 0, 0)).2.2 := fun j hj => by
 have : ∀ j : Fin 10, nextP (ents.getD j.1 (0, 0, 0)).1 (ents.getD j.1 (0, 0, 0)).2.1 = some (ents.getD j.1 (0, 0, 0)).2.2 := by decide
 exact this ⟨j, hj⟩
theorem nextP_some {p e n : Int} (h : nextP p e = some n) : ∃ j, j < 10 ∧ ents.getD j (0, 0, 0) = (p, e, n) := by
 unfold nextP at h
 split at h
 ·subst e
  split at h
  ·rename_i hp
   obtain rfl := Option.some.inj h
   rcases hp with rfl | rfl
   ·exact ⟨0, by omega, rfl⟩
   ·exact ⟨1, by omega, rfl⟩
  ·cases h
 ·split at h
  ·subst e
   split at h
   ·rename_i hp
    obtain rfl := Option.some.inj h
    rcases hp with rfl | rfl
    ·exact ⟨2, by omega, rfl⟩
    ·exact ⟨3, by omega, rfl⟩
   ·cases h
  ·split at h
   ·subst e
    split at h
    ·subst p
     obtain rfl := Option.some.inj h
     exact ⟨4, by omega, rfl⟩
    ·cases h
   ·split at h
    ·subst e
     split at h
     ·subst p
      obtain rfl := Option.some.inj h
      exact ⟨5, by omega, rfl⟩
     ·cases h
    ·split at h
     ·subst e
      split at h
      ·rename_i hp
       obtain rfl := Option.some.inj h
       have : p = 1 ∨ p = 2 ∨ p = 3 ∨ p = 4 := by omega
       rcases this with rfl | rfl | rfl | rfl
       ·exact ⟨6, by omega, rfl⟩
       ·exact ⟨7, by omega, rfl⟩
       ·exact ⟨8, by omega, rfl⟩
       ·exact ⟨9, by omega, rfl⟩
      ·cases h
     ·cases h
theorem look_next {es : List (D × D)} (h1 : ∀ p ∈ es, ∃ j, j < 10 ∧ p = entD j) (h2 : ∀ j, j < 10 → entD j ∈ es) (p e : Int) :
  dget es (keyD p e) = (nextP p e).map fun n => D.int .i64 n := by
 unfold dget
 cases hf : es.find? (fun x => dkeq (keyD p e) x.1) with
 | none =>
  cases hn : nextP p e with
  | none => rfl
  | some n =>
   obtain ⟨j, hj, he⟩ := nextP_some hn
   have := List.find?_eq_none.1 hf _ (h2 j hj)
   unfold entD at this
   rw [keyD_eq, he] at this
   simp at this
 | some x =>
  obtain ⟨j, hj, rfl⟩ := h1 x (List.mem_of_find?_eq_some hf)
  have hk := List.find?_some hf
  unfold entD at hk
  rw [keyD_eq, Bool.and_eq_true, beq_iff_eq, beq_iff_eq] at hk
  rw [hk.1, hk.2, nextP_ent j hj]
  rfl
theorem pnext_ok (p e : Int) : PCall env 134 [.int .i64 p, .int .i64 e] (.tup [.int .i64 ((nextP p e).getD 0), .bool (nextP p e).isSome]) := by
 refine acalls_of envOk Tryz.func134 rfl (by kernel_rfl) (m := 16) rfl ?_
 simp only [push_cast, simprocAttr, key3, key217, isIntK_int]
 refine ptable_ok.mono ?_
 rintro r H' ⟨rfl, es, rfl, h1, h2⟩
 refine WK.now ?_
 have hl := look_next h1 h2 p e
 unfold keyD at hl
 simp only [hl, push_cast, simprocAttr, key3, key217, isIntK_int]
 refine ⟨fun p hp => (by obtain ⟨j, _, rfl⟩ := h1 p hp; rfl), WK.now ?_⟩
 cases nextP p e with
 | none => simp only [Option.map_none, Option.getD_none, Option.isSome_none, push_cast, simprocAttr, key3, key217, isIntK_int]
 | some n => simp only [Option.map_some, Option.getD_some, Option.isSome_some, push_cast, simprocAttr, key3, key217, isIntK_int]
theorem placed_ok (p : Int) : PCall env 140 [.int .i64 p] (.bool (decide (p = 2 ∨ p = 3 ∨ p = 4))) := by
 refine acalls_of envOk Tryz.func140 rfl (by kernel_rfl) (m := 9) rfl ?_
 by_cases h2 : p = 2
 ·subst h2
  simp only [push_cast, simprocAttr, key3, key217, isIntK_int]
  refine WK.now ?_
  simp only [push_cast, simprocAttr, key3, key217, isIntK_int]
  rfl
 ·by_cases h3 : p = 3
  ·subst h3
   simp only [show ((3 : Int) == 2) = false from rfl, push_cast, simprocAttr, key3, key217, isIntK_int]
   refine WK.now ?_
   simp only [push_cast, simprocAttr, key3, key217, isIntK_int]
   rfl
  ·by_cases h4 : p = 4
   ·subst h4
    simp only [show ((4 : Int) == 2) = false from rfl, show ((4 : Int) == 3) = false from rfl, push_cast, simprocAttr, key3, key217, isIntK_int]
    refine WK.now ?_
    simp only [push_cast, simprocAttr, key3, key217, isIntK_int]
    rfl
   ·have e2 : (p == 2) = false := by simpa using h2
    have e3 : (p == 3) = false := by simpa using h3
    have e4 : (p == 4) = false := by simpa using h4
    simp only [e2, e3, e4, push_cast, simprocAttr, key3, key217, isIntK_int]
    refine WK.now ?_
    simp only [push_cast, simprocAttr, key3, key217, isIntK_int]
    rw [decide_eq_false (by omega)]
theorem waits_ok (p : Int) : PCall env 162 [.int .i64 p] (.bool (decide (p = 1 ∨ p = 2))) := by
 refine acalls_of envOk Tryz.func162 rfl (by kernel_rfl) (m := 8) rfl ?_
 by_cases h1 : p = 1
 ·subst h1
  simp only [push_cast, simprocAttr, key3, key217, isIntK_int]
  refine WK.now ?_
  simp only [push_cast, simprocAttr, key3, key217, isIntK_int]
  rfl
 ·have e1 : (p == 1) = false := by simpa using h1
  simp only [e1, push_cast, simprocAttr, key3, key217, isIntK_int]
  refine WK.now ?_
  simp only [push_cast, simprocAttr, key3, key217, isIntK_int]
  by_cases h2 : p = 2
  ·subst h2; rfl
  ·rw [decide_eq_false (by omega), show (p == 2) = false by simpa using h2]
theorem holds_ok (p : Int) : PCall env 131 [.int .i64 p] (.bool (decide (p = 3 ∨ p = 4))) := by
 refine acalls_of envOk Tryz.func131 rfl (by kernel_rfl) (m := 9) rfl ?_
 simp only [push_cast, simprocAttr, key3, key217, isIntK_int]
 refine (placed_ok p).go (by first | exact ⟨.inl rfl, trivial⟩ | exact ⟨.inl rfl, .inl rfl, trivial⟩ | exact ⟨.inl rfl, .inl rfl, .inl rfl, trivial⟩ | simp [argsOk, argOk, sl, sll]) (WK.now ?_)
 by_cases hp : p = 2 ∨ p = 3 ∨ p = 4
 ·simp only [decide_eq_true hp, push_cast, simprocAttr, key3, key217, isIntK_int]
  refine (waits_ok p).go (by first | exact ⟨.inl rfl, trivial⟩ | exact ⟨.inl rfl, .inl rfl, trivial⟩ | exact ⟨.inl rfl, .inl rfl, .inl rfl, trivial⟩ | simp [argsOk, argOk, sl, sll]) (WK.now ?_)
  simp only [push_cast, simprocAttr, key3, key217, isIntK_int]
  refine WK.now ?_
  simp only [push_cast, simprocAttr, key3, key217, isIntK_int]
  by_cases h3 : p = 3 ∨ p = 4
  ·rw [decide_eq_true h3, decide_eq_false (by omega)]; rfl
  ·rw [decide_eq_false h3, decide_eq_true (by omega)]; rfl
 ·simp only [decide_eq_false hp, push_cast, simprocAttr, key3, key217, isIntK_int]
  refine WK.now ?_
  simp only [push_cast, simprocAttr, key3, key217, isIntK_int]
  rw [decide_eq_false (by omega)]
end Go.Proofs.YtmeicgbddgeeoaaGreatDoor
end
section
set_option autoImplicit false
set_option linter.unusedVariables false
set_option linter.unusedSimpArgs false
namespace Go.Proofs.YtmeicgbddgeeoaaGreatDoor
open Go.Abs
def Ps (sz : Int) (L : List (Int × Pod)) (ids : List Int) : List AObj := [.map (entE fP L), .var [.d (.int .i64 sz), .mapo 0], .var [.pvar 1 0, .sfull 3], .arr 3 1 (ints ids)]
theorem podnew_ok (n : Int) : ACalls env 73 [.d (.int .i64 n)] [] fun r H' => r = .pvar 2 0 ∧ H' = Ps (max n 0) [] [] := by
 refine acalls_of envOk Tryz.func73 rfl (by kernel_rfl) (m := 6) rfl ?_
 simp only [push_cast, simprocAttr, fP, pL]
 refine (newP_ok n).thus (WK.now ?_)
 simp only [Tb, push_cast, simprocAttr, fP, pL]
 refine WK.nilfld 2 1 3 1 rfl rfl (WK.now ?_)
 simp only [Ps, ints_nil, push_cast, simprocAttr, fP, pL]
theorem copied_ok (p : Pod) (h : Sz p.2) : PCall env 125 [fP p] (fP p) := by
 unfold fP pL
 refine acalls_of envOk Tryz.func125 rfl (by kernel_rfl) (m := 7) rfl ?_
 simp only [push_cast, simprocAttr, fP, pL]
 refine (cloneD_ok p.2 h).go (by first | exact ⟨.inl rfl, trivial⟩ | exact ⟨.inl rfl, .inl rfl, trivial⟩ | exact ⟨.inl rfl, .inl rfl, .inl rfl, trivial⟩ | simp [argsOk, argOk, sl, sll]) (WK.now ?_)
 simp only [push_cast, simprocAttr, fP, pL]
 refine WK.now ?_
 simp only [push_cast, simprocAttr, fP, pL]
theorem copied_nil : PCall env 125 [zP] (fP pz) :=
 (copied_ok pz (by unfold Sz pz; simp)).argv (by simp [avsOk, avOk, argsOk, argOk, dsOk, zP, fP, pL, pz, pod0, ints])
def SzP (L : List (Int × Pod)) : Prop := ∀ k p, lget L k = some p → Sz p.2
def pgetD (o : Option Pod) : D := .tup [fP (o.getD pz), .bool o.isSome]
set_option maxRecDepth 8000 in
theorem pget_ok (sz : Int) (L : List (Int × Pod)) (ids : List Int) (k : Int) (hL : SzP L) :
  ACalls env 129 [.pvar 2 0, .d (.int .i64 k)] (Ps sz L ids) fun r H' => r = .d (pgetD (lget L k)) ∧ H' = Ps sz L ids := by
 unfold Ps
 refine ACalls.cutTo [0, 1, 2, 3] rfl ?_ (fun l => by simp [Tb, Ps, fP, pL, errD, errF, sbl, ren_none, ren_var, ren_arr, ren_map, ren_mapb, ren_iter, ren_loop, ren_defr, bel_none, bel_var, bel_arr, bel_map, bel_mapb, bel_iter, bel_loop, bel_defr, AV.renL, AV.ren, AV.belL, AV.bel, rn]) (fun m => by simp [tellL, AV.ren, AV.renL, AV.bel, AV.belL, rn])
 refine acalls_of envOk Tryz.func129 rfl (by kernel_rfl) (m := 21) rfl ?_
 simp only [push_cast, simprocAttr, fP, pL]
 refine (getP_ok sz L k).at [0, 1] (by simp [Tb, Ps, fP, pL, errD, errF, sbl, ren_none, ren_var, ren_arr, ren_map, ren_mapb, ren_iter, ren_loop, ren_defr, bel_none, bel_var, bel_arr, bel_map, bel_mapb, bel_iter, bel_loop, bel_defr, AV.renL, AV.ren, AV.belL, AV.bel, rn]) (by simp) (by simp [Tb, Ps, fP, pL, errD, errF]) (by simp [Tb, Ps, fP, pL, errD, errF, AV.ren, AV.renL, rn]) (by simp [AV.belL, AV.bel]) (WK.now ?_)
 simp only [Tb, gotP, push_cast, simprocAttr, fP, pL]
 cases hl : lget L k with
 | none =>
  simp only [push_cast, simprocAttr, fP, pL]
  refine copied_nil.go (by first | exact ⟨.inl rfl, trivial⟩ | exact ⟨.inl rfl, .inl rfl, trivial⟩ | exact ⟨.inl rfl, .inl rfl, .inl rfl, trivial⟩ | simp [argsOk, argOk, sl, sll]) (WK.now ?_)
  simp only [pz, pod0, push_cast, simprocAttr, fP, pL]
  refine WK.now ?_
  simp only [pgetD, pz, pod0, Option.getD_none, Option.isSome_none, push_cast, simprocAttr, pods_length, fP, pL]
  first | done | exact ⟨_, rfl⟩ | exact ⟨rfl, _, rfl⟩
 | some p =>
  simp only [push_cast, simprocAttr, fP, pL]
  refine (copied_ok p (hL k p hl)).go (by first | exact ⟨.inl rfl, trivial⟩ | exact ⟨.inl rfl, .inl rfl, trivial⟩ | exact ⟨.inl rfl, .inl rfl, .inl rfl, trivial⟩ | simp [argsOk, argOk, sl, sll]) (WK.now ?_)
  simp only [push_cast, simprocAttr, fP, pL]
  refine WK.now ?_
  simp only [pgetD, Option.getD_some, Option.isSome_some, push_cast, simprocAttr, pods_length, fP, pL]
  first | done | exact ⟨_, rfl⟩ | exact ⟨rfl, _, rfl⟩
end Go.Proofs.YtmeicgbddgeeoaaGreatDoor
end
section
set_option autoImplicit false
set_option linter.unusedVariables false
set_option linter.unusedSimpArgs false
namespace Go.Proofs.YtmeicgbddgeeoaaGreatDoor
open Go.Abs
def applyR (L : List (Int × Pod)) (k e node dl : Int) : D := match lget L k with
 | none => .tup [zP, errF (some (5, 0))]
 | some p => match nextP p.1.ph e with
  | none => .tup [zP, errF (some (8, 0))]
  | some to => .tup [fP (applyP p e to node dl), .nili]
def applyL (L : List (Int × Pod)) (k e node dl : Int) : List (Int × Pod) := match lget L k with
 | none => L
 | some p => match nextP p.1.ph e with
  | none => L
  | some to => lput L k (applyP p e to node dl)
set_option maxRecDepth 8000 in
theorem papply_ok (sz : Int) (L : List (Int × Pod)) (ids : List Int) (k e node dl : Int) (hL : SzP L) :
  ACalls env 130 [.pvar 2 0, .d (.int .i64 k), .d (.int .i64 e), .d (.int .i64 node), .d (.int .i64 dl)] (Ps sz L ids) fun r H' => r = .d (applyR L k e node dl) ∧ H' = Ps sz (applyL L k e node dl) ids := by
 unfold Ps
 refine ACalls.cutTo [0, 1, 2, 3] rfl ?_ (fun l => by simp [Tb, Ps, fP, pL, errD, errF, pgetD, submitP, sbl, ren_none, ren_var, ren_arr, ren_map, ren_mapb, ren_iter, ren_loop, ren_defr, bel_none, bel_var, bel_arr, bel_map, bel_mapb, bel_iter, bel_loop, bel_defr, AV.renL, AV.ren, AV.belL, AV.bel, rn]) (fun m => by simp [tellL, AV.ren, AV.renL, AV.bel, AV.belL, rn])
 refine acalls_of envOk Tryz.func130 rfl (by kernel_rfl) (m := 54) rfl ?_
 simp only [push_cast, simprocAttr, fP, pL]
 refine (pget_ok sz L ids k hL).at [0, 1, 2, 3] (by simp [Tb, Ps, fP, pL, errD, errF, pgetD, submitP, sbl, ren_none, ren_var, ren_arr, ren_map, ren_mapb, ren_iter, ren_loop, ren_defr, bel_none, bel_var, bel_arr, bel_map, bel_mapb, bel_iter, bel_loop, bel_defr, AV.renL, AV.ren, AV.belL, AV.bel, rn]) (by simp) (by simp [Tb, Ps, fP, pL, errD, errF, pgetD, submitP]) (by simp [Tb, Ps, fP, pL, errD, errF, pgetD, submitP, AV.ren, AV.renL, rn]) (by simp [AV.belL, AV.bel]) (WK.now ?_)
 cases hl : lget L k with
 | none =>
  simp only [Ps, pgetD, Option.getD_none, Option.isSome_none, pz, pod0, push_cast, simprocAttr, pods_length, fP, pL]
  refine (fnew_ok 5 0).go (by first | exact ⟨.inl rfl, trivial⟩ | exact ⟨.inl rfl, .inl rfl, trivial⟩ | exact ⟨.inl rfl, .inl rfl, .inl rfl, trivial⟩ | simp [argsOk, argOk, sl, sll]) (WK.now ?_)
  simp only [push_cast, simprocAttr, fP, pL]
  refine WK.now ?_
  simp only [applyR, applyL, hl, zP, push_cast, simprocAttr, fP, pL]
  first | done | exact ⟨_, rfl⟩ | exact ⟨rfl, _, rfl⟩
 | some p =>
  have hp := hL k p hl
  simp only [Ps, pgetD, Option.getD_some, Option.isSome_some, push_cast, simprocAttr, pods_length, fP, pL]
  refine (pnext_ok p.1.ph e).go (by first | exact ⟨.inl rfl, trivial⟩ | exact ⟨.inl rfl, .inl rfl, trivial⟩ | exact ⟨.inl rfl, .inl rfl, .inl rfl, trivial⟩ | simp [argsOk, argOk, sl, sll]) (WK.now ?_)
  cases hn : nextP p.1.ph e with
  | none =>
   simp only [Option.getD_none, Option.isSome_none, push_cast, simprocAttr, pods_length, fP, pL]
   refine (fnew_ok 8 0).go (by first | exact ⟨.inl rfl, trivial⟩ | exact ⟨.inl rfl, .inl rfl, trivial⟩ | exact ⟨.inl rfl, .inl rfl, .inl rfl, trivial⟩ | simp [argsOk, argOk, sl, sll]) (WK.now ?_)
   simp only [push_cast, simprocAttr, fP, pL]
   refine WK.now ?_
   simp only [applyR, applyL, hl, hn, zP, push_cast, simprocAttr, fP, pL]
   first | done | exact ⟨_, rfl⟩ | exact ⟨rfl, _, rfl⟩
  | some to =>
   simp only [Option.getD_some, Option.isSome_some, push_cast, simprocAttr, pods_length, fP, pL]
   by_cases h1 : e = 1
   ·subst h1
    obtain ⟨q, hq⟩ : ∃ q : Pod, q = ({ p.1 with ph := to, dl := -1, nd := node }, p.2) := ⟨_, rfl⟩
    have hqa : applyP p 1 to node dl = q := by rw [hq]; simp [applyP]
    simp only [beq_self_eq_true, push_cast, simprocAttr, fP, pL]
    refine DRegL.two [0, 2, 3, 4, 5, 6, 7] [1, 8, 9, 10] (by unfold Draw2; kernel_rfl) (by kernel_rfl) (by kernel_rfl) ?_
    simp only [push_cast, simprocAttr, fP, pL]
    refine (copied_ok (({ p.1 with ph := to, dl := -1, nd := node }, p.2)) hp).go (by first | exact ⟨.inl rfl, trivial⟩ | exact ⟨.inl rfl, .inl rfl, trivial⟩ | exact ⟨.inl rfl, .inl rfl, .inl rfl, trivial⟩ | simp [argsOk, argOk, sl, sll]) ?_
    simp only [push_cast, simprocAttr, fP, pL]
    refine (setP_ok sz L k (({ p.1 with ph := to, dl := -1, nd := node }, p.2))).at [0, 1] (by simp [Tb, Ps, fP, pL, errD, errF, pgetD, submitP, sbl, ren_none, ren_var, ren_arr, ren_map, ren_mapb, ren_iter, ren_loop, ren_defr, bel_none, bel_var, bel_arr, bel_map, bel_mapb, bel_iter, bel_loop, bel_defr, AV.renL, AV.ren, AV.belL, AV.bel, rn]) (by simp) (by simp [Tb, Ps, fP, pL, errD, errF, pgetD, submitP]) (by simp [Tb, Ps, fP, pL, errD, errF, pgetD, submitP, AV.ren, AV.renL, rn]) (by simp [AV.belL, AV.bel]) ?_
    simp only [Tb, setE, setL, hl, Option.isSome_some, if_true, push_cast, simprocAttr, pods_length, fP, pL]
    refine WK.now ?_
    simp only [applyR, applyL, hl, hn, hqa, hq, push_cast, simprocAttr, fP, pL]
    first | done | exact ⟨_, rfl⟩ | exact ⟨rfl, _, rfl⟩
   ·by_cases h2 : e = 2
    ·subst h2
     obtain ⟨q, hq⟩ : ∃ q : Pod, q = ({ p.1 with ph := to, dl := -1, nd := node }, p.2) := ⟨_, rfl⟩
     have hqa : applyP p 2 to node dl = q := by rw [hq]; simp [applyP]
     simp only [show ((2 : Int) == 1) = false from rfl, push_cast, simprocAttr, pods_length, fP, pL]
     refine DRegL.two [0, 2, 3, 4, 5, 6, 7] [1, 8, 9, 10] (by unfold Draw2; kernel_rfl) (by kernel_rfl) (by kernel_rfl) ?_
     simp only [push_cast, simprocAttr, fP, pL]
     refine (copied_ok (({ p.1 with ph := to, dl := -1, nd := node }, p.2)) hp).go (by first | exact ⟨.inl rfl, trivial⟩ | exact ⟨.inl rfl, .inl rfl, trivial⟩ | exact ⟨.inl rfl, .inl rfl, .inl rfl, trivial⟩ | simp [argsOk, argOk, sl, sll]) ?_
     simp only [push_cast, simprocAttr, fP, pL]
     refine (setP_ok sz L k (({ p.1 with ph := to, dl := -1, nd := node }, p.2))).at [0, 1] (by simp [Tb, Ps, fP, pL, errD, errF, pgetD, submitP, sbl, ren_none, ren_var, ren_arr, ren_map, ren_mapb, ren_iter, ren_loop, ren_defr, bel_none, bel_var, bel_arr, bel_map, bel_mapb, bel_iter, bel_loop, bel_defr, AV.renL, AV.ren, AV.belL, AV.bel, rn]) (by simp) (by simp [Tb, Ps, fP, pL, errD, errF, pgetD, submitP]) (by simp [Tb, Ps, fP, pL, errD, errF, pgetD, submitP, AV.ren, AV.renL, rn]) (by simp [AV.belL, AV.bel]) ?_
     simp only [Tb, setE, setL, hl, Option.isSome_some, if_true, push_cast, simprocAttr, pods_length, fP, pL]
     refine WK.now ?_
     simp only [applyR, applyL, hl, hn, hqa, hq, push_cast, simprocAttr, fP, pL]
     first | done | exact ⟨_, rfl⟩ | exact ⟨rfl, _, rfl⟩
    ·by_cases h4 : e = 4
     ·subst h4
      obtain ⟨q, hq⟩ : ∃ q : Pod, q = ({ p.1 with ph := to, dl := dl }, p.2) := ⟨_, rfl⟩
      have hqa : applyP p 4 to node dl = q := by rw [hq]; simp [applyP]
      simp only [show ((4 : Int) == 1) = false from rfl, show ((4 : Int) == 2) = false from rfl, push_cast, simprocAttr, pods_length, fP, pL]
      refine DRegL.two [0, 2, 3, 4, 5, 6, 7] [1, 8, 9, 10] (by unfold Draw2; kernel_rfl) (by kernel_rfl) (by kernel_rfl) ?_
      simp only [push_cast, simprocAttr, fP, pL]
      refine (copied_ok (({ p.1 with ph := to, dl := dl }, p.2)) hp).go (by first | exact ⟨.inl rfl, trivial⟩ | exact ⟨.inl rfl, .inl rfl, trivial⟩ | exact ⟨.inl rfl, .inl rfl, .inl rfl, trivial⟩ | simp [argsOk, argOk, sl, sll]) ?_
      simp only [push_cast, simprocAttr, fP, pL]
      refine (setP_ok sz L k (({ p.1 with ph := to, dl := dl }, p.2))).at [0, 1] (by simp [Tb, Ps, fP, pL, errD, errF, pgetD, submitP, sbl, ren_none, ren_var, ren_arr, ren_map, ren_mapb, ren_iter, ren_loop, ren_defr, bel_none, bel_var, bel_arr, bel_map, bel_mapb, bel_iter, bel_loop, bel_defr, AV.renL, AV.ren, AV.belL, AV.bel, rn]) (by simp) (by simp [Tb, Ps, fP, pL, errD, errF, pgetD, submitP]) (by simp [Tb, Ps, fP, pL, errD, errF, pgetD, submitP, AV.ren, AV.renL, rn]) (by simp [AV.belL, AV.bel]) ?_
      simp only [Tb, setE, setL, hl, Option.isSome_some, if_true, push_cast, simprocAttr, pods_length, fP, pL]
      refine WK.now ?_
      simp only [applyR, applyL, hl, hn, hqa, hq, push_cast, simprocAttr, fP, pL]
      first | done | exact ⟨_, rfl⟩ | exact ⟨rfl, _, rfl⟩
     ·have e1 : (e == 1) = false := by simpa using h1
      have e2 : (e == 2) = false := by simpa using h2
      have e4 : (e == 4) = false := by simpa using h4
      obtain ⟨q, hq⟩ : ∃ q : Pod, q = ({ p.1 with ph := to, dl := -1, nd := -1 }, p.2) := ⟨_, rfl⟩
      have hqa : applyP p e to node dl = q := by rw [hq]; simp [applyP, h1, h2, h4]
      simp only [e1, e2, e4, push_cast, simprocAttr, fP, pL]
      refine DRegL.two [0, 2, 3, 4, 5, 6, 7] [1, 8, 9, 10] (by unfold Draw2; kernel_rfl) (by kernel_rfl) (by kernel_rfl) ?_
      simp only [push_cast, simprocAttr, fP, pL]
      refine (copied_ok (({ p.1 with ph := to, dl := -1, nd := -1 }, p.2)) hp).go (by first | exact ⟨.inl rfl, trivial⟩ | exact ⟨.inl rfl, .inl rfl, trivial⟩ | exact ⟨.inl rfl, .inl rfl, .inl rfl, trivial⟩ | simp [argsOk, argOk, sl, sll]) ?_
      simp only [push_cast, simprocAttr, fP, pL]
      refine (setP_ok sz L k (({ p.1 with ph := to, dl := -1, nd := -1 }, p.2))).at [0, 1] (by simp [Tb, Ps, fP, pL, errD, errF, pgetD, submitP, sbl, ren_none, ren_var, ren_arr, ren_map, ren_mapb, ren_iter, ren_loop, ren_defr, bel_none, bel_var, bel_arr, bel_map, bel_mapb, bel_iter, bel_loop, bel_defr, AV.renL, AV.ren, AV.belL, AV.bel, rn]) (by simp) (by simp [Tb, Ps, fP, pL, errD, errF, pgetD, submitP]) (by simp [Tb, Ps, fP, pL, errD, errF, pgetD, submitP, AV.ren, AV.renL, rn]) (by simp [AV.belL, AV.bel]) ?_
      simp only [Tb, setE, setL, hl, Option.isSome_some, if_true, push_cast, simprocAttr, pods_length, fP, pL]
      refine WK.now ?_
      simp only [applyR, applyL, hl, hn, hqa, hq, push_cast, simprocAttr, fP, pL]
      first | done | exact ⟨_, rfl⟩ | exact ⟨rfl, _, rfl⟩
def Psn (sz : Int) (L : List (Int × Pod)) (ids : List Int) : List AObj := [.map (entE fP L), .var [.d (.int .i64 sz), .mapo 0], .var [.pvar 1 0, .sfull 4], .none, .arr 3 1 (ints ids)]
theorem addL_err {α : Type} {sz : Int} {L : List (Int × α)} {k e : Int} {v : α} (hE : addE sz L k = some e) : addL sz L k v = L := by
 unfold addL; unfold addE at hE
 split at hE
 ·rw [if_pos ‹_›]
 ·split at hE
  ·rw [if_neg ‹_›, if_pos ‹_›]
  ·cases hE
set_option maxRecDepth 8000 in
theorem psubmit_err (sz : Int) (L : List (Int × Pod)) (ids : List Int) (p : Pod) (e : Int) (hE : addE sz L p.1.id = some e) (hp : Sz p.2) (h : 0 ≤ sz ∧ sz ≤ 9223372036854775807 ∧ L.length ≤ 4611686018427387904) :
  ACalls env 82 [.pvar 2 0, .d (fP p)] (Ps sz L ids) fun r H' => r = .d (.tup [zP, errF (some (e, 0))]) ∧ H' = Ps sz L ids := by
 unfold Ps
 refine ACalls.cutTo [0, 1, 2, 3] rfl ?_ (fun l => by simp [Tb, Ps, fP, pL, errD, errF, pgetD, submitP, sbl, ren_none, ren_var, ren_arr, ren_map, ren_mapb, ren_iter, ren_loop, ren_defr, bel_none, bel_var, bel_arr, bel_map, bel_mapb, bel_iter, bel_loop, bel_defr, AV.renL, AV.ren, AV.belL, AV.bel, rn]) (fun m => by simp [tellL, AV.ren, AV.renL, AV.bel, AV.belL, rn])
 refine acalls_of envOk Tryz.func82 rfl (by kernel_rfl) (m := 48) rfl ?_
 simp only [push_cast, simprocAttr, fP, pL]
 refine (copied_ok p hp).go (by first | exact ⟨.inl rfl, trivial⟩ | exact ⟨.inl rfl, .inl rfl, trivial⟩ | exact ⟨.inl rfl, .inl rfl, .inl rfl, trivial⟩ | simp [argsOk, argOk, sl, sll]) (WK.now ?_)
 simp only [push_cast, simprocAttr, fP, pL]
 refine DRegL.two [0, 1, 2, 3, 4, 5] [6, 7, 8, 9, 10, 11, 12] (by unfold Draw2; kernel_rfl) (by kernel_rfl) (by kernel_rfl) ?_
 simp only [push_cast, simprocAttr, fP, pL]
 refine DRegL.two [0, 1, 2, 3, 4, 5, 6] [7, 8] (by unfold Draw2; kernel_rfl) (by kernel_rfl) (by kernel_rfl) ?_
 simp only [push_cast, simprocAttr, fP, pL]
 refine (addP_ok sz L p.1.id (submitP p ids.length) h).at [0, 1] (by simp [Tb, Ps, fP, pL, errD, errF, pgetD, submitP, sbl, ren_none, ren_var, ren_arr, ren_map, ren_mapb, ren_iter, ren_loop, ren_defr, bel_none, bel_var, bel_arr, bel_map, bel_mapb, bel_iter, bel_loop, bel_defr, AV.renL, AV.ren, AV.belL, AV.bel, rn]) (by simp) (by simp [Tb, Ps, fP, pL, errD, errF, pgetD, submitP]) (by simp [Tb, Ps, fP, pL, errD, errF, pgetD, submitP, AV.ren, AV.renL, rn]) (by simp [AV.belL, AV.bel]) ?_
 simp only [Tb, hE, errD, addL_err hE, push_cast, simprocAttr, pods_length, fP, pL]
 refine (as_hit e (.d (.int .i64 0))).at [6] (by simp [Tb, Ps, fP, pL, errD, errF, pgetD, submitP, sbl, ren_none, ren_var, ren_arr, ren_map, ren_mapb, ren_iter, ren_loop, ren_defr, bel_none, bel_var, bel_arr, bel_map, bel_mapb, bel_iter, bel_loop, bel_defr, AV.renL, AV.ren, AV.belL, AV.bel, rn]) (by simp) (by simp [Tb, Ps, fP, pL, errD, errF, pgetD, submitP]) (by simp [Tb, Ps, fP, pL, errD, errF, pgetD, submitP, AV.ren, AV.renL, rn]) (by simp [AV.belL, AV.bel]) (WK.now ?_)
 simp only [push_cast, simprocAttr, fP, pL]
 refine (fnew_ok e 0).go (by first | exact ⟨.inl rfl, trivial⟩ | exact ⟨.inl rfl, .inl rfl, trivial⟩ | exact ⟨.inl rfl, .inl rfl, .inl rfl, trivial⟩ | simp [argsOk, argOk, sl, sll]) (WK.now ?_)
 simp only [push_cast, simprocAttr, fP, pL]
 refine WK.now ?_
 simp only [zP, push_cast, simprocAttr, fP, pL]
 first | done | exact ⟨_, rfl⟩ | exact ⟨rfl, _, rfl⟩
set_option maxRecDepth 8000 in
theorem psubmit_raw (sz : Int) (L : List (Int × Pod)) (ids : List Int) (p : Pod) (hE : addE sz L p.1.id = none) (hp : Sz p.2) (hi : Sz ids) (h : 0 ≤ sz ∧ sz ≤ 9223372036854775807 ∧ L.length ≤ 4611686018427387904) :
  ACalls env 82 [.pvar 2 0, .d (fP p)] (Ps sz L ids) fun r H' => r = .d (.tup [fP (submitP p ids.length), .nili]) ∧
   ∃ o1 o2 o3, H' = [.map (entE fP (addL sz L p.1.id (submitP p ids.length))), .var [.d (.int .i64 sz), .mapo 0], .var [.pvar 1 0, .sfull 7], .none, o1, o2, o3, .arr 3 1 (ints (ids ++ [p.1.id]))] := by
 unfold Sz at hi
 unfold Ps
 refine acalls_of envOk Tryz.func82 rfl (by kernel_rfl) (m := 48) rfl ?_
 simp only [push_cast, simprocAttr, fP, pL]
 refine (copied_ok p hp).go (by first | exact ⟨.inl rfl, trivial⟩ | exact ⟨.inl rfl, .inl rfl, trivial⟩ | exact ⟨.inl rfl, .inl rfl, .inl rfl, trivial⟩ | simp [argsOk, argOk, sl, sll]) (WK.now ?_)
 simp only [push_cast, simprocAttr, fP, pL]
 refine DRegL.two [0, 1, 2, 3, 4, 5] [6, 7, 8, 9, 10, 11, 12] (by unfold Draw2; kernel_rfl) (by kernel_rfl) (by kernel_rfl) ?_
 simp only [push_cast, simprocAttr, fP, pL]
 refine DRegL.two [0, 1, 2, 3, 4, 5, 6] [7, 8] (by unfold Draw2; kernel_rfl) (by kernel_rfl) (by kernel_rfl) ?_
 simp only [push_cast, simprocAttr, fP, pL]
 refine (addP_ok sz L p.1.id (submitP p ids.length) h).at [0, 1] (by simp [Tb, Ps, fP, pL, errD, errF, pgetD, submitP, sbl, ren_none, ren_var, ren_arr, ren_map, ren_mapb, ren_iter, ren_loop, ren_defr, bel_none, bel_var, bel_arr, bel_map, bel_mapb, bel_iter, bel_loop, bel_defr, AV.renL, AV.ren, AV.belL, AV.bel, rn]) (by simp) (by simp [Tb, Ps, fP, pL, errD, errF, pgetD, submitP]) (by simp [Tb, Ps, fP, pL, errD, errF, pgetD, submitP, AV.ren, AV.renL, rn]) (by simp [AV.belL, AV.bel]) ?_
 simp only [Tb, hE, errD, push_cast, simprocAttr, fP, pL]
 refine (as_nil [.var [.d (.int .i64 0)]] (.iface 164 (.pvar 0 0))).at [6] (by simp [Tb, Ps, fP, pL, errD, errF, pgetD, submitP, sbl, ren_none, ren_var, ren_arr, ren_map, ren_mapb, ren_iter, ren_loop, ren_defr, bel_none, bel_var, bel_arr, bel_map, bel_mapb, bel_iter, bel_loop, bel_defr, AV.renL, AV.ren, AV.belL, AV.bel, rn]) (by simp) (by simp [Tb, Ps, fP, pL, errD, errF, pgetD, submitP]) (by simp [Tb, Ps, fP, pL, errD, errF, pgetD, submitP, AV.ren, AV.renL, rn]) (by simp [AV.belL, AV.bel]) (WK.now ?_)
 simp only [push_cast, simprocAttr, fP, pL]
 refine DRegL.det [8, 11] [0, 1, 2, 3, 4, 5, 6, 7] [(8, [0], [9, 10]), (11, [], [])] (by kernel_rfl) (by kernel_rfl) (by kernel_rfl) ?_
 simp only [push_cast, simprocAttr, fP, pL]
 refine ⟨room_of (by omega) (by omega), (copied_ok (submitP p ids.length) hp).go (by first | exact ⟨.inl rfl, trivial⟩ | exact ⟨.inl rfl, .inl rfl, trivial⟩ | exact ⟨.inl rfl, .inl rfl, .inl rfl, trivial⟩ | simp [argsOk, argOk, sl, sll]) (WK.now ?_)⟩
 simp only [push_cast, simprocAttr, fP, pL]
 refine WK.now ?_
 simp only [push_cast, simprocAttr, fP, pL]
 rw [show ints (ids ++ [p.1.id]) = ints ids ++ [[.int .i64 p.1.id]] by simp [ints]]
 exact ⟨_, _, _, rfl⟩
theorem psubmit_new (sz : Int) (L : List (Int × Pod)) (ids : List Int) (p : Pod) (hE : addE sz L p.1.id = none) (hp : Sz p.2) (hi : Sz ids) (h : 0 ≤ sz ∧ sz ≤ 9223372036854775807 ∧ L.length ≤ 4611686018427387904) :
  ACalls env 82 [.pvar 2 0, .d (fP p)] (Ps sz L ids) fun r H' => r = .d (.tup [fP (submitP p ids.length), .nili]) ∧ H' = Psn sz (addL sz L p.1.id (submitP p ids.length)) (ids ++ [p.1.id]) :=
 (psubmit_raw sz L ids p hE hp hi h).retell (by
  rintro r H' ⟨rfl, o1, o2, o3, rfl⟩
  exact WK.pick [0, 1, 2, 3, 7] (t' := [.d (.tup [fP (submitP p ids.length), .nili])]) (H' := Psn sz (addL sz L p.1.id (submitP p ids.length)) (ids ++ [p.1.id])) (by simp [Psn, sbl, ren_none, ren_var, ren_arr, ren_map, bel_none, bel_var, bel_arr, bel_map, AV.renL, AV.ren, AV.belL, AV.bel, rn]) (by simp) (by simp) (by simp [tellL, AV.ren, AV.renL, AV.bel, AV.belL, rn]) (show ∀ id, id < 4 → ([0, 1, 2, 3, 7] : List Nat)[id]? = some id by decide) (WK.now ⟨_, rfl, rfl, rfl⟩))
end Go.Proofs.YtmeicgbddgeeoaaGreatDoor
end
section
set_option autoImplicit false
set_option linter.unusedVariables false
set_option linter.unusedSimpArgs false
namespace Go.Proofs.YtmeicgbddgeeoaaGreatDoor
open Go.Abs
theorem on1_ok (p : Pod) (n : Int) : ACalls env 139 [.d (fP p), .pvar 0 0] [.var [.d (.int .i64 n)]] fun r H' => r = .d (.bool (decide (p.1.nd = n) && decide (p.1.ph = 2 ∨ p.1.ph = 3 ∨ p.1.ph = 4))) ∧ H' = [.var [.d (.int .i64 n)]] := by
 refine ACalls.cutTo [0] rfl ?_ (fun l => by simp [Tb, Ps, fP, pL, errD, errF, pgetD, sbl, ren_none, ren_var, ren_arr, ren_map, ren_mapb, ren_iter, ren_loop, ren_defr, bel_none, bel_var, bel_arr, bel_map, bel_mapb, bel_iter, bel_loop, bel_defr, AV.renL, AV.ren, AV.belL, AV.bel, rn]) (fun m => by simp [tellL, AV.ren, AV.renL, AV.bel, AV.belL, rn])
 refine acalls_of envOk Tryz.func139 rfl (by kernel_rfl) (m := 11) rfl ?_
 simp only [push_cast, simprocAttr, QasgL_normal, fP, pL]
 refine Kbr.mk (fun c => ?_) (fun c => ?_)
 ·have c1 : p.1.nd = n := by simpa using c
  simp only [push_cast, simprocAttr, QasgL_normal, fP, pL]
  refine (placed_ok p.1.ph).go (by first | exact ⟨.inl rfl, trivial⟩ | exact ⟨.inl rfl, .inl rfl, trivial⟩ | exact ⟨.inl rfl, .inl rfl, .inl rfl, trivial⟩ | simp [argsOk, argOk, sl, sll]) (WK.now ?_)
  simp only [push_cast, simprocAttr, QasgL_normal, fP, pL]
  refine WK.now ?_
  simp only [decide_eq_true c1, Bool.true_and, push_cast, simprocAttr, QasgL_normal, pods_length, fP, pL]
  first | done | exact ⟨_, rfl⟩ | exact ⟨rfl, _, rfl⟩
 ·have c1 : ¬ p.1.nd = n := by simpa using c
  simp only [push_cast, simprocAttr, QasgL_normal, fP, pL]
  refine WK.now ?_
  simp only [decide_eq_false c1, Bool.false_and, push_cast, simprocAttr, QasgL_normal, pods_length, fP, pL]
  first | done | exact ⟨_, rfl⟩ | exact ⟨rfl, _, rfl⟩
def listed (L : List (Int × Pod)) (h : Pod → Bool) (ids : List Int) : List Pod := (ids.map fun k => (lget L k).getD pz).filter h
theorem listed_snoc (L : List (Int × Pod)) (h : Pod → Bool) {ids : List Int} {i : Nat} (hi : i < ids.length) :
  listed L h (ids.take (i + 1)) = listed L h (ids.take i) ++ (if h ((lget L (ids.getD i 0)).getD pz) then [(lget L (ids.getD i 0)).getD pz] else []) := by
 unfold listed
 rw [List.take_add_one, List.map_append, List.filter_append]
 simp only [List.getElem?_eq_getElem hi, Option.toList_some, List.map_cons, List.map_nil, List.getD_eq_getElem?_getD, Option.getD_some]
 congr 1
 cases hh : h ((lget L ids[i]).getD pz) <;> simp [hh]
theorem all_ok (sz : Int) (L : List (Int × Pod)) (ids : List Int) (n : Int) (g : FuncId) :
  ACalls env 170 [.pvar 2 0, .func g [.pvar 4 0]] (Ps sz L ids ++ [.var [.d (.int .i64 n)]]) fun r H' => r = .func 183 [.pvar 5 0, .pvar 6 0] ∧
   H' = [.map (entE fP L), .var [.d (.int .i64 sz), .mapo 0], .var [.pvar 1 0, .sfull 3], .arr 3 1 (ints ids), .var [.d (.int .i64 n)], .var [.pvar 2 0], .var [.func g [.pvar 4 0]]] := by
 unfold Ps
 refine acalls_of envOk Tryz.func170 rfl (by kernel_rfl) (m := 4) rfl ?_
 simp only [push_cast, simprocAttr, QasgL_normal, fP, pL]
 refine WK.now ?_
 simp only [push_cast, simprocAttr, QasgL_normal, fP, pL]
set_option maxRecDepth 8000 in
theorem list_ok (sz : Int) (L : List (Int × Pod)) (ids : List Int) (n : Int) (g : FuncId) (hx : env.ext g = none) (h : Pod → Bool) (hL : SzP L) (hi : Sz ids) (hin : ∀ k ∈ ids, (lget L k).isSome = true)
  (hg : ∀ p, ACalls env g [.d (fP p), .pvar 0 0] [.var [.d (.int .i64 n)]] fun r H' => r = .d (.bool (h p)) ∧ H' = [.var [.d (.int .i64 n)]]) :
  ACalls env 138 [.pvar 2 0, .func g [.pvar 4 0]] (Ps sz L ids ++ [.var [.d (.int .i64 n)]]) fun r H' => r = .sfull 5 ∧ H' = Ps sz L ids ++ [.var [.d (.int .i64 n)], .arr 26 9 (pods (listed L h ids)), .none] := by
 unfold Ps
 refine acalls_of envOk Tryz.func138 rfl (by kernel_rfl) (m := 14) rfl ?_
 simp only [push_cast, simprocAttr, QasgL_normal, fP, pL]
 refine (all_ok sz L ids n g).at [0, 1, 2, 3, 4] (by simp [Tb, Ps, fP, pL, errD, errF, pgetD, sbl, ren_none, ren_var, ren_arr, ren_map, ren_mapb, ren_iter, ren_loop, ren_defr, bel_none, bel_var, bel_arr, bel_map, bel_mapb, bel_iter, bel_loop, bel_defr, AV.renL, AV.ren, AV.belL, AV.bel, rn]) (by simp) (by simp [Tb, Ps, fP, pL, errD, errF, pgetD]) (by simp [Tb, Ps, fP, pL, errD, errF, pgetD, AV.ren, AV.renL, rn]) (by simp [AV.belL, AV.bel]) (WK.now ?_)
 simp only [push_cast, simprocAttr, QasgL_normal, fP, pL]
 refine ARng.funcG (fun fn lo hlo => ?_)
 simp only [push_cast, simprocAttr, QasgL_normal, fP, pL]
 refine acalls_of envOk Tryz.func183 rfl (by kernel_rfl) (m := 36) rfl ?_
 simp only [push_cast, simprocAttr, QasgL_normal, fP, pL]
 have hren : ∀ m, lo.ren (rn [0, 1, 2, 3, 4, 5, 6, 7, 8, 9, 10] m) = lo := fun m => by rw [hlo]; simp [AObj.ren, AV.renL, AV.ren, rn]
 have hren2 : ∀ m, lo.ren (rn [0, 1, 2, 3, 4, 5, 6, 7, 8, 9, 13] m) = lo := fun m => by rw [hlo]; simp [AObj.ren, AV.renL, AV.ren, rn]
 have hbel : lo.bel 11 = true := by rw [hlo]; simp [AObj.bel, AV.belL, AV.bel]
 refine ALoop.mk (fun k t H ds => ∃ i : Nat, k = ids.length - i ∧ i ≤ ids.length ∧ t = (.yield 9 :: .pvar 6 0 :: .pvar 7 0 :: .x :: .x :: .x :: .x :: .x :: .x :: .x :: .x :: .x :: .x :: .sfull 3 :: .d (.int .i64 ids.length) :: .d (.int .i64 (i : Nat)) :: xs23) ∧ H = [.map (entE fP L), .var [.d (.int .i64 sz), .mapo 0], .var [.pvar 1 0, .sfull 3], .arr 3 1 (ints ids), .var [.d (.int .i64 n)], .var [.sfull 10], .var [.pvar 2 0], .var [.func g [.pvar 4 0]], .defr, lo, .arr 26 9 (pods (listed L h (ids.take i)))] ∧ ds = []) ids.length
  (WK.nilfld 5 0 26 9 rfl rfl (WK.fgt (t' := (.yield 9 :: .pvar 6 0 :: .pvar 7 0 :: .x :: .x :: .x :: .x :: .x :: .x :: .x :: .x :: .x :: .x :: .sfull 3 :: .d (.int .i64 ids.length) :: .d (.int .i64 (0 : Nat)) :: xs23)) (by simp [fgt, ints_length, intss_length]) (WK.now ⟨0, by omega, by omega, rfl, by simp [listed, pods], rfl⟩))) ?_
 rintro k t H ds ⟨i, rfl, hik, rfl, rfl, rfl⟩
 simp only [push_cast, simprocAttr, QasgL_normal, fP, pL]
 refine Kbr.mk (fun c => ?_) (fun c => ?_)
 ·have c2 : i < ids.length := by simpa using c
  simp only [c2, cel_ints, push_cast, simprocAttr, QasgL_normal, fP, pL]
  obtain ⟨p, hp⟩ : ∃ p, lget L (ids.getD i 0) = some p := Option.isSome_iff_exists.1 (hin _ (by rw [List.getD_eq_getElem?_getD, List.getElem?_eq_getElem c2]; exact List.getElem_mem c2))
  refine (getP_ok sz L (ids.getD i 0)).at [0, 1] (by simp [Tb, Ps, fP, pL, errD, errF, pgetD, sbl, ren_none, ren_var, ren_arr, ren_map, ren_mapb, ren_iter, ren_loop, ren_defr, bel_none, bel_var, bel_arr, bel_map, bel_mapb, bel_iter, bel_loop, bel_defr, AV.renL, AV.ren, AV.belL, AV.bel, rn]) (by simp) (by simp [Tb, Ps, fP, pL, errD, errF, pgetD]) (by simp [Tb, Ps, fP, pL, errD, errF, pgetD, AV.ren, AV.renL, rn]) (by simp [AV.belL, AV.bel]) (WK.now ?_)
  simp only [Tb, gotP, hp, Option.map_some, Option.getD_some, Option.isSome_some, hx, push_cast, simprocAttr, QasgL_normal, pods_length, fP, pL]
  refine (hg p).at [4] (by simp [Tb, Ps, fP, pL, errD, errF, pgetD, sbl, ren_none, ren_var, ren_arr, ren_map, ren_mapb, ren_iter, ren_loop, ren_defr, bel_none, bel_var, bel_arr, bel_map, bel_mapb, bel_iter, bel_loop, bel_defr, AV.renL, AV.ren, AV.belL, AV.bel, rn]) (by simp) (by simp [Tb, Ps, fP, pL, errD, errF, pgetD]) (by simp [Tb, Ps, fP, pL, errD, errF, pgetD, AV.ren, AV.renL, rn]) (by simp [AV.belL, AV.bel]) (WK.now ?_)
  simp only [push_cast, simprocAttr, QasgL_normal, fP, pL]
  have hsn := listed_snoc L h c2
  rw [hp, Option.getD_some] at hsn
  have hll : (listed L h (ids.take i)).length ≤ ids.length := by
   unfold listed
   refine Nat.le_trans (List.length_filter_le _ _) ?_
   simp; omega
  unfold Sz at hi
  refine Kbr.mk (fun c => ?_) (fun c => ?_)
  ·have c3 : h p = true := by simpa using c
   rw [c3, if_pos rfl] at hsn
   simp only [push_cast, simprocAttr, QasgL_normal, fP, pL]
   refine (copied_ok p (hL _ p hp)).go (by first | exact ⟨.inl rfl, trivial⟩ | exact ⟨.inl rfl, .inl rfl, trivial⟩ | exact ⟨.inl rfl, .inl rfl, .inl rfl, trivial⟩ | simp [argsOk, argOk, sl, sll]) (WK.now ?_)
   simp only [push_cast, simprocAttr, QasgL_normal, fP, pL]
   refine AYield.mk envOk (congrArg some hlo) rfl ?_
   simp only [push_cast, simprocAttr, QasgL_normal, fP, pL]
   refine ⟨_, _, _, _, hlo, ?_⟩
   refine ⟨room_of (by simp [pods]; omega) (by omega), WK.now ⟨_, _, _, _, _, rfl, WK.now ?_⟩⟩
   simp only [succ64 c2 (show ids.length ≤ 4611686018427387904 by omega), push_cast, simprocAttr, QasgL_normal, pods_length, fP, pL]
   simp only [← hlo]
   exact ⟨ids.length - (i + 1), by omega, WK.pick [0, 1, 2, 3, 4, 5, 6, 7, 8, 9, 13] (t' := (.yield 9 :: .pvar 6 0 :: .pvar 7 0 :: .x :: .x :: .x :: .x :: .x :: .x :: .x :: .x :: .x :: .x :: .sfull 3 :: .d (.int .i64 ids.length) :: .d (.int .i64 (i + 1 : Nat)) :: xs23)) (H' := [.map (entE fP L), .var [.d (.int .i64 sz), .mapo 0], .var [.pvar 1 0, .sfull 3], .arr 3 1 (ints ids), .var [.d (.int .i64 n)], .var [.sfull 10], .var [.pvar 2 0], .var [.func g [.pvar 4 0]], .defr, lo, .arr 26 9 (pods (listed L h (ids.take i)) ++ [[.int .i64 p.1.id, .int .i64 p.1.pr, .bool p.1.pre, .int .i64 p.1.gr, .slice 1 (ints p.2), .int .i64 p.1.ar, .int .i64 p.1.ph, .int .i64 p.1.nd, .int .i64 p.1.dl]])])
    (by simp [sbl, ren_none, ren_var, ren_arr, ren_map, ren_defr, bel_var, bel_arr, bel_map, bel_defr, AV.renL, AV.ren, AV.belL, AV.bel, hren2, hbel, rn]) (by simp) (by simp) (by simp [tellL, AV.ren, AV.renL, AV.bel, AV.belL, rn]) (by decide) (WK.now ⟨i + 1, rfl, by omega, rfl, by rw [hsn, ← pods_snoc]; rfl, rfl⟩)⟩
  ·have c3 : h p = false := by simpa using c
   rw [c3, if_neg (by simp), List.append_nil] at hsn
   simp only [succ64 c2 (show ids.length ≤ 4611686018427387904 by omega), push_cast, simprocAttr, QasgL_normal, pods_length, fP, pL]
   exact ⟨ids.length - (i + 1), by omega, WK.pick [0, 1, 2, 3, 4, 5, 6, 7, 8, 9, 10] (t' := (.yield 9 :: .pvar 6 0 :: .pvar 7 0 :: .x :: .x :: .x :: .x :: .x :: .x :: .x :: .x :: .x :: .x :: .sfull 3 :: .d (.int .i64 ids.length) :: .d (.int .i64 (i + 1 : Nat)) :: xs23)) (H' := [.map (entE fP L), .var [.d (.int .i64 sz), .mapo 0], .var [.pvar 1 0, .sfull 3], .arr 3 1 (ints ids), .var [.d (.int .i64 n)], .var [.sfull 10], .var [.pvar 2 0], .var [.func g [.pvar 4 0]], .defr, lo, .arr 26 9 (pods (listed L h (ids.take i)))])
    (by simp [sbl, ren_none, ren_var, ren_arr, ren_map, ren_defr, bel_var, bel_arr, bel_map, bel_defr, AV.renL, AV.ren, AV.belL, AV.bel, hren, hbel, rn]) (by simp) (by simp) (by simp [tellL, AV.ren, AV.renL, AV.bel, AV.belL, rn]) (by decide) (WK.now ⟨i + 1, rfl, by omega, rfl, by rw [hsn], rfl⟩)⟩
 ·have c2 : ¬ i < ids.length := by simpa using c
  have e : ids.take i = ids := List.take_of_length_le (by omega)
  rw [e]
  simp only [push_cast, simprocAttr, QasgL_normal, fP, pL]
  refine WK.now ?_
  simp only [push_cast, simprocAttr, QasgL_normal, fP, pL]
  subst hlo
  refine Krng.go rfl (WK.now ?_)
  simp only [push_cast, simprocAttr, QasgL_normal, fP, pL]
  refine WK.pickD [0, 1, 2, 3, 4, 10, 8] (H' := [.map (entE fP L), .var [.d (.int .i64 sz), .mapo 0], .var [.pvar 1 0, .sfull 3], .arr 3 1 (ints ids), .var [.d (.int .i64 n)], .arr 26 9 (pods (listed L h ids)), .defr]) (t' := (.x :: .x :: .x :: .x :: .sfull 5 :: xs11)) (ds' := [6]) (by simp [ints, intss, sbl, ren_none, ren_var, ren_arr, ren_map, ren_mapb, ren_iter, ren_loop, ren_defr, bel_none, bel_var, bel_arr, bel_map, bel_mapb, bel_iter, bel_loop, bel_defr, AV.renL, AV.ren, AV.belL, AV.bel, rn]) (by simp) (by simp) (by simp [tellL, AV.ren, AV.renL, AV.bel, AV.belL, rn]) (by simp [rn]) (by simp) (by decide) (WK.now ?_)
  simp only [push_cast, simprocAttr, QasgL_normal, fP, pL]
def onP (n : Int) (p : Pod) : Bool := decide (p.1.nd = n) && decide (p.1.ph = 2 ∨ p.1.ph = 3 ∨ p.1.ph = 4)
theorem pOn_raw (sz : Int) (L : List (Int × Pod)) (ids : List Int) (n : Int) (hL : SzP L) (hi : Sz ids) (hin : ∀ k ∈ ids, (lget L k).isSome = true) :
  ACalls env 90 [.pvar 2 0, .d (.int .i64 n)] (Ps sz L ids) fun r H' => r = .sfull 5 ∧ H' = Ps sz L ids ++ [.var [.d (.int .i64 n)], .arr 26 9 (pods (listed L (onP n) ids)), .none] := by
 refine acalls_of envOk Tryz.func90 rfl (by kernel_rfl) (m := 6) rfl ?_
 simp only [Ps, push_cast, simprocAttr, QasgL_normal, fP, pL]
 refine (list_ok sz L ids n 139 rfl (onP n) hL hi hin (fun p => on1_ok p n)).at [0, 1, 2, 3, 4] (by simp [Tb, Ps, fP, pL, errD, errF, pgetD, sbl, ren_none, ren_var, ren_arr, ren_map, ren_mapb, ren_iter, ren_loop, ren_defr, bel_none, bel_var, bel_arr, bel_map, bel_mapb, bel_iter, bel_loop, bel_defr, AV.renL, AV.ren, AV.belL, AV.bel, rn]) (by simp) (by simp [Tb, Ps, fP, pL, errD, errF, pgetD]) (by simp [Tb, Ps, fP, pL, errD, errF, pgetD, AV.ren, AV.renL, rn]) (by simp [AV.belL, AV.bel]) (WK.now ?_)
 simp only [Ps, push_cast, simprocAttr, QasgL_normal, fP, pL]
 refine WK.now ?_
 simp only [push_cast, simprocAttr, QasgL_normal, fP, pL]
theorem pOn_ok (sz : Int) (L : List (Int × Pod)) (ids : List Int) (n : Int) (hL : SzP L) (hi : Sz ids) (hin : ∀ k ∈ ids, (lget L k).isSome = true) :
  ACalls env 90 [.pvar 2 0, .d (.int .i64 n)] (Ps sz L ids) fun r H' => r = .sfull 4 ∧ H' = Ps sz L ids ++ [.arr 26 9 (pods (listed L (onP n) ids))] :=
 (pOn_raw sz L ids n hL hi hin).retell (by
  rintro r H' ⟨rfl, rfl⟩
  exact WK.pick [0, 1, 2, 3, 5] (t' := [.sfull 4]) (H' := Ps sz L ids ++ [.arr 26 9 (pods (listed L (onP n) ids))]) (by simp [Ps, sbl, ren_none, ren_var, ren_arr, ren_map, bel_none, bel_var, bel_arr, bel_map, AV.renL, AV.ren, AV.belL, AV.bel, rn]) (by simp) (by simp [Ps]) (by simp [tellL, AV.ren, AV.renL, AV.bel, AV.belL, rn]) (show ∀ id, id < 4 → ([0, 1, 2, 3, 5] : List Nat)[id]? = some id by decide) (WK.now ⟨_, rfl, rfl, rfl⟩))
end Go.Proofs.YtmeicgbddgeeoaaGreatDoor
end
section
set_option autoImplicit false
set_option linter.unusedVariables false
set_option linter.unusedSimpArgs false
namespace Go.Proofs.YtmeicgbddgeeoaaGreatDoor
open Go.Abs
def Cs (c : Cl) : List AObj := [.map (entE fP c.L), .var [.d (.int .i64 65536), .mapo 0], .var [.pvar 1 0, .sfull 3], .arr 3 1 (ints c.ids),
 .map (entE fE c.N), .var [.d (.int .i64 1024), .mapo 4], .var [.d (.int .i64 c.d), .pvar 5 0], .var [.pvar 2 0, .pvar 6 0]]
theorem cnew_ok (d : Int) : ACalls env 38 [.d (.int .i64 d)] [] fun r H' => r = .pvar 7 0 ∧ H' = Cs ⟨max d 0, [], [], []⟩ := by
 refine acalls_of envOk Tryz.func38 rfl (by kernel_rfl) (m := 8) rfl ?_
 simp only [push_cast, simprocAttr, fP, pL, fE]
 refine (podnew_ok 65536).at [] (by simp [Tb, Ps, Ns, Cs, fP, pL, fE, errD, errF, pgetD, nodeD, sbl, ren_none, ren_var, ren_arr, ren_map, ren_mapb, ren_iter, ren_loop, ren_defr, bel_none, bel_var, bel_arr, bel_map, bel_mapb, bel_iter, bel_loop, bel_defr, AV.renL, AV.ren, AV.belL, AV.bel, rn]) (by simp) (by simp [Tb, Ps, Ns, Cs, fP, pL, fE, errD, errF, pgetD, nodeD]) (by simp [Tb, Ps, Ns, Cs, fP, pL, fE, errD, errF, pgetD, nodeD, AV.ren, AV.renL, rn]) (by simp [AV.belL, AV.bel]) (WK.now ?_)
 simp only [Ps, push_cast, simprocAttr, fP, pL, fE]
 refine (nnew_ok d 1024).at [] (by simp [Tb, Ps, Ns, Cs, fP, pL, fE, errD, errF, pgetD, nodeD, sbl, ren_none, ren_var, ren_arr, ren_map, ren_mapb, ren_iter, ren_loop, ren_defr, bel_none, bel_var, bel_arr, bel_map, bel_mapb, bel_iter, bel_loop, bel_defr, AV.renL, AV.ren, AV.belL, AV.bel, rn]) (by simp) (by simp [Tb, Ps, Ns, Cs, fP, pL, fE, errD, errF, pgetD, nodeD]) (by simp [Tb, Ps, Ns, Cs, fP, pL, fE, errD, errF, pgetD, nodeD, AV.ren, AV.renL, rn]) (by simp [AV.belL, AV.bel]) (WK.now ?_)
 simp only [Ns, push_cast, simprocAttr, fP, pL, fE]
 refine WK.now ?_
 simp only [Cs, push_cast, simprocAttr, fP, pL, fE]
 rfl
theorem cstate_ok (c : Cl) : ACalls env 75 [.pvar 7 0] (Cs c) fun r H' => r = .agg [.pvar 2 0, .pvar 6 0] ∧ H' = Cs c := by
 unfold Cs
 refine ACalls.cutTo [0, 1, 2, 3, 4, 5, 6, 7] rfl ?_ (fun l => by simp [Tb, Ps, Ns, Cs, fP, pL, fE, errD, errF, pgetD, nodeD, sbl, ren_none, ren_var, ren_arr, ren_map, ren_mapb, ren_iter, ren_loop, ren_defr, bel_none, bel_var, bel_arr, bel_map, bel_mapb, bel_iter, bel_loop, bel_defr, AV.renL, AV.ren, AV.belL, AV.bel, rn]) (fun m => by simp [tellL, AV.ren, AV.renL, AV.bel, AV.belL, rn])
 refine acalls_of envOk Tryz.func75 rfl (by kernel_rfl) (m := 9) rfl ?_
 simp only [push_cast, simprocAttr, fP, pL, fE]
 refine WK.now ?_
 simp only [push_cast, simprocAttr, fP, pL, fE]
 first | done | exact ⟨_, rfl⟩ | exact ⟨rfl, _, rfl⟩
theorem cunk_ok (a : Int) : PCall env 78 [.int .i64 a] (errF (some (5, a))) := by
 refine acalls_of envOk Tryz.func78 rfl (by kernel_rfl) (m := 4) rfl ?_
 simp only [push_cast, simprocAttr, fP, pL, fE]
 refine (fnew_ok 5 a).go (by first | exact ⟨.inl rfl, trivial⟩ | exact ⟨.inl rfl, .inl rfl, trivial⟩ | exact ⟨.inl rfl, .inl rfl, .inl rfl, trivial⟩ | simp [argsOk, argOk, sl, sll]) (WK.now ?_)
 simp only [push_cast, simprocAttr, fP, pL, fE]
 refine WK.now ?_
 simp only [push_cast, simprocAttr, fP, pL, fE]
theorem cdims_ok (c : Cl) : ACalls env 80 [.pvar 7 0] (Cs c) fun r H' => r = .d (.int .i64 c.d) ∧ H' = Cs c := by
 refine acalls_of envOk Tryz.func80 rfl (by kernel_rfl) (m := 6) rfl ?_
 simp only [Cs, push_cast, simprocAttr, fP, pL, fE]
 refine (cstate_ok c).at [0, 1, 2, 3, 4, 5, 6, 7] (by simp [Tb, Ps, Ns, Cs, fP, pL, fE, errD, errF, pgetD, nodeD, sbl, ren_none, ren_var, ren_arr, ren_map, ren_mapb, ren_iter, ren_loop, ren_defr, bel_none, bel_var, bel_arr, bel_map, bel_mapb, bel_iter, bel_loop, bel_defr, AV.renL, AV.ren, AV.belL, AV.bel, rn]) (by simp) (by simp [Tb, Ps, Ns, Cs, fP, pL, fE, errD, errF, pgetD, nodeD]) (by simp [Tb, Ps, Ns, Cs, fP, pL, fE, errD, errF, pgetD, nodeD, AV.ren, AV.renL, rn]) (by simp [AV.belL, AV.bel]) (WK.now ?_)
 simp only [Cs, push_cast, simprocAttr, fP, pL, fE]
 refine (ndims_ok c.d 1024 c.N).at [4, 5, 6] (by simp [Tb, Ps, Ns, Cs, fP, pL, fE, errD, errF, pgetD, nodeD, sbl, ren_none, ren_var, ren_arr, ren_map, ren_mapb, ren_iter, ren_loop, ren_defr, bel_none, bel_var, bel_arr, bel_map, bel_mapb, bel_iter, bel_loop, bel_defr, AV.renL, AV.ren, AV.belL, AV.bel, rn]) (by simp) (by simp [Tb, Ps, Ns, Cs, fP, pL, fE, errD, errF, pgetD, nodeD]) (by simp [Tb, Ps, Ns, Cs, fP, pL, fE, errD, errF, pgetD, nodeD, AV.ren, AV.renL, rn]) (by simp [AV.belL, AV.bel]) (WK.now ?_)
 simp only [Ns, push_cast, simprocAttr, fP, pL, fE]
 refine WK.now ?_
 simp only [Cs, push_cast, simprocAttr, fP, pL, fE]
theorem cnode_ok (c : Cl) (k : Int) (hN : InE c.N) : ACalls env 103 [.pvar 7 0, .d (.int .i64 k)] (Cs c) fun r H' => r = .d (nodeD (lget c.N k)) ∧ H' = Cs c := by
 unfold Cs
 refine ACalls.cutTo [0, 1, 2, 3, 4, 5, 6, 7] rfl ?_ (fun l => by simp [Tb, Ps, Ns, Cs, fP, pL, fE, errD, errF, pgetD, nodeD, sbl, ren_none, ren_var, ren_arr, ren_map, ren_mapb, ren_iter, ren_loop, ren_defr, bel_none, bel_var, bel_arr, bel_map, bel_mapb, bel_iter, bel_loop, bel_defr, AV.renL, AV.ren, AV.belL, AV.bel, rn]) (fun m => by simp [tellL, AV.ren, AV.renL, AV.bel, AV.belL, rn])
 refine acalls_of envOk Tryz.func103 rfl (by kernel_rfl) (m := 11) rfl ?_
 simp only [push_cast, simprocAttr, fP, pL, fE]
 refine (cstate_ok c).at [0, 1, 2, 3, 4, 5, 6, 7] (by simp [Tb, Ps, Ns, Cs, fP, pL, fE, errD, errF, pgetD, nodeD, sbl, ren_none, ren_var, ren_arr, ren_map, ren_mapb, ren_iter, ren_loop, ren_defr, bel_none, bel_var, bel_arr, bel_map, bel_mapb, bel_iter, bel_loop, bel_defr, AV.renL, AV.ren, AV.belL, AV.bel, rn]) (by simp) (by simp [Tb, Ps, Ns, Cs, fP, pL, fE, errD, errF, pgetD, nodeD]) (by simp [Tb, Ps, Ns, Cs, fP, pL, fE, errD, errF, pgetD, nodeD, AV.ren, AV.renL, rn]) (by simp [AV.belL, AV.bel]) (WK.now ?_)
 simp only [Cs, push_cast, simprocAttr, fP, pL, fE]
 refine (nget_ok c.d 1024 c.N k hN).at [4, 5, 6] (by simp [Tb, Ps, Ns, Cs, fP, pL, fE, errD, errF, pgetD, nodeD, sbl, ren_none, ren_var, ren_arr, ren_map, ren_mapb, ren_iter, ren_loop, ren_defr, bel_none, bel_var, bel_arr, bel_map, bel_mapb, bel_iter, bel_loop, bel_defr, AV.renL, AV.ren, AV.belL, AV.bel, rn]) (by simp) (by simp [Tb, Ps, Ns, Cs, fP, pL, fE, errD, errF, pgetD, nodeD]) (by simp [Tb, Ps, Ns, Cs, fP, pL, fE, errD, errF, pgetD, nodeD, AV.ren, AV.renL, rn]) (by simp [AV.belL, AV.bel]) (WK.now ?_)
 cases hl : lget c.N k with
 | none =>
  simp only [Ns, nodeD, push_cast, simprocAttr, fP, pL, fE]
  refine WK.now ?_
  simp only [nodeD, push_cast, simprocAttr, fP, pL, fE]
  first | done | exact ⟨_, rfl⟩ | exact ⟨rfl, _, rfl⟩
 | some e =>
  simp only [Ns, nodeD, push_cast, simprocAttr, fP, pL, fE]
  refine WK.now ?_
  simp only [nodeD, push_cast, simprocAttr, fP, pL, fE]
  first | done | exact ⟨_, rfl⟩ | exact ⟨rfl, _, rfl⟩
def SeesAll (c : Cl) : Prop := SzP c.L ∧ Sz c.ids ∧ ∀ k ∈ c.ids, (lget c.L k).isSome = true
theorem con_ok (c : Cl) (n : Int) (h : SeesAll c) : ACalls env 51 [.pvar 7 0, .d (.int .i64 n)] (Cs c) fun r H' => r = .sfull 8 ∧ H' = Cs c ++ [.arr 26 9 (pods (listed c.L (onP n) c.ids))] := by
 refine acalls_of envOk Tryz.func51 rfl (by kernel_rfl) (m := 8) rfl ?_
 simp only [Cs, push_cast, simprocAttr, fP, pL, fE]
 refine (cstate_ok c).at [0, 1, 2, 3, 4, 5, 6, 7] (by simp [Tb, Ps, Ns, Cs, fP, pL, fE, errD, errF, pgetD, nodeD, sbl, ren_none, ren_var, ren_arr, ren_map, ren_mapb, ren_iter, ren_loop, ren_defr, bel_none, bel_var, bel_arr, bel_map, bel_mapb, bel_iter, bel_loop, bel_defr, AV.renL, AV.ren, AV.belL, AV.bel, rn]) (by simp) (by simp [Tb, Ps, Ns, Cs, fP, pL, fE, errD, errF, pgetD, nodeD]) (by simp [Tb, Ps, Ns, Cs, fP, pL, fE, errD, errF, pgetD, nodeD, AV.ren, AV.renL, rn]) (by simp [AV.belL, AV.bel]) (WK.now ?_)
 simp only [Cs, push_cast, simprocAttr, fP, pL, fE]
 refine (pOn_ok 65536 c.L c.ids n h.1 h.2.1 h.2.2).at [0, 1, 2, 3] (by simp [Tb, Ps, Ns, Cs, fP, pL, fE, errD, errF, pgetD, nodeD, sbl, ren_none, ren_var, ren_arr, ren_map, ren_mapb, ren_iter, ren_loop, ren_defr, bel_none, bel_var, bel_arr, bel_map, bel_mapb, bel_iter, bel_loop, bel_defr, AV.renL, AV.ren, AV.belL, AV.bel, rn]) (by simp) (by simp [Tb, Ps, Ns, Cs, fP, pL, fE, errD, errF, pgetD, nodeD]) (by simp [Tb, Ps, Ns, Cs, fP, pL, fE, errD, errF, pgetD, nodeD, AV.ren, AV.renL, rn]) (by simp [AV.belL, AV.bel]) (WK.now ?_)
 simp only [Ps, push_cast, simprocAttr, fP, pL, fE]
 refine WK.now ?_
 simp only [Cs, push_cast, simprocAttr, fP, pL, fE]
theorem cadd_ok (c : Cl) (k : Int) (cap : List Int) (hd : c.d ≤ 1000000) (h : c.N.length ≤ 4611686018427387904) (hc : cap.length ≤ 9223372036854775807) :
  ACalls env 40 [.pvar 7 0, .d (.agg [.int .i64 k, .slice 1 (ints cap)])] (Cs c) fun r H' => r = .d (errF (naddE c.d 1024 c.N k cap)) ∧ H' = Cs (clAdd c k cap) := by
 unfold Cs
 refine ACalls.cutTo [0, 1, 2, 3, 4, 5, 6, 7] rfl ?_ (fun l => by simp [Tb, Ps, Ns, Cs, fP, pL, fE, errD, errF, pgetD, nodeD, sbl, ren_none, ren_var, ren_arr, ren_map, ren_mapb, ren_iter, ren_loop, ren_defr, bel_none, bel_var, bel_arr, bel_map, bel_mapb, bel_iter, bel_loop, bel_defr, AV.renL, AV.ren, AV.belL, AV.bel, rn]) (fun m => by simp [tellL, AV.ren, AV.renL, AV.bel, AV.belL, rn])
 refine acalls_of envOk Tryz.func40 rfl (by kernel_rfl) (m := 8) rfl ?_
 simp only [push_cast, simprocAttr, fP, pL, fE]
 refine DRegL.det [4] [0, 1, 2, 3] [(4, [], [5])] (by kernel_rfl) (by kernel_rfl) (by kernel_rfl) ?_
 simp only [push_cast, simprocAttr, fP, pL, fE]
 refine (cstate_ok c).hushAt [0, 1, 2, 3, 4, 5, 6, 7] (by simp [Tb, Ps, Ns, Cs, fP, pL, fE, errD, errF, pgetD, nodeD, sbl, ren_none, ren_var, ren_arr, ren_map, ren_mapb, ren_iter, ren_loop, ren_defr, bel_none, bel_var, bel_arr, bel_map, bel_mapb, bel_iter, bel_loop, bel_defr, AV.renL, AV.ren, AV.belL, AV.bel, rn]) (by simp) (by simp [Tb, Ps, Ns, Cs, fP, pL, fE, errD, errF, pgetD, nodeD]) (by simp [Tb, Ps, Ns, Cs, fP, pL, fE, errD, errF, pgetD, nodeD, AV.ren, AV.renL, rn]) (by simp [AV.belL, AV.bel]) (by simp [lift, putAll, Tb, Ps, Ns, Cs, fP, pL, fE, errD, errF, pgetD, nodeD, sbl, ren_none, ren_var, ren_arr, ren_map, ren_mapb, ren_iter, ren_loop, ren_defr, AV.renL, AV.ren, rn]) ?_
 simp only [push_cast, simprocAttr, fP, pL, fE]
 refine (nadd_ok c.d 1024 c.N k cap hd ⟨by omega, by omega, h⟩ hc).at [4, 5, 6] (by simp [Tb, Ps, Ns, Cs, fP, pL, fE, errD, errF, pgetD, nodeD, sbl, ren_none, ren_var, ren_arr, ren_map, ren_mapb, ren_iter, ren_loop, ren_defr, bel_none, bel_var, bel_arr, bel_map, bel_mapb, bel_iter, bel_loop, bel_defr, AV.renL, AV.ren, AV.belL, AV.bel, rn]) (by simp) (by simp [Tb, Ps, Ns, Cs, fP, pL, fE, errD, errF, pgetD, nodeD]) (by simp [Tb, Ps, Ns, Cs, fP, pL, fE, errD, errF, pgetD, nodeD, AV.ren, AV.renL, rn]) (by simp [AV.belL, AV.bel]) ?_
 simp only [Ns, push_cast, simprocAttr, fP, pL, fE]
 refine WK.now ?_
 simp only [clAdd, push_cast, simprocAttr, fP, pL, fE]
 first | done | exact ⟨_, rfl⟩ | exact ⟨rfl, _, rfl⟩
end Go.Proofs.YtmeicgbddgeeoaaGreatDoor
end
section
set_option autoImplicit false
set_option linter.unusedVariables false
set_option linter.unusedSimpArgs false
namespace Go.Proofs.YtmeicgbddgeeoaaGreatDoor
open Go.Abs
def Csn (c : Cl) : List AObj := [.map (entE fP c.L), .var [.d (.int .i64 65536), .mapo 0], .var [.pvar 1 0, .sfull 8], .none,
 .map (entE fE c.N), .var [.d (.int .i64 1024), .mapo 4], .var [.d (.int .i64 c.d), .pvar 5 0], .var [.pvar 2 0, .pvar 6 0], .arr 3 1 (ints c.ids)]
structure ClOk (c : Cl) : Prop where
 L : SzP c.L
 i : Sz c.ids
 hin : ∀ k ∈ c.ids, (lget c.L k).isSome = true
 N : InE c.N
 ll : c.L.length ≤ 4611686018427387904
 nl : c.N.length ≤ 4611686018427387904
 d : c.d ≤ 1000000
 R : ∀ k p, lget c.L k = some p → InR p.2
set_option maxRecDepth 8000 in
theorem csubmit_err (c : Cl) (p : Pod) (h : ClOk c) (hp : Sz p.2) (e : Int × Int) (he : (clSubmit c p).2 = some e) :
  ACalls env 42 [.pvar 7 0, .d (fP p)] (Cs c) fun r H' => r = .d (.tup [zP, errF (some e)]) ∧ H' = Cs c := by
 unfold Cs
 refine ACalls.cutTo [0, 1, 2, 3, 4, 5, 6, 7] rfl ?_ (fun l => by simp [Tb, Ps, Psn, Ns, Cs, fP, pL, fE, errD, errF, pgetD, nodeD, sl, sbl, ren_none, ren_var, ren_arr, ren_map, ren_mapb, ren_iter, ren_loop, ren_defr, bel_none, bel_var, bel_arr, bel_map, bel_mapb, bel_iter, bel_loop, bel_defr, AV.renL, AV.ren, AV.belL, AV.bel, rn]) (fun m => by simp [tellL, AV.ren, AV.renL, AV.bel, AV.belL, rn])
 refine acalls_of envOk Tryz.func42 rfl (by kernel_rfl) (m := 28) rfl ?_
 simp only [push_cast, simprocAttr, fP, pL, fE]
 refine DRegL.det [] [0, 1, 2, 3, 4, 5] [] (by kernel_rfl) (by kernel_rfl) (by kernel_rfl) ?_
 simp only [push_cast, simprocAttr, fP, pL, fE]
 refine (cdims_ok c).hushAt [0, 1, 2, 3, 4, 5, 6, 7] (by simp [Tb, Ps, Psn, Ns, Cs, fP, pL, fE, errD, errF, pgetD, nodeD, sl, sbl, ren_none, ren_var, ren_arr, ren_map, ren_mapb, ren_iter, ren_loop, ren_defr, bel_none, bel_var, bel_arr, bel_map, bel_mapb, bel_iter, bel_loop, bel_defr, AV.renL, AV.ren, AV.belL, AV.bel, rn]) (by simp) (by simp [Tb, Ps, Psn, Ns, Cs, fP, pL, fE, errD, errF, pgetD, nodeD, sl]) (by simp [Tb, Ps, Psn, Ns, Cs, fP, pL, fE, errD, errF, pgetD, nodeD, sl, AV.ren, AV.renL, rn]) (by simp [AV.belL, AV.bel]) (by simp [lift, putAll, Tb, Ps, Psn, Ns, Cs, fP, pL, fE, errD, errF, pgetD, nodeD, sl, sbl, ren_none, ren_var, ren_arr, ren_map, ren_mapb, ren_iter, ren_loop, ren_defr, AV.renL, AV.ren, rn]) ?_
 simp only [push_cast, simprocAttr, fP, pL, fE]
 refine (vwrong_ok p.2 c.d (Nat.le_trans hp (by omega))).quiet' (by first | exact ⟨.inl rfl, trivial⟩ | exact ⟨.inl rfl, .inl rfl, trivial⟩ | exact ⟨.inl rfl, .inl rfl, .inl rfl, trivial⟩ | simp [argsOk, argOk, sl, sll]) ?_
 simp only [push_cast, simprocAttr, fP, pL, fE]
 unfold clSubmit at he
 by_cases hw : 0 ≤ wrongS p.2 c.d
 ·rw [if_pos hw] at he
  obtain rfl := Option.some.inj he
  have hb : decide (wrongS p.2 c.d ≥ 0) = true := decide_eq_true hw
  simp only [hb, push_cast, simprocAttr, fP, pL, fE]
  refine (fnew_ok 3 (wrongS p.2 c.d)).go (by first | exact ⟨.inl rfl, trivial⟩ | exact ⟨.inl rfl, .inl rfl, trivial⟩ | exact ⟨.inl rfl, .inl rfl, .inl rfl, trivial⟩ | simp [argsOk, argOk, sl, sll]) (WK.now ?_)
  simp only [push_cast, simprocAttr, fP, pL, fE]
  refine WK.now ?_
  simp only [zP, push_cast, simprocAttr, fP, pL, fE]
  first | done | exact ⟨_, rfl⟩ | exact ⟨rfl, _, rfl⟩
 ·rw [if_neg hw] at he
  have hb : decide (wrongS p.2 c.d ≥ 0) = false := decide_eq_false hw
  cases hE : addE 65536 c.L p.1.id with
  | none => rw [hE] at he; cases he
  | some x =>
   rw [hE] at he
   obtain rfl := Option.some.inj he
   simp only [hb, push_cast, simprocAttr, fP, pL, fE]
   refine DRegL.det [6, 9] [0, 1, 2, 3, 4, 5] [(6, [], [7, 8]), (9, [], [10])] (by kernel_rfl) (by kernel_rfl) (by kernel_rfl) ?_
   simp only [push_cast, simprocAttr, fP, pL, fE]
   refine (psubmit_err 65536 c.L c.ids p x hE hp ⟨by omega, by omega, h.ll⟩).at [0, 1, 2, 3] (by simp [Tb, Ps, Psn, Ns, Cs, fP, pL, fE, errD, errF, pgetD, nodeD, sl, sbl, ren_none, ren_var, ren_arr, ren_map, ren_mapb, ren_iter, ren_loop, ren_defr, bel_none, bel_var, bel_arr, bel_map, bel_mapb, bel_iter, bel_loop, bel_defr, AV.renL, AV.ren, AV.belL, AV.bel, rn]) (by simp) (by simp [Tb, Ps, Psn, Ns, Cs, fP, pL, fE, errD, errF, pgetD, nodeD, sl]) (by simp [Tb, Ps, Psn, Ns, Cs, fP, pL, fE, errD, errF, pgetD, nodeD, sl, AV.ren, AV.renL, rn]) (by simp [AV.belL, AV.bel]) ?_
   simp only [Ps, zP, push_cast, simprocAttr, fP, pL, fE]
   refine WK.now ?_
   simp only [zP, push_cast, simprocAttr, fP, pL, fE]
   first | done | exact ⟨_, rfl⟩ | exact ⟨rfl, _, rfl⟩
set_option maxRecDepth 8000 in
theorem csubmit_raw (c : Cl) (p : Pod) (h : ClOk c) (hp : Sz p.2) (he : (clSubmit c p).2 = none) :
  ACalls env 42 [.pvar 7 0, .d (fP p)] (Cs c) fun r H' => r = .d (.tup [fP (submitP p c.ids.length), .nili]) ∧ ∃ o1 o2, H' = [.map (entE fP (clSubmit c p).1.L), .var [.d (.int .i64 65536), .mapo 0], .var [.pvar 1 0, .sfull 10], .none,
   .map (entE fE c.N), .var [.d (.int .i64 1024), .mapo 4], .var [.d (.int .i64 c.d), .pvar 5 0], .var [.pvar 2 0, .pvar 6 0], o1, o2, .arr 3 1 (ints (clSubmit c p).1.ids)] := by
 unfold Cs
 refine acalls_of envOk Tryz.func42 rfl (by kernel_rfl) (m := 28) rfl ?_
 simp only [push_cast, simprocAttr, fP, pL, fE]
 refine DRegL.det [] [0, 1, 2, 3, 4, 5] [] (by kernel_rfl) (by kernel_rfl) (by kernel_rfl) ?_
 simp only [push_cast, simprocAttr, fP, pL, fE]
 refine (cdims_ok c).hushAt [0, 1, 2, 3, 4, 5, 6, 7] (by simp [Tb, Ps, Psn, Ns, Cs, fP, pL, fE, errD, errF, pgetD, nodeD, sl, sbl, ren_none, ren_var, ren_arr, ren_map, ren_mapb, ren_iter, ren_loop, ren_defr, bel_none, bel_var, bel_arr, bel_map, bel_mapb, bel_iter, bel_loop, bel_defr, AV.renL, AV.ren, AV.belL, AV.bel, rn]) (by simp) (by simp [Tb, Ps, Psn, Ns, Cs, fP, pL, fE, errD, errF, pgetD, nodeD, sl]) (by simp [Tb, Ps, Psn, Ns, Cs, fP, pL, fE, errD, errF, pgetD, nodeD, sl, AV.ren, AV.renL, rn]) (by simp [AV.belL, AV.bel]) (by simp [lift, putAll, Tb, Ps, Psn, Ns, Cs, fP, pL, fE, errD, errF, pgetD, nodeD, sl, sbl, ren_none, ren_var, ren_arr, ren_map, ren_mapb, ren_iter, ren_loop, ren_defr, AV.renL, AV.ren, rn]) ?_
 simp only [push_cast, simprocAttr, fP, pL, fE]
 refine (vwrong_ok p.2 c.d (Nat.le_trans hp (by omega))).quiet' (by first | exact ⟨.inl rfl, trivial⟩ | exact ⟨.inl rfl, .inl rfl, trivial⟩ | exact ⟨.inl rfl, .inl rfl, .inl rfl, trivial⟩ | simp [argsOk, argOk, sl, sll]) ?_
 simp only [push_cast, simprocAttr, fP, pL, fE]
 unfold clSubmit at he ⊢
 by_cases hw : 0 ≤ wrongS p.2 c.d
 ·rw [if_pos hw] at he; cases he
 ·rw [if_neg hw] at he ⊢
  have hb : decide (wrongS p.2 c.d ≥ 0) = false := decide_eq_false hw
  cases hE : addE 65536 c.L p.1.id with
  | some x => rw [hE] at he; cases he
  | none =>
   simp only [hb, push_cast, simprocAttr, fP, pL, fE]
   refine DRegL.det [6, 9] [0, 1, 2, 3, 4, 5] [(6, [], [7, 8]), (9, [], [10])] (by kernel_rfl) (by kernel_rfl) (by kernel_rfl) ?_
   simp only [push_cast, simprocAttr, fP, pL, fE]
   refine (psubmit_new 65536 c.L c.ids p hE hp h.i ⟨by omega, by omega, h.ll⟩).at [0, 1, 2, 3] (by simp [Tb, Ps, Psn, Ns, Cs, fP, pL, fE, errD, errF, pgetD, nodeD, sl, sbl, ren_none, ren_var, ren_arr, ren_map, ren_mapb, ren_iter, ren_loop, ren_defr, bel_none, bel_var, bel_arr, bel_map, bel_mapb, bel_iter, bel_loop, bel_defr, AV.renL, AV.ren, AV.belL, AV.bel, rn]) (by simp) (by simp [Tb, Ps, Psn, Ns, Cs, fP, pL, fE, errD, errF, pgetD, nodeD, sl]) (by simp [Tb, Ps, Psn, Ns, Cs, fP, pL, fE, errD, errF, pgetD, nodeD, sl, AV.ren, AV.renL, rn]) (by simp [AV.belL, AV.bel]) ?_
   simp only [Psn, submitP, push_cast, simprocAttr, fP, pL, fE]
   refine WK.now ?_
   simp only [submitP, push_cast, simprocAttr, fP, pL, fE]
   exact ⟨_, _, rfl⟩
theorem csubmit_new (c : Cl) (p : Pod) (h : ClOk c) (hp : Sz p.2) (he : (clSubmit c p).2 = none) :
  ACalls env 42 [.pvar 7 0, .d (fP p)] (Cs c) fun r H' => r = .d (.tup [fP (submitP p c.ids.length), .nili]) ∧ H' = Csn (clSubmit c p).1 :=
 (csubmit_raw c p h hp he).retell (by
  rintro r H' ⟨rfl, o1, o2, rfl⟩
  have hd : (clSubmit c p).1.d = c.d ∧ (clSubmit c p).1.N = c.N := by
   unfold clSubmit
   split
   ·exact ⟨rfl, rfl⟩
   ·split <;> exact ⟨rfl, rfl⟩
  exact WK.pick [0, 1, 2, 3, 4, 5, 6, 7, 10] (t' := [.d (.tup [fP (submitP p c.ids.length), .nili])]) (H' := Csn (clSubmit c p).1) (by simp [Csn, hd.1, hd.2, sbl, ren_none, ren_var, ren_arr, ren_map, bel_none, bel_var, bel_arr, bel_map, AV.renL, AV.ren, AV.belL, AV.bel, rn]) (by simp) (by simp) (by simp [tellL, AV.ren, AV.renL, AV.bel, AV.belL, rn]) (show ∀ id, id < 8 → ([0, 1, 2, 3, 4, 5, 6, 7, 10] : List Nat)[id]? = some id by decide) (WK.now ⟨_, rfl, rfl, rfl⟩))
theorem chgL_err {L : List (Int × Ent)} {d k : Int} {v : List Int} {f : Ent → Option (List Int)} (h : chgE L d k v f ≠ none) : chgL L d k v f = L := by
 unfold chgL; unfold chgE at h
 cases hl : lget L k with
 | none => rfl
 | some e =>
  rw [hl] at h
  simp only at h ⊢
  split
  ·rfl
  ·rename_i hw
   rw [if_neg hw] at h
   cases hf : f e with
   | none => rfl
   | some u => rw [hf] at h; exact absurd rfl h
noncomputable def placeD (c : Cl) (id at_ eo : Int) : D := match lget c.L id with
 | none => .tup [zP, errF (some (5, 0))]
 | some p => match lget c.N at_ with
  | none => .tup [zP, errF (some (5, 1))]
  | some e => match nextP p.1.ph eo with
   | none => .tup [zP, errF (some (8, 0))]
   | some to =>
    if eo = 1 then
     (if (chgE c.N c.d at_ p.2 (heldS p.2)).any (fun x => x.1 == 10) then .tup [zP, errF (chgE c.N c.d at_ p.2 (heldS p.2))] else .tup [fP (applyP p eo to at_ (-1)), .nili])
    else .tup [fP (applyP p eo to at_ (-1)), .nili]
set_option maxRecDepth 8000 in
set_option maxHeartbeats 1000000 in
theorem cplace_ok (c : Cl) (id at_ eo : Int) (h : ClOk c) :
  ACalls env 87 [.pvar 7 0, .d (.int .i64 id), .d (.int .i64 at_), .d (.int .i64 eo)] (Cs c) fun r H' => r = .d (placeD c id at_ eo) ∧ H' = Cs (clPlace c id at_ eo).1 := by
 unfold Cs
 refine ACalls.cutTo [0, 1, 2, 3, 4, 5, 6, 7] rfl ?_ (fun l => by simp [Tb, Ps, Psn, Ns, Cs, fP, pL, fE, errD, errF, pgetD, nodeD, sl, sbl, ren_none, ren_var, ren_arr, ren_map, ren_mapb, ren_iter, ren_loop, ren_defr, bel_none, bel_var, bel_arr, bel_map, bel_mapb, bel_iter, bel_loop, bel_defr, AV.renL, AV.ren, AV.belL, AV.bel, rn]) (fun m => by simp [tellL, AV.ren, AV.renL, AV.bel, AV.belL, rn])
 refine acalls_of envOk Tryz.func87 rfl (by kernel_rfl) (m := 70) rfl ?_
 simp only [push_cast, simprocAttr, fP, pL, fE]
 refine (cstate_ok c).at [0, 1, 2, 3, 4, 5, 6, 7] (by simp [Tb, Ps, Psn, Ns, Cs, fP, pL, fE, errD, errF, pgetD, nodeD, sl, sbl, ren_none, ren_var, ren_arr, ren_map, ren_mapb, ren_iter, ren_loop, ren_defr, bel_none, bel_var, bel_arr, bel_map, bel_mapb, bel_iter, bel_loop, bel_defr, AV.renL, AV.ren, AV.belL, AV.bel, rn]) (by simp) (by simp [Tb, Ps, Psn, Ns, Cs, fP, pL, fE, errD, errF, pgetD, nodeD, sl]) (by simp [Tb, Ps, Psn, Ns, Cs, fP, pL, fE, errD, errF, pgetD, nodeD, sl, AV.ren, AV.renL, rn]) (by simp [AV.belL, AV.bel]) (WK.now ?_)
 simp only [Cs, push_cast, simprocAttr, fP, pL, fE]
 refine (pget_ok 65536 c.L c.ids id h.L).at [0, 1, 2, 3] (by simp [Tb, Ps, Psn, Ns, Cs, fP, pL, fE, errD, errF, pgetD, nodeD, sl, sbl, ren_none, ren_var, ren_arr, ren_map, ren_mapb, ren_iter, ren_loop, ren_defr, bel_none, bel_var, bel_arr, bel_map, bel_mapb, bel_iter, bel_loop, bel_defr, AV.renL, AV.ren, AV.belL, AV.bel, rn]) (by simp) (by simp [Tb, Ps, Psn, Ns, Cs, fP, pL, fE, errD, errF, pgetD, nodeD, sl]) (by simp [Tb, Ps, Psn, Ns, Cs, fP, pL, fE, errD, errF, pgetD, nodeD, sl, AV.ren, AV.renL, rn]) (by simp [AV.belL, AV.bel]) (WK.now ?_)
 cases hl : lget c.L id with
 | none =>
  simp only [Ps, pgetD, pz, pod0, Option.getD_none, Option.isSome_none, push_cast, simprocAttr, pods_length, fP, pL, fE]
  refine (cunk_ok 0).go (by first | exact ⟨.inl rfl, trivial⟩ | exact ⟨.inl rfl, .inl rfl, trivial⟩ | exact ⟨.inl rfl, .inl rfl, .inl rfl, trivial⟩ | simp [argsOk, argOk, sl, sll]) (WK.now ?_)
  simp only [push_cast, simprocAttr, fP, pL, fE]
  refine WK.now ?_
  simp only [placeD, clPlace, hl, zP, push_cast, simprocAttr, fP, pL, fE]
  first | done | exact ⟨_, rfl⟩ | exact ⟨rfl, _, rfl⟩
 | some p =>
  simp only [Ps, pgetD, Option.getD_some, Option.isSome_some, push_cast, simprocAttr, pods_length, fP, pL, fE]
  refine (nget_ok c.d 1024 c.N at_ h.N).at [4, 5, 6] (by simp [Tb, Ps, Psn, Ns, Cs, fP, pL, fE, errD, errF, pgetD, nodeD, sl, sbl, ren_none, ren_var, ren_arr, ren_map, ren_mapb, ren_iter, ren_loop, ren_defr, bel_none, bel_var, bel_arr, bel_map, bel_mapb, bel_iter, bel_loop, bel_defr, AV.renL, AV.ren, AV.belL, AV.bel, rn]) (by simp) (by simp [Tb, Ps, Psn, Ns, Cs, fP, pL, fE, errD, errF, pgetD, nodeD, sl]) (by simp [Tb, Ps, Psn, Ns, Cs, fP, pL, fE, errD, errF, pgetD, nodeD, sl, AV.ren, AV.renL, rn]) (by simp [AV.belL, AV.bel]) (WK.now ?_)
  cases hn : lget c.N at_ with
  | none =>
   simp only [Ns, nodeD, push_cast, simprocAttr, fP, pL, fE]
   refine (cunk_ok 1).go (by first | exact ⟨.inl rfl, trivial⟩ | exact ⟨.inl rfl, .inl rfl, trivial⟩ | exact ⟨.inl rfl, .inl rfl, .inl rfl, trivial⟩ | simp [argsOk, argOk, sl, sll]) (WK.now ?_)
   simp only [push_cast, simprocAttr, fP, pL, fE]
   refine WK.now ?_
   simp only [placeD, clPlace, hl, hn, zP, push_cast, simprocAttr, fP, pL, fE]
   first | done | exact ⟨_, rfl⟩ | exact ⟨rfl, _, rfl⟩
  | some e =>
   simp only [Ns, nodeD, push_cast, simprocAttr, fP, pL, fE]
   refine (pnext_ok p.1.ph eo).go (by first | exact ⟨.inl rfl, trivial⟩ | exact ⟨.inl rfl, .inl rfl, trivial⟩ | exact ⟨.inl rfl, .inl rfl, .inl rfl, trivial⟩ | simp [argsOk, argOk, sl, sll]) (WK.now ?_)
   cases hx : nextP p.1.ph eo with
   | none =>
    simp only [Option.getD_none, Option.isSome_none, push_cast, simprocAttr, pods_length, fP, pL, fE]
    refine (fnew_ok 8 0).go (by first | exact ⟨.inl rfl, trivial⟩ | exact ⟨.inl rfl, .inl rfl, trivial⟩ | exact ⟨.inl rfl, .inl rfl, .inl rfl, trivial⟩ | simp [argsOk, argOk, sl, sll]) (WK.now ?_)
    simp only [push_cast, simprocAttr, fP, pL, fE]
    refine WK.now ?_
    simp only [placeD, clPlace, hl, hn, hx, zP, push_cast, simprocAttr, fP, pL, fE]
    first | done | exact ⟨_, rfl⟩ | exact ⟨rfl, _, rfl⟩
   | some to =>
    simp only [Option.getD_some, Option.isSome_some, push_cast, simprocAttr, pods_length, fP, pL, fE]
    refine Kbr.mk (fun b => ?_) (fun b => ?_)
    ·have b1 : eo = 1 := by simpa using b
     subst b1
     simp only [push_cast, simprocAttr, fP, pL, fE]
     refine (nhold_ok c.d 1024 c.N at_ p.2 h.N (h.L id p hl) (h.R id p hl)).at [4, 5, 6] (by simp [Tb, Ps, Psn, Ns, Cs, fP, pL, fE, errD, errF, pgetD, nodeD, sl, sbl, ren_none, ren_var, ren_arr, ren_map, ren_mapb, ren_iter, ren_loop, ren_defr, bel_none, bel_var, bel_arr, bel_map, bel_mapb, bel_iter, bel_loop, bel_defr, AV.renL, AV.ren, AV.belL, AV.bel, rn]) (by simp) (by simp [Tb, Ps, Psn, Ns, Cs, fP, pL, fE, errD, errF, pgetD, nodeD, sl]) (by simp [Tb, Ps, Psn, Ns, Cs, fP, pL, fE, errD, errF, pgetD, nodeD, sl, AV.ren, AV.renL, rn]) (by simp [AV.belL, AV.bel]) (WK.now ?_)
     simp only [Ns, push_cast, simprocAttr, fP, pL, fE]
     refine (is_ok (chgE c.N c.d at_ p.2 (heldS p.2)) 10).go (by first | exact ⟨.inl rfl, trivial⟩ | exact ⟨.inl rfl, .inl rfl, trivial⟩ | exact ⟨.inl rfl, .inl rfl, .inl rfl, trivial⟩ | simp [argsOk, argOk, sl, sll]) (WK.now ?_)
     cases ha : (chgE c.N c.d at_ p.2 (heldS p.2)).any (fun x => x.1 == 10) with
     | true =>
      have hN : chgL c.N c.d at_ p.2 (heldS p.2) = c.N := chgL_err (by
       intro hnone; rw [hnone] at ha; cases ha)
      simp only [hN, push_cast, simprocAttr, fP, pL, fE]
      refine WK.now ?_
      simp only [placeD, clPlace, hl, hn, hx, ha, if_true, zP, push_cast, simprocAttr, fP, pL, fE]
      first | done | exact ⟨_, rfl⟩ | exact ⟨rfl, _, rfl⟩
     | false =>
      simp only [push_cast, simprocAttr, fP, pL, fE]
      refine (papply_ok 65536 c.L c.ids id 1 at_ (-1) h.L).at [0, 1, 2, 3] (by simp [Tb, Ps, Psn, Ns, Cs, fP, pL, fE, errD, errF, pgetD, nodeD, sl, sbl, ren_none, ren_var, ren_arr, ren_map, ren_mapb, ren_iter, ren_loop, ren_defr, bel_none, bel_var, bel_arr, bel_map, bel_mapb, bel_iter, bel_loop, bel_defr, AV.renL, AV.ren, AV.belL, AV.bel, rn]) (by simp) (by simp [Tb, Ps, Psn, Ns, Cs, fP, pL, fE, errD, errF, pgetD, nodeD, sl]) (by simp [Tb, Ps, Psn, Ns, Cs, fP, pL, fE, errD, errF, pgetD, nodeD, sl, AV.ren, AV.renL, rn]) (by simp [AV.belL, AV.bel]) (WK.now ?_)
      simp only [Ps, applyR, applyL, hl, hx, push_cast, simprocAttr, fP, pL, fE]
      refine WK.now ?_
      simp only [placeD, clPlace, hl, hn, hx, ha, if_true, Bool.false_eq_true, if_false, push_cast, simprocAttr, pods_length, fP, pL, fE]
      first | done | exact ⟨_, rfl⟩ | exact ⟨rfl, _, rfl⟩
    ·have b1 : ¬ eo = 1 := by simpa using b
     simp only [push_cast, simprocAttr, fP, pL, fE]
     refine (papply_ok 65536 c.L c.ids id eo at_ (-1) h.L).at [0, 1, 2, 3] (by simp [Tb, Ps, Psn, Ns, Cs, fP, pL, fE, errD, errF, pgetD, nodeD, sl, sbl, ren_none, ren_var, ren_arr, ren_map, ren_mapb, ren_iter, ren_loop, ren_defr, bel_none, bel_var, bel_arr, bel_map, bel_mapb, bel_iter, bel_loop, bel_defr, AV.renL, AV.ren, AV.belL, AV.bel, rn]) (by simp) (by simp [Tb, Ps, Psn, Ns, Cs, fP, pL, fE, errD, errF, pgetD, nodeD, sl]) (by simp [Tb, Ps, Psn, Ns, Cs, fP, pL, fE, errD, errF, pgetD, nodeD, sl, AV.ren, AV.renL, rn]) (by simp [AV.belL, AV.bel]) (WK.now ?_)
     simp only [Ps, applyR, applyL, hl, hx, push_cast, simprocAttr, fP, pL, fE]
     refine WK.now ?_
     simp only [placeD, clPlace, hl, hn, hx, b1, if_false, push_cast, simprocAttr, fP, pL, fE]
     first | done | exact ⟨_, rfl⟩ | exact ⟨rfl, _, rfl⟩
def pL' (x : Pd × D) : List D := [.int .i64 x.1.id, .int .i64 x.1.pr, .bool x.1.pre, .int .i64 x.1.gr, x.2, .int .i64 x.1.ar, .int .i64 x.1.ph, .int .i64 x.1.nd, .int .i64 x.1.dl]
theorem zP_form : zP = .agg (pL' (pod0, .nils)) := rfl
theorem fP_form (p : Pod) : fP p = .agg (pL' (p.1, .slice 1 (ints p.2))) := rfl
theorem placeD_form (c : Cl) (id at_ eo : Int) : ∃ x y, placeD c id at_ eo = .tup [.agg (pL' x), y] := by
 unfold placeD
 rw [zP_form]
 split
 ·exact ⟨_, _, rfl⟩
 ·split
  ·exact ⟨_, _, rfl⟩
  ·split
   ·exact ⟨_, _, rfl⟩
   ·split
    ·split
     ·exact ⟨_, _, rfl⟩
     ·exact ⟨_, _, by rw [fP_form]⟩
    ·exact ⟨_, _, by rw [fP_form]⟩
theorem cbind_ok (c : Cl) (id at_ : Int) (h : ClOk c) :
  ACalls env 44 [.pvar 7 0, .d (.int .i64 id), .d (.int .i64 at_)] (Cs c) fun r H' => r = .d (placeD c id at_ 1) ∧ H' = Cs (clPlace c id at_ 1).1 := by
 have hp := cplace_ok c id at_ 1 h
 obtain ⟨x, y, hd⟩ : ∃ x y, placeD c id at_ 1 = .tup [.agg (pL' x), y] := placeD_form c id at_ 1
 unfold Cs
 refine ACalls.cutTo [0, 1, 2, 3, 4, 5, 6, 7] rfl ?_ (fun l => by simp [Tb, Ps, Psn, Ns, Cs, fP, pL, fE, errD, errF, pgetD, nodeD, sl, sbl, ren_none, ren_var, ren_arr, ren_map, ren_mapb, ren_iter, ren_loop, ren_defr, bel_none, bel_var, bel_arr, bel_map, bel_mapb, bel_iter, bel_loop, bel_defr, AV.renL, AV.ren, AV.belL, AV.bel, rn]) (fun m => by simp [tellL, AV.ren, AV.renL, AV.bel, AV.belL, rn])
 refine acalls_of envOk Tryz.func44 rfl (by kernel_rfl) (m := 11) rfl ?_
 simp only [push_cast, simprocAttr, fP, pL, fE]
 refine hp.at [0, 1, 2, 3, 4, 5, 6, 7] (by simp [Tb, Ps, Psn, Ns, Cs, fP, pL, fE, errD, errF, pgetD, nodeD, sl, sbl, ren_none, ren_var, ren_arr, ren_map, ren_mapb, ren_iter, ren_loop, ren_defr, bel_none, bel_var, bel_arr, bel_map, bel_mapb, bel_iter, bel_loop, bel_defr, AV.renL, AV.ren, AV.belL, AV.bel, rn]) (by simp) (by simp [Tb, Ps, Psn, Ns, Cs, fP, pL, fE, errD, errF, pgetD, nodeD, sl]) (by simp [Tb, Ps, Psn, Ns, Cs, fP, pL, fE, errD, errF, pgetD, nodeD, sl, AV.ren, AV.renL, rn]) (by simp [AV.belL, AV.bel]) (WK.now ?_)
 rw [hd]
 simp only [Cs, pL', push_cast, simprocAttr, pods_length, fP, pL, fE]
 refine WK.now ?_
 simp only [pL', push_cast, simprocAttr, pods_length, fP, pL, fE]
 first | done | exact ⟨_, rfl⟩ | exact ⟨rfl, _, rfl⟩
theorem cclaim_ok (c : Cl) (id at_ : Int) (h : ClOk c) :
  ACalls env 84 [.pvar 7 0, .d (.int .i64 id), .d (.int .i64 at_)] (Cs c) fun r H' => r = .d (placeD c id at_ 2) ∧ H' = Cs (clPlace c id at_ 2).1 := by
 have hp := cplace_ok c id at_ 2 h
 obtain ⟨x, y, hd⟩ : ∃ x y, placeD c id at_ 2 = .tup [.agg (pL' x), y] := placeD_form c id at_ 2
 unfold Cs
 refine ACalls.cutTo [0, 1, 2, 3, 4, 5, 6, 7] rfl ?_ (fun l => by simp [Tb, Ps, Psn, Ns, Cs, fP, pL, fE, errD, errF, pgetD, nodeD, sl, sbl, ren_none, ren_var, ren_arr, ren_map, ren_mapb, ren_iter, ren_loop, ren_defr, bel_none, bel_var, bel_arr, bel_map, bel_mapb, bel_iter, bel_loop, bel_defr, AV.renL, AV.ren, AV.belL, AV.bel, rn]) (fun m => by simp [tellL, AV.ren, AV.renL, AV.bel, AV.belL, rn])
 refine acalls_of envOk Tryz.func84 rfl (by kernel_rfl) (m := 11) rfl ?_
 simp only [push_cast, simprocAttr, fP, pL, fE]
 refine hp.at [0, 1, 2, 3, 4, 5, 6, 7] (by simp [Tb, Ps, Psn, Ns, Cs, fP, pL, fE, errD, errF, pgetD, nodeD, sl, sbl, ren_none, ren_var, ren_arr, ren_map, ren_mapb, ren_iter, ren_loop, ren_defr, bel_none, bel_var, bel_arr, bel_map, bel_mapb, bel_iter, bel_loop, bel_defr, AV.renL, AV.ren, AV.belL, AV.bel, rn]) (by simp) (by simp [Tb, Ps, Psn, Ns, Cs, fP, pL, fE, errD, errF, pgetD, nodeD, sl]) (by simp [Tb, Ps, Psn, Ns, Cs, fP, pL, fE, errD, errF, pgetD, nodeD, sl, AV.ren, AV.renL, rn]) (by simp [AV.belL, AV.bel]) (WK.now ?_)
 rw [hd]
 simp only [Cs, pL', push_cast, simprocAttr, pods_length, fP, pL, fE]
 refine WK.now ?_
 simp only [pL', push_cast, simprocAttr, pods_length, fP, pL, fE]
 first | done | exact ⟨_, rfl⟩ | exact ⟨rfl, _, rfl⟩
end Go.Proofs.YtmeicgbddgeeoaaGreatDoor
end
section
set_option autoImplicit false
set_option linter.unusedVariables false
set_option linter.unusedSimpArgs false
namespace Go.Proofs.YtmeicgbddgeeoaaGreatDoor
open Go.Abs
noncomputable def changeD (c : Cl) (id eo dl : Int) : D := match lget c.L id with
 | none => .tup [zP, errF (some (5, 0))]
 | some p =>
  if eo = 1 ∨ eo = 2 then .tup [zP, errF (some (8, 0))]
  else match nextP p.1.ph eo with
   | none => .tup [zP, errF (some (8, 0))]
   | some to => .tup [fP (applyP p eo to (-1) dl), errF (if eo = 5 ∧ holdsP p.1.ph then chgE c.N c.d p.1.nd p.2 (freedS p.2) else none)]
set_option maxRecDepth 8000 in
set_option maxHeartbeats 1000000 in
theorem cchange_ok (c : Cl) (id eo dl : Int) (h : ClOk c) :
  ACalls env 85 [.pvar 7 0, .d (.int .i64 id), .d (.int .i64 eo), .d (.int .i64 dl)] (Cs c) fun r H' => r = .d (changeD c id eo dl) ∧ H' = Cs (clChange c id eo dl).1 := by
 unfold Cs
 refine ACalls.cutTo [0, 1, 2, 3, 4, 5, 6, 7] rfl ?_ (fun l => by simp [Tb, Ps, Psn, Ns, Cs, fP, pL, fE, errD, errF, pgetD, nodeD, sl, sbl, ren_none, ren_var, ren_arr, ren_map, ren_mapb, ren_iter, ren_loop, ren_defr, bel_none, bel_var, bel_arr, bel_map, bel_mapb, bel_iter, bel_loop, bel_defr, AV.renL, AV.ren, AV.belL, AV.bel, rn]) (fun m => by simp [tellL, AV.ren, AV.renL, AV.bel, AV.belL, rn])
 refine acalls_of envOk Tryz.func85 rfl (by kernel_rfl) (m := 61) rfl ?_
 simp only [push_cast, simprocAttr, fP, pL, fE]
 refine (cstate_ok c).at [0, 1, 2, 3, 4, 5, 6, 7] (by simp [Tb, Ps, Psn, Ns, Cs, fP, pL, fE, errD, errF, pgetD, nodeD, sl, sbl, ren_none, ren_var, ren_arr, ren_map, ren_mapb, ren_iter, ren_loop, ren_defr, bel_none, bel_var, bel_arr, bel_map, bel_mapb, bel_iter, bel_loop, bel_defr, AV.renL, AV.ren, AV.belL, AV.bel, rn]) (by simp) (by simp [Tb, Ps, Psn, Ns, Cs, fP, pL, fE, errD, errF, pgetD, nodeD, sl]) (by simp [Tb, Ps, Psn, Ns, Cs, fP, pL, fE, errD, errF, pgetD, nodeD, sl, AV.ren, AV.renL, rn]) (by simp [AV.belL, AV.bel]) (WK.now ?_)
 simp only [Cs, push_cast, simprocAttr, fP, pL, fE]
 refine (pget_ok 65536 c.L c.ids id h.L).at [0, 1, 2, 3] (by simp [Tb, Ps, Psn, Ns, Cs, fP, pL, fE, errD, errF, pgetD, nodeD, sl, sbl, ren_none, ren_var, ren_arr, ren_map, ren_mapb, ren_iter, ren_loop, ren_defr, bel_none, bel_var, bel_arr, bel_map, bel_mapb, bel_iter, bel_loop, bel_defr, AV.renL, AV.ren, AV.belL, AV.bel, rn]) (by simp) (by simp [Tb, Ps, Psn, Ns, Cs, fP, pL, fE, errD, errF, pgetD, nodeD, sl]) (by simp [Tb, Ps, Psn, Ns, Cs, fP, pL, fE, errD, errF, pgetD, nodeD, sl, AV.ren, AV.renL, rn]) (by simp [AV.belL, AV.bel]) (WK.now ?_)
 cases hl : lget c.L id with
 | none =>
  simp only [Ps, pgetD, pz, pod0, Option.getD_none, Option.isSome_none, push_cast, simprocAttr, pods_length, fP, pL, fE]
  refine (cunk_ok 0).go (by first | exact ⟨.inl rfl, trivial⟩ | exact ⟨.inl rfl, .inl rfl, trivial⟩ | exact ⟨.inl rfl, .inl rfl, .inl rfl, trivial⟩ | simp [argsOk, argOk, sl, sll]) (WK.now ?_)
  simp only [push_cast, simprocAttr, fP, pL, fE]
  refine WK.now ?_
  simp only [changeD, clChange, hl, zP, push_cast, simprocAttr, fP, pL, fE]
  first | done | exact ⟨_, rfl⟩ | exact ⟨rfl, _, rfl⟩
 | some p =>
  simp only [Ps, pgetD, Option.getD_some, Option.isSome_some, push_cast, simprocAttr, pods_length, fP, pL, fE]
  by_cases h12 : eo = 1 ∨ eo = 2
  ·have hb : (eo == 1) = true ∨ ((eo == 1) = false ∧ (eo == 2) = true) := by
    rcases h12 with rfl | rfl
    ·exact .inl rfl
    ·exact .inr ⟨rfl, rfl⟩
   rcases hb with b1 | ⟨b1, b2⟩
   ·simp only [b1, push_cast, simprocAttr, fP, pL, fE]
    refine (fnew_ok 8 0).go (by first | exact ⟨.inl rfl, trivial⟩ | exact ⟨.inl rfl, .inl rfl, trivial⟩ | exact ⟨.inl rfl, .inl rfl, .inl rfl, trivial⟩ | simp [argsOk, argOk, sl, sll]) (WK.now ?_)
    simp only [push_cast, simprocAttr, fP, pL, fE]
    refine WK.now ?_
    simp only [changeD, clChange, hl, h12, if_true, zP, push_cast, simprocAttr, fP, pL, fE]
    first | done | exact ⟨_, rfl⟩ | exact ⟨rfl, _, rfl⟩
   ·simp only [b1, b2, push_cast, simprocAttr, fP, pL, fE]
    refine (fnew_ok 8 0).go (by first | exact ⟨.inl rfl, trivial⟩ | exact ⟨.inl rfl, .inl rfl, trivial⟩ | exact ⟨.inl rfl, .inl rfl, .inl rfl, trivial⟩ | simp [argsOk, argOk, sl, sll]) (WK.now ?_)
    simp only [push_cast, simprocAttr, fP, pL, fE]
    refine WK.now ?_
    simp only [changeD, clChange, hl, h12, if_true, zP, push_cast, simprocAttr, fP, pL, fE]
    first | done | exact ⟨_, rfl⟩ | exact ⟨rfl, _, rfl⟩
  ·have b1 : (eo == 1) = false := by simpa using fun e => h12 (.inl e)
   have b2 : (eo == 2) = false := by simpa using fun e => h12 (.inr e)
   simp only [b1, b2, push_cast, simprocAttr, fP, pL, fE]
   refine (papply_ok 65536 c.L c.ids id eo (-1) dl h.L).at [0, 1, 2, 3] (by simp [Tb, Ps, Psn, Ns, Cs, fP, pL, fE, errD, errF, pgetD, nodeD, sl, sbl, ren_none, ren_var, ren_arr, ren_map, ren_mapb, ren_iter, ren_loop, ren_defr, bel_none, bel_var, bel_arr, bel_map, bel_mapb, bel_iter, bel_loop, bel_defr, AV.renL, AV.ren, AV.belL, AV.bel, rn]) (by simp) (by simp [Tb, Ps, Psn, Ns, Cs, fP, pL, fE, errD, errF, pgetD, nodeD, sl]) (by simp [Tb, Ps, Psn, Ns, Cs, fP, pL, fE, errD, errF, pgetD, nodeD, sl, AV.ren, AV.renL, rn]) (by simp [AV.belL, AV.bel]) (WK.now ?_)
   cases hx : nextP p.1.ph eo with
   | none =>
    simp only [Ps, applyR, applyL, hl, hx, zP, push_cast, simprocAttr, fP, pL, fE]
    refine WK.now ?_
    simp only [changeD, clChange, hl, h12, if_false, hx, zP, push_cast, simprocAttr, fP, pL, fE]
    first | done | exact ⟨_, rfl⟩ | exact ⟨rfl, _, rfl⟩
   | some to =>
    simp only [Ps, applyR, applyL, hl, hx, push_cast, simprocAttr, fP, pL, fE]
    refine Kbr.mk (fun b => ?_) (fun b => ?_)
    ·have b5 : eo = 5 := by simpa using b
     simp only [push_cast, simprocAttr, fP, pL, fE]
     refine (holds_ok p.1.ph).go (by first | exact ⟨.inl rfl, trivial⟩ | exact ⟨.inl rfl, .inl rfl, trivial⟩ | exact ⟨.inl rfl, .inl rfl, .inl rfl, trivial⟩ | simp [argsOk, argOk, sl, sll]) (WK.now ?_)
     by_cases hh : holdsP p.1.ph
     ·have hd : decide (p.1.ph = 3 ∨ p.1.ph = 4) = true := decide_eq_true hh
      have h5 : (eo = 5 ∧ holdsP p.1.ph) = True := eq_true ⟨b5, hh⟩
      simp only [hd, push_cast, simprocAttr, fP, pL, fE]
      refine (nrel_ok c.d 1024 c.N p.1.nd p.2 h.N (h.L id p hl) (h.R id p hl)).at [4, 5, 6] (by simp [Tb, Ps, Psn, Ns, Cs, fP, pL, fE, errD, errF, pgetD, nodeD, sl, sbl, ren_none, ren_var, ren_arr, ren_map, ren_mapb, ren_iter, ren_loop, ren_defr, bel_none, bel_var, bel_arr, bel_map, bel_mapb, bel_iter, bel_loop, bel_defr, AV.renL, AV.ren, AV.belL, AV.bel, rn]) (by simp) (by simp [Tb, Ps, Psn, Ns, Cs, fP, pL, fE, errD, errF, pgetD, nodeD, sl]) (by simp [Tb, Ps, Psn, Ns, Cs, fP, pL, fE, errD, errF, pgetD, nodeD, sl, AV.ren, AV.renL, rn]) (by simp [AV.belL, AV.bel]) (WK.now ?_)
      simp only [Ns, push_cast, simprocAttr, fP, pL, fE]
      refine WK.now ?_
      simp only [changeD, clChange, hl, h12, if_false, hx, h5, if_true, push_cast, simprocAttr, fP, pL, fE]
      first | done | exact ⟨_, rfl⟩ | exact ⟨rfl, _, rfl⟩
     ·have hd : decide (p.1.ph = 3 ∨ p.1.ph = 4) = false := decide_eq_false hh
      have h5 : ¬ (eo = 5 ∧ holdsP p.1.ph) := fun h => hh h.2
      simp only [hd, push_cast, simprocAttr, fP, pL, fE]
      refine WK.now ?_
      simp only [changeD, clChange, hl, h12, if_false, hx, h5, push_cast, simprocAttr, fP, pL, fE]
      first | done | exact ⟨_, rfl⟩ | exact ⟨rfl, _, rfl⟩
    ·have b5 : ¬ eo = 5 := by simpa using b
     have h5 : ¬ (eo = 5 ∧ holdsP p.1.ph) := fun h => b5 h.1
     simp only [push_cast, simprocAttr, fP, pL, fE]
     refine WK.now ?_
     simp only [changeD, clChange, hl, h12, if_false, hx, h5, push_cast, simprocAttr, fP, pL, fE]
     first | done | exact ⟨_, rfl⟩ | exact ⟨rfl, _, rfl⟩
end Go.Proofs.YtmeicgbddgeeoaaGreatDoor
end
