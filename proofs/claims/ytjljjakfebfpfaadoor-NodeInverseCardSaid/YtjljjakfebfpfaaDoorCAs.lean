/-
  errors.As at an error of the type api.Code and a target of the type *api.Code: Go's own text, walked; what comes of it, by value.
-/
import Derived.Test.YtjljjakfebfpfaaDoorCEnv
import Derived.Test.YtjljjakfebfpfaaDoorAbsT
import Derived.WalkKit
import Derived.LaidEql
import Derived.Stop.Asserts
import Derived.RowKitTokens
set_option autoImplicit false
set_option linter.unusedVariables false
set_option linter.unusedSimpArgs false
namespace Go.Proofs.YtjljjakfebfpfaaDoor
open Go.RowKit Go.Extern.Stop Go.Stop Go.Extern Go.Abs

theorem as_nilW (t : Value) (w : World) :
    Calls Tryd.prog 37 #[.nilIface, t] w fun e w' => e = .returned (.bool false) ∧ w' = w := by
  go_enter Tryd.func37, Tryd.ntmps37
  go_wp2
  go_ret
  exact ⟨rfl, rfl⟩

theorem as_valueOfP (t : Addr) (w : World) : (ReflectliteValue.unpack (.iface 77 (.pointer (some t)))).run Tryd.prog w
    = .ok (.agg #[.pointer (some ⟨1, 77, none⟩), .pointer (some ⟨w.heap.size, 0, none⟩), .int .u64 150]) (w.alloc (.cells #[.pointer (some t)] 77)) := by kernel_rfl
theorem as_typeP (a : Addr) (w : World) : (ReflectliteValue.methodAny (ReflectliteValue.valueError "reflectlite.Value.Type" 0) (fun t _ _ _ => ReflectliteType.toType t) #[.agg #[.pointer (some ⟨1, 77, none⟩), .pointer (some a), .int .u64 150]]).run Tryd.prog w
    = .ok (.iface 138 (.agg #[.pointer (some ⟨1, 77, none⟩)])) w := by kernel_rfl
theorem as_methodKind (h : Value) (w : World) : (Go.method 309 138 (.agg #[h]) "Kind").run Tryd.prog w = .ok (125, h) w := by kernel_rfl
theorem as_kindP (w : World) : ((ReflectliteType.abiMethod fun t => (fun a : Nat => Value.int IntKind.u8 (a : Int)) <$> Rtype.kind t) #[.pointer (some ⟨1, 77, none⟩)]).run Tryd.prog w = .ok (.int .u8 22) w := by kernel_rfl
theorem as_kindC (w : World) : ((ReflectliteType.abiMethod fun t => (fun a : Nat => Value.int IntKind.u8 (a : Int)) <$> Rtype.kind t) #[.pointer (some ⟨1, 73, none⟩)]).run Tryd.prog w = .ok (.int .u8 2) w := by kernel_rfl
theorem as_rlm (z : Sem Value) (f : TypeId → Addr → Nat → Nat → Sem Value) (v : Value) :
    ReflectliteValue.method z f #[v] = (do match ← ReflectliteValue.parts v with | none => z | some (t, a, fl) => f t a fl (fl % 32)) := rfl
theorem as_partsP (a : Addr) (w : World) : (ReflectliteValue.parts (.agg #[.pointer (some ⟨1, 77, none⟩), .pointer (some a), .int .u64 150])).run Tryd.prog w = .ok (some (77, a, 150)) w := by kernel_rfl
theorem as_isNilP (a p : Addr) (W : World) (ha : W.cell? a = some (.pointer (some p))) :
    (ReflectliteValue.method (ReflectliteValue.valueError "reflectlite.Value.IsNil" 0) ReflectliteValue.isNil #[.agg #[.pointer (some ⟨1, 77, none⟩), .pointer (some a), .int .u64 150]]).run Tryd.prog W = .ok (.bool false) W := by
  rw [as_rlm]
  simp only [Sem.run_bind, as_partsP, Result.andThen]
  simp [ReflectliteValue.isNil, loadVar, isAgg, underlying, Tryd.underlying77, ha, Result.andThen]
theorem as_methodElem (h : Value) (w : World) : (Go.method 309 138 (.agg #[h]) "Elem").run Tryd.prog w = .ok (140, .agg #[h]) w := by kernel_rfl
theorem as_methodImplements (h : Value) (w : World) : (Go.method 309 138 (.agg #[h]) "Implements").run Tryd.prog w = .ok (141, .agg #[h]) w := by kernel_rfl
theorem as_methodAssignableTo (h : Value) (w : World) : (Go.method 309 138 (.agg #[h]) "AssignableTo").run Tryd.prog w = .ok (138, .agg #[h]) w := by kernel_rfl
theorem as_elemP (w : World) : (ReflectliteType.method ReflectliteType.elem #[.agg #[.pointer (some ⟨1, 77, none⟩)]]).run Tryd.prog w = .ok (.iface 138 (.agg #[.pointer (some ⟨1, 73, none⟩)])) w := by kernel_rfl
theorem as_implementsC (w : World) : (ReflectliteType.relation "Implements" ReflectliteType.implements_ #[.agg #[.pointer (some ⟨1, 73, none⟩)], .iface 138 (.agg #[.pointer (some ⟨1, 32, none⟩)])]).run Tryd.prog w = .ok (.bool true) w := by kernel_rfl
theorem as_typeOfC (v : Value) (w : World) : (ReflectliteType.typeOf #[.iface 73 v]).run Tryd.prog w = .ok (.iface 138 (.agg #[.pointer (some ⟨1, 73, none⟩)])) w := by kernel_rfl
theorem as_assignableC (w : World) : (ReflectliteType.relation "AssignableTo" ReflectliteType.assignableTo #[.agg #[.pointer (some ⟨1, 73, none⟩)], .iface 138 (.agg #[.pointer (some ⟨1, 73, none⟩)])]).run Tryd.prog w = .ok (.bool true) w := by kernel_rfl
theorem as_valueOfC (c : Int) (w : World) : (ReflectliteValue.unpack (.iface 73 (.int .i64 c))).run Tryd.prog w
    = .ok (.agg #[.pointer (some ⟨1, 73, none⟩), .pointer (some ⟨w.heap.size, 0, none⟩), .int .u64 130]) (w.alloc (.cells #[.int .i64 c] 73)) := by kernel_rfl
theorem as_elemOfP (w : World) : (Rtype.elem? 77).run Tryd.prog w = .ok (some 73) w := by kernel_rfl
theorem as_mkC (p : Addr) (w : World) : (ReflectliteValue.mk 73 p ReflectliteValue.flagAddr).run Tryd.prog w = .ok (.agg #[.pointer (some ⟨1, 73, none⟩), .pointer (some p), .int .u64 386]) w := by kernel_rfl
theorem as_elemVP (a p : Addr) (W : World) (ha : W.cell? a = some (.pointer (some p))) :
    (ReflectliteValue.method (ReflectliteValue.valueError "reflectlite.Value.Elem" 0) ReflectliteValue.elem #[.agg #[.pointer (some ⟨1, 77, none⟩), .pointer (some a), .int .u64 150]]).run Tryd.prog W
      = .ok (.agg #[.pointer (some ⟨1, 73, none⟩), .pointer (some p), .int .u64 386]) W := by
  rw [as_rlm]
  simp only [Sem.run_bind, as_partsP, Result.andThen]
  simp [ReflectliteValue.elem, loadVar, isAgg, underlying, Tryd.underlying77, ha, Result.andThen, as_elemOfP, as_mkC]
theorem as_rls (v x : Value) : ReflectliteValue.set #[v, x] = (do
    let (some (dst, a, fl), some (src, b, _)) := (← ReflectliteValue.parts v, ← ReflectliteValue.parts x)
      | unsupported (.noEntry "extern/(internal/reflectlite.Value).Set.zeroValue")
    if fl / ReflectliteValue.flagAddr % 2 == 0 then unsupported (.noEntry "extern/(internal/reflectlite.Value).Set.unaddressable")
    let val ← loadVar src b
    if ← Rtype.directlyAssignable dst src then storeVar dst a val
    else if ← Rtype.implements dst src then
      if (← Rtype.kind src) == 20 then
        match val with
        | .nilIface => unsupported (.noEntry "extern/reflectlite: a nil value of one interface type handed on as a value of another")
        | _ => storeVar dst a val
      else storeVar dst a (.iface src val)
    else panicString ("reflectlite.Set: value of type " ++ (← Rtype.spelt src) ++ " is not assignable to type " ++ (← Rtype.spelt dst))
    pure (.tuple #[])) := rfl
theorem as_partsCa (a : Addr) (w : World) : (ReflectliteValue.parts (.agg #[.pointer (some ⟨1, 73, none⟩), .pointer (some a), .int .u64 386])).run Tryd.prog w = .ok (some (73, a, 386)) w := by kernel_rfl
theorem as_partsC (a : Addr) (w : World) : (ReflectliteValue.parts (.agg #[.pointer (some ⟨1, 73, none⟩), .pointer (some a), .int .u64 130])).run Tryd.prog w = .ok (some (73, a, 130)) w := by kernel_rfl
theorem as_directC (w : World) : (Rtype.directlyAssignable 73 73).run Tryd.prog w = .ok true w := by kernel_rfl
theorem as_sizeC (w : World) : (sizeOf 73).run Tryd.prog w = .ok 1 w := by kernel_rfl
theorem as_setC (ta b : Addr) (c : Int) (old : Value) (W : World) (hb : W.cell? b = some (.int .i64 c)) (ht : W.cell? ta = some old) (hf : W.frozen? ta = false) :
    (ReflectliteValue.set #[.agg #[.pointer (some ⟨1, 73, none⟩), .pointer (some ta), .int .u64 386], .agg #[.pointer (some ⟨1, 73, none⟩), .pointer (some b), .int .u64 130]]).run Tryd.prog W
      = .ok (.tuple #[]) (W.setCell ta (.int .i64 c)) := by
  rw [as_rls]
  simp only [Sem.run_bind, as_partsCa, as_partsC, Result.andThen]
  simp [ReflectliteValue.flagAddr, loadVar, isAgg, underlying, Tryd.underlying73, hb, Result.andThen, as_directC, storeVar, Value.cells, storeCells, Addr.add]
  rw [run_store Tryd.prog W ta _ _ (by rfl)]
  simp [ht, hf]

set_option maxHeartbeats 4000000 in
theorem as_hitW (c : Int) (t : Addr) (old : Value) (w : World) (hg : w.cell? ⟨0, 0, none⟩ = some (.iface 138 (.agg #[.pointer (some ⟨1, 32, none⟩)]))) (ht0 : w.cell? t = some old) (hf0 : w.frozen? t = false) :
    Calls Tryd.prog 37 #[.iface 73 (.int .i64 c), .iface 77 (.pointer (some t))] w fun ev w' => ev = .returned (.bool true) ∧ w' = ((((w.alloc (.cells #[.pointer (some t)] 77)).alloc (.cells #[.pointer (some ⟨1, 77, none⟩), .pointer (some ⟨w.heap.size, 0, none⟩), .int .u64 150] 112)).alloc (.cells #[.pointer (some ⟨1, 77, none⟩), .pointer (some ⟨w.heap.size, 0, none⟩), .int .u64 150] 112)).alloc (.cells #[.int .i64 c] 73)).setCell t (.int .i64 c) := by
  have h6 := @run_callFunc_extern Tryd.prog 64 _ (fun args => ReflectliteValue.unpack (args.getD 0 (.tuple #[]))) Tryd.func64 (by kernel_rfl) (by kernel_rfl) (by kernel_rfl) (by kernel_rfl)
  have h7 := @run_callFunc_extern Tryd.prog 65 _ (ReflectliteValue.methodAny (ReflectliteValue.valueError "reflectlite.Value.Type" 0) (fun t _ _ _ => ReflectliteType.toType t)) Tryd.func65 (by kernel_rfl) (by kernel_rfl) (by kernel_rfl) (by kernel_rfl)
  have h8 := @run_callFunc_extern Tryd.prog 66 _ (ReflectliteValue.method (ReflectliteValue.valueError "reflectlite.Value.IsNil" 0) ReflectliteValue.isNil) Tryd.func66 (by kernel_rfl) (by kernel_rfl) (by kernel_rfl) (by kernel_rfl)
  have h27 := @run_callFunc_extern Tryd.prog 125 _ (ReflectliteType.abiMethod fun t => do pure (.int .u8 (← Rtype.kind t))) Tryd.func125 (by kernel_rfl) (by kernel_rfl) (by kernel_rfl) (by kernel_rfl)
  have h37 := @run_callFunc_extern Tryd.prog 140 _ (ReflectliteType.method ReflectliteType.elem) Tryd.func140 (by kernel_rfl) (by kernel_rfl) (by kernel_rfl) (by kernel_rfl)
  have h38 := @run_callFunc_extern Tryd.prog 141 _ (ReflectliteType.relation "Implements" ReflectliteType.implements_) Tryd.func141 (by kernel_rfl) (by kernel_rfl) (by kernel_rfl) (by kernel_rfl)
  have h10 := @run_callFunc_extern Tryd.prog 80 _ ReflectliteType.typeOf Tryd.func80 (by kernel_rfl) (by kernel_rfl) (by kernel_rfl) (by kernel_rfl)
  have h35 := @run_callFunc_extern Tryd.prog 138 _ (ReflectliteType.relation "AssignableTo" ReflectliteType.assignableTo) Tryd.func138 (by kernel_rfl) (by kernel_rfl) (by kernel_rfl) (by kernel_rfl)
  have h11 := @run_callFunc_extern Tryd.prog 81 _ (ReflectliteValue.method (ReflectliteValue.valueError "reflectlite.Value.Elem" 0) ReflectliteValue.elem) Tryd.func81 (by kernel_rfl) (by kernel_rfl) (by kernel_rfl) (by kernel_rfl)
  have h12 := @run_callFunc_extern Tryd.prog 82 _ ReflectliteValue.set Tryd.func82 (by kernel_rfl) (by kernel_rfl) (by kernel_rfl) (by kernel_rfl)
  have tO := as_typeOfC
  have mA := as_methodAssignableTo
  have a25 := as_assignableC
  have v25 := as_valueOfC
  have f6 := as_valueOfP
  have f7 := as_typeP
  have mK := as_methodKind
  have mE := as_methodElem
  have mI := as_methodImplements
  have k27 := as_kindP
  have k25 := as_kindC
  have e27 := as_elemP
  have i25 := as_implementsC
  have n8 := as_isNilP ⟨w.heap.size, 0, none⟩ t ((w.alloc (.cells #[.pointer (some t)] 77)).alloc (.cells #[.pointer (some ⟨1, 77, none⟩), .pointer (some ⟨w.heap.size, 0, none⟩), .int .u64 150] 112)) (by simp)
  have hlt : 0 < w.heap.size := by
    rcases Nat.eq_zero_or_pos w.heap.size with h0 | h
    · simp [World.cell?, h0] at hg
    · exact h
  have hg2 : ((w.alloc (.cells #[.pointer (some t)] 77)).alloc (.cells #[.pointer (some ⟨1, 77, none⟩), .pointer (some ⟨w.heap.size, 0, none⟩), .int .u64 150] 112)).cell? ⟨0, 0, none⟩ = some (.iface 138 (.agg #[.pointer (some ⟨1, 32, none⟩)])) := by
    rw [World.cell?_alloc_lt _ _ ⟨0, 0, none⟩ (by simp), World.cell?_alloc_lt _ _ ⟨0, 0, none⟩ hlt]; exact hg
  have htl : t.block < w.heap.size := by
    rcases Nat.lt_or_ge t.block w.heap.size with h | h
    · exact h
    · simp [World.cell?, Array.getElem?_eq_none h] at ht0
  have el := as_elemVP ⟨w.heap.size, 0, none⟩ t (((w.alloc (.cells #[.pointer (some t)] 77)).alloc (.cells #[.pointer (some ⟨1, 77, none⟩), .pointer (some ⟨w.heap.size, 0, none⟩), .int .u64 150] 112)).alloc (.cells #[.pointer (some ⟨1, 77, none⟩), .pointer (some ⟨w.heap.size, 0, none⟩), .int .u64 150] 112)) (by rw [World.cell?_alloc_lt _ _ ⟨w.heap.size, 0, none⟩ (by simp; omega)]; simp)
  have st := as_setC t ⟨w.heap.size + 1 + 1 + 1, 0, none⟩ c old ((((w.alloc (.cells #[.pointer (some t)] 77)).alloc (.cells #[.pointer (some ⟨1, 77, none⟩), .pointer (some ⟨w.heap.size, 0, none⟩), .int .u64 150] 112)).alloc (.cells #[.pointer (some ⟨1, 77, none⟩), .pointer (some ⟨w.heap.size, 0, none⟩), .int .u64 150] 112)).alloc (.cells #[.int .i64 c] 73))
    (by rw [World.cell?_alloc_at _ _ _ _ (by simp)]; rfl)
    (by rw [World.cell?_alloc_lt _ _ t (by simp; omega), World.cell?_alloc_lt _ _ t (by simp; omega), World.cell?_alloc_lt _ _ t (by simp; omega), World.cell?_alloc_lt _ _ t htl]; exact ht0)
    (by rw [World.frozen?_alloc_old _ _ t (by simp; omega), World.frozen?_alloc_old _ _ t (by simp; omega), World.frozen?_alloc_old _ _ t (by simp; omega), World.frozen?_alloc_old _ _ t (Nat.ne_of_lt htl)]; exact hf0)
  go_enter Tryd.func37, Tryd.ntmps37
  go_wp2
  refine wp_loop_rounds 1 ?_
  rw [rounds_succ]
  go_wp2
  go_ret
  exact ⟨rfl, rfl⟩

/-- errors.As at nil. -/
theorem as_nil (H : List AObj) (a : AV) : ACalls env 37 [.d .nili, a] H fun r H' => r = .d (.bool false) ∧ H' = H := by
  refine ⟨enters_of Tryd.func37 rfl (by kernel_rfl), fun w F Γ vs hS hV => ?_⟩
  obtain ⟨v, rfl⟩ := RVL_nil hV
  refine (as_nilW v w).mono ?_
  rintro e w' ⟨rfl, rfl⟩
  exact ⟨_, _, H, F, Γ, rfl, hS, .d (.bool _), ⟨rfl, rfl⟩, Ext.refl (by rw [hS.len]; exact Nat.le_refl _)⟩
/-- errors.As at a code. -/
theorem as_hit (c : Int) (c0 : AV) : ACalls env 37 [.d (.iface 73 (.int .i64 c)), .iface 77 (.pvar 0 0)] [.var [c0]] fun r H' => r = .d (.bool true) ∧ H' = [.var [.d (.int .i64 c)]] := by
  refine ⟨enters_of Tryd.func37 rfl (by kernel_rfl), fun w F Γ vs hS hV => ?_⟩
  obtain ⟨s, b, hs, hb, rfl⟩ := RVL_as hV
  exact out_as hS hs hb (fun old ht hf => as_hitW c ⟨b, 0, none⟩ old w (glob_cell (hS.glob 0 1 _ gl0)) ht hf)
end Go.Proofs.YtjljjakfebfpfaaDoor
