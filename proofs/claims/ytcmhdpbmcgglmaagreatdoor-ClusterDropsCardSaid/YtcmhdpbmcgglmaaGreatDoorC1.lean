/-
  errors.As at an error of the type api.Fault, at the targets of the types *api.Code and *api.Fault: Go's own text, walked; what comes of it, by value.
  Faults read again; what the verifier's chapter on clusters asks of errors and pods.
  A node that is dropped: what becomes of a cluster and of the reference's.
  The walks of a node that is dropped.
  The reference's pods of a node; its node that is dropped.
  What the verifier's chapter on clusters plays: an operation on both clusters.
-/
import Derived.Test.YtcmhdpbmcgglmaaGreatDoorB2
import Derived.Test.YtcmhdpbmcgglmaaGreatDoorB3
import Derived.Test.YtcmhdpbmcgglmaaGreatDoorG1
section
set_option autoImplicit false
set_option linter.unusedVariables false
set_option linter.unusedSimpArgs false
namespace Go.Proofs.YtcmhdpbmcgglmaaGreatDoor
open Go.RowKit Go.Extern.Stop Go.Stop Go.Extern Go.Abs
theorem as_typeOfF (v : Value) (w : World) : (ReflectliteType.typeOf #[.iface 156 v]).run Tryz.prog w = .ok (.iface 216 (.agg #[.pointer (some ⟨1, 156, none⟩)])) w := by kernel_rfl
theorem as_assignableFC (w : World) : (ReflectliteType.relation "AssignableTo" ReflectliteType.assignableTo #[.agg #[.pointer (some ⟨1, 156, none⟩)], .iface 216 (.agg #[.pointer (some ⟨1, 108, none⟩)])]).run Tryz.prog w = .ok (.bool false) w := by kernel_rfl
theorem as_methodUnwrap (h g : Value) (w : World) : (Go.method 391 156 (.agg #[h, g]) "Unwrap").run Tryz.prog w = .ok (213, .agg #[h, g]) w := by kernel_rfl
theorem as_noAs (v : Value) (xT : TypeId) (w : World) : (Instr.typeAssert (.iface 156 v) xT 227 true).run Tryz.prog w = .ok (.tuple #[.nilIface, .bool false]) w := run_typeAssert_lacksB Tryz.underlying227 (by kernel_rfl) (by kernel_rfl) v xT w
theorem as_hasUnwrap (v : Value) (xT : TypeId) (w : World) : (Instr.typeAssert (.iface 156 v) xT 221 true).run Tryz.prog w = .ok (.tuple #[.iface 156 v, .bool true]) w := run_typeAssert_hasB Tryz.underlying221 (by kernel_rfl) v xT w
set_option maxHeartbeats 4000000 in
theorem as_faultCodeW (c at_ : Int) (t : Addr) (old : Value) (w : World) (hg : w.cell? ⟨0, 0, none⟩ = some (.iface 216 (.agg #[.pointer (some ⟨1, 46, none⟩)]))) (ht0 : w.cell? t = some old) (hf0 : w.frozen? t = false) :
    Calls Tryz.prog 110 #[.iface 156 (.agg #[.int .i64 c, .int .i64 at_]), .iface 162 (.pointer (some t))] w fun ev w' => ev = .returned (.bool true) ∧ w' = (((((w.alloc (.cells #[.pointer (some t)] 162)).alloc (.cells #[.pointer (some ⟨1, 162, none⟩), .pointer (some ⟨w.heap.size, 0, none⟩), .int .u64 150] 202)).alloc (.cells #[.pointer (some ⟨1, 162, none⟩), .pointer (some ⟨w.heap.size, 0, none⟩), .int .u64 150] 202)).alloc (.cells #[.int .i64 c, .int .i64 at_] 156)).alloc (.cells #[.int .i64 c] 108)).setCell t (.int .i64 c) := by
  have h6 := @run_callFunc_extern Tryz.prog 141 _ (fun args => ReflectliteValue.unpack (args.getD 0 (.tuple #[]))) Tryz.func141 (by kernel_rfl) (by kernel_rfl) (by kernel_rfl) (by kernel_rfl)
  have h7 := @run_callFunc_extern Tryz.prog 142 _ (ReflectliteValue.methodAny (ReflectliteValue.valueError "reflectlite.Value.Type" 0) (fun t _ _ _ => ReflectliteType.toType t)) Tryz.func142 (by kernel_rfl) (by kernel_rfl) (by kernel_rfl) (by kernel_rfl)
  have h8 := @run_callFunc_extern Tryz.prog 143 _ (ReflectliteValue.method (ReflectliteValue.valueError "reflectlite.Value.IsNil" 0) ReflectliteValue.isNil) Tryz.func143 (by kernel_rfl) (by kernel_rfl) (by kernel_rfl) (by kernel_rfl)
  have h27 := @run_callFunc_extern Tryz.prog 203 _ (ReflectliteType.abiMethod fun t => do pure (.int .u8 (← Rtype.kind t))) Tryz.func203 (by kernel_rfl) (by kernel_rfl) (by kernel_rfl) (by kernel_rfl)
  have h37 := @run_callFunc_extern Tryz.prog 220 _ (ReflectliteType.method ReflectliteType.elem) Tryz.func220 (by kernel_rfl) (by kernel_rfl) (by kernel_rfl) (by kernel_rfl)
  have h38 := @run_callFunc_extern Tryz.prog 221 _ (ReflectliteType.relation "Implements" ReflectliteType.implements_) Tryz.func221 (by kernel_rfl) (by kernel_rfl) (by kernel_rfl) (by kernel_rfl)
  have h10 := @run_callFunc_extern Tryz.prog 137 _ ReflectliteType.typeOf Tryz.func137 (by kernel_rfl) (by kernel_rfl) (by kernel_rfl) (by kernel_rfl)
  have h35 := @run_callFunc_extern Tryz.prog 218 _ (ReflectliteType.relation "AssignableTo" ReflectliteType.assignableTo) Tryz.func218 (by kernel_rfl) (by kernel_rfl) (by kernel_rfl) (by kernel_rfl)
  have h11 := @run_callFunc_extern Tryz.prog 155 _ (ReflectliteValue.method (ReflectliteValue.valueError "reflectlite.Value.Elem" 0) ReflectliteValue.elem) Tryz.func155 (by kernel_rfl) (by kernel_rfl) (by kernel_rfl) (by kernel_rfl)
  have h12 := @run_callFunc_extern Tryz.prog 156 _ ReflectliteValue.set Tryz.func156 (by kernel_rfl) (by kernel_rfl) (by kernel_rfl) (by kernel_rfl)
  have tO := as_typeOfC
  have tF := as_typeOfF
  have mA := as_methodAssignableTo
  have a25 := as_assignableC
  have aF := as_assignableFC
  have v25 := as_valueOfC
  have f6 := as_valueOfP
  have f7 := as_typeP
  have mK := as_methodKind
  have mE := as_methodElem
  have mI := as_methodImplements
  have mU := as_methodUnwrap
  have nA := as_noAs
  have hU := as_hasUnwrap
  have k27 := as_kindP
  have k25 := as_kindC
  have e27 := as_elemP
  have i25 := as_implementsC
  have n8 := as_isNilP ⟨w.heap.size, 0, none⟩ t ((w.alloc (.cells #[.pointer (some t)] 162)).alloc (.cells #[.pointer (some ⟨1, 162, none⟩), .pointer (some ⟨w.heap.size, 0, none⟩), .int .u64 150] 202)) (by simp)
  have hlt : 0 < w.heap.size := by
    rcases Nat.eq_zero_or_pos w.heap.size with h0 | h
    · simp [World.cell?, h0] at hg
    · exact h
  have hg2 : ((w.alloc (.cells #[.pointer (some t)] 162)).alloc (.cells #[.pointer (some ⟨1, 162, none⟩), .pointer (some ⟨w.heap.size, 0, none⟩), .int .u64 150] 202)).cell? ⟨0, 0, none⟩ = some (.iface 216 (.agg #[.pointer (some ⟨1, 46, none⟩)])) := by
    rw [World.cell?_alloc_lt _ _ ⟨0, 0, none⟩ (by simp), World.cell?_alloc_lt _ _ ⟨0, 0, none⟩ hlt]; exact hg
  have htl : t.block < w.heap.size := by
    rcases Nat.lt_or_ge t.block w.heap.size with h | h
    · exact h
    · simp [World.cell?, Array.getElem?_eq_none h] at ht0
  have el := as_elemVP ⟨w.heap.size, 0, none⟩ t ((((w.alloc (.cells #[.pointer (some t)] 162)).alloc (.cells #[.pointer (some ⟨1, 162, none⟩), .pointer (some ⟨w.heap.size, 0, none⟩), .int .u64 150] 202)).alloc (.cells #[.pointer (some ⟨1, 162, none⟩), .pointer (some ⟨w.heap.size, 0, none⟩), .int .u64 150] 202)).alloc (.cells #[.int .i64 c, .int .i64 at_] 156)) (by rw [World.cell?_alloc_lt _ _ ⟨w.heap.size, 0, none⟩ (by simp; omega), World.cell?_alloc_lt _ _ ⟨w.heap.size, 0, none⟩ (by simp; omega)]; simp)
  have st := as_setC t ⟨w.heap.size + 1 + 1 + 1 + 1, 0, none⟩ c old (((((w.alloc (.cells #[.pointer (some t)] 162)).alloc (.cells #[.pointer (some ⟨1, 162, none⟩), .pointer (some ⟨w.heap.size, 0, none⟩), .int .u64 150] 202)).alloc (.cells #[.pointer (some ⟨1, 162, none⟩), .pointer (some ⟨w.heap.size, 0, none⟩), .int .u64 150] 202)).alloc (.cells #[.int .i64 c, .int .i64 at_] 156)).alloc (.cells #[.int .i64 c] 108))
    (by rw [World.cell?_alloc_at _ _ _ _ (by simp)]; rfl)
    (by rw [World.cell?_alloc_lt _ _ t (by simp; omega), World.cell?_alloc_lt _ _ t (by simp; omega), World.cell?_alloc_lt _ _ t (by simp; omega), World.cell?_alloc_lt _ _ t (by simp; omega), World.cell?_alloc_lt _ _ t htl]; exact ht0)
    (by rw [World.frozen?_alloc_old _ _ t (by simp; omega), World.frozen?_alloc_old _ _ t (by simp; omega), World.frozen?_alloc_old _ _ t (by simp; omega), World.frozen?_alloc_old _ _ t (by simp; omega), World.frozen?_alloc_old _ _ t (Nat.ne_of_lt htl)]; exact hf0)
  go_enter Tryz.func110, Tryz.ntmps110
  go_wp2
  refine wp_loop_rounds 2 ?_
  rw [rounds_succ]
  go_wp2
  rw [rounds_succ]
  go_wp2
  go_ret
  exact ⟨rfl, rfl⟩
theorem as_valueOfPF (t : Addr) (w : World) : (ReflectliteValue.unpack (.iface 163 (.pointer (some t)))).run Tryz.prog w
    = .ok (.agg #[.pointer (some ⟨1, 163, none⟩), .pointer (some ⟨w.heap.size, 0, none⟩), .int .u64 150]) (w.alloc (.cells #[.pointer (some t)] 163)) := by kernel_rfl
theorem as_typePF (a : Addr) (w : World) : (ReflectliteValue.methodAny (ReflectliteValue.valueError "reflectlite.Value.Type" 0) (fun t _ _ _ => ReflectliteType.toType t) #[.agg #[.pointer (some ⟨1, 163, none⟩), .pointer (some a), .int .u64 150]]).run Tryz.prog w
    = .ok (.iface 216 (.agg #[.pointer (some ⟨1, 163, none⟩)])) w := by kernel_rfl
theorem as_kindPF (w : World) : ((ReflectliteType.abiMethod fun t => (fun a : Nat => Value.int IntKind.u8 (a : Int)) <$> Rtype.kind t) #[.pointer (some ⟨1, 163, none⟩)]).run Tryz.prog w = .ok (.int .u8 22) w := by kernel_rfl
theorem as_kindF (w : World) : ((ReflectliteType.abiMethod fun t => (fun a : Nat => Value.int IntKind.u8 (a : Int)) <$> Rtype.kind t) #[.pointer (some ⟨1, 156, none⟩)]).run Tryz.prog w = .ok (.int .u8 25) w := by kernel_rfl
theorem as_partsPF (a : Addr) (w : World) : (ReflectliteValue.parts (.agg #[.pointer (some ⟨1, 163, none⟩), .pointer (some a), .int .u64 150])).run Tryz.prog w = .ok (some (163, a, 150)) w := by kernel_rfl
theorem as_isNilPF (a p : Addr) (W : World) (ha : W.cell? a = some (.pointer (some p))) :
    (ReflectliteValue.method (ReflectliteValue.valueError "reflectlite.Value.IsNil" 0) ReflectliteValue.isNil #[.agg #[.pointer (some ⟨1, 163, none⟩), .pointer (some a), .int .u64 150]]).run Tryz.prog W = .ok (.bool false) W := by
  rw [as_rlm]
  simp only [Sem.run_bind, as_partsPF, Result.andThen]
  simp [ReflectliteValue.isNil, loadVar, isAgg, underlying, Tryz.underlying163, ha, Result.andThen]
theorem as_elemPF (w : World) : (ReflectliteType.method ReflectliteType.elem #[.agg #[.pointer (some ⟨1, 163, none⟩)]]).run Tryz.prog w = .ok (.iface 216 (.agg #[.pointer (some ⟨1, 156, none⟩)])) w := by kernel_rfl
theorem as_implementsF (w : World) : (ReflectliteType.relation "Implements" ReflectliteType.implements_ #[.agg #[.pointer (some ⟨1, 156, none⟩)], .iface 216 (.agg #[.pointer (some ⟨1, 46, none⟩)])]).run Tryz.prog w = .ok (.bool true) w := by kernel_rfl
theorem as_assignableF (w : World) : (ReflectliteType.relation "AssignableTo" ReflectliteType.assignableTo #[.agg #[.pointer (some ⟨1, 156, none⟩)], .iface 216 (.agg #[.pointer (some ⟨1, 156, none⟩)])]).run Tryz.prog w = .ok (.bool true) w := by kernel_rfl
theorem as_valueOfF (c d : Int) (w : World) : (ReflectliteValue.unpack (.iface 156 (.agg #[.int .i64 c, .int .i64 d]))).run Tryz.prog w
    = .ok (.agg #[.pointer (some ⟨1, 156, none⟩), .pointer (some ⟨w.heap.size, 0, none⟩), .int .u64 153]) (w.alloc (.cells #[.int .i64 c, .int .i64 d] 156)) := by kernel_rfl
theorem as_elemOfPF (w : World) : (Rtype.elem? 163).run Tryz.prog w = .ok (some 156) w := by kernel_rfl
theorem as_mkF (p : Addr) (w : World) : (ReflectliteValue.mk 156 p ReflectliteValue.flagAddr).run Tryz.prog w = .ok (.agg #[.pointer (some ⟨1, 156, none⟩), .pointer (some p), .int .u64 409]) w := by kernel_rfl
theorem as_elemVPF (a p : Addr) (W : World) (ha : W.cell? a = some (.pointer (some p))) :
    (ReflectliteValue.method (ReflectliteValue.valueError "reflectlite.Value.Elem" 0) ReflectliteValue.elem #[.agg #[.pointer (some ⟨1, 163, none⟩), .pointer (some a), .int .u64 150]]).run Tryz.prog W
      = .ok (.agg #[.pointer (some ⟨1, 156, none⟩), .pointer (some p), .int .u64 409]) W := by
  rw [as_rlm]
  simp only [Sem.run_bind, as_partsPF, Result.andThen]
  simp [ReflectliteValue.elem, loadVar, isAgg, underlying, Tryz.underlying163, ha, Result.andThen, as_elemOfPF, as_mkF]
theorem as_partsFa (a : Addr) (w : World) : (ReflectliteValue.parts (.agg #[.pointer (some ⟨1, 156, none⟩), .pointer (some a), .int .u64 409])).run Tryz.prog w = .ok (some (156, a, 409)) w := by kernel_rfl
theorem as_partsF (a : Addr) (w : World) : (ReflectliteValue.parts (.agg #[.pointer (some ⟨1, 156, none⟩), .pointer (some a), .int .u64 153])).run Tryz.prog w = .ok (some (156, a, 153)) w := by kernel_rfl
theorem as_directF (w : World) : (Rtype.directlyAssignable 156 156).run Tryz.prog w = .ok true w := by kernel_rfl
theorem as_setF (ta b : Addr) (c d : Int) (old old2 : Value) (W : World) (hb : W.cell? b = some (.int .i64 c)) (hb2 : W.cell? (b.add 1) = some (.int .i64 d)) (ht : W.cell? ta = some old) (hf : W.frozen? ta = false) (ht2 : W.cell? (ta.add 1) = some old2) (hf2 : W.frozen? (ta.add 1) = false) :
    (ReflectliteValue.set #[.agg #[.pointer (some ⟨1, 156, none⟩), .pointer (some ta), .int .u64 409], .agg #[.pointer (some ⟨1, 156, none⟩), .pointer (some b), .int .u64 153]]).run Tryz.prog W
      = .ok (.tuple #[]) ((W.setCell ta (.int .i64 c)).setCell (ta.add 1) (.int .i64 d)) := by
  have hl : (loadCells b 2).run Tryz.prog W = .ok #[.int .i64 c, .int .i64 d] W := by
    have := run_loadCells_list (P := Tryz.prog) W b [.int .i64 c, .int .i64 d] (fun j v hj => by
      match j with
      | 0 => simp at hj; subst hj; simpa [Addr.add] using hb
      | 1 => simp at hj; subst hj; exact hb2
      | j + 2 => simp at hj)
    exact this
  have hne : ta ≠ ta.add 1 := by
    intro e
    have := congrArg Addr.off e
    simp [Addr.add] at this
  rw [as_rls]
  simp only [Sem.run_bind, as_partsFa, as_partsF, Result.andThen]
  simp [ReflectliteValue.flagAddr, loadVar, isAgg, underlying, Tryz.underlying156, hl, Result.andThen, as_directF, storeVar, Value.cells, storeCells]
  rw [run_store Tryz.prog W (ta.add 0) _ _ (by rfl)]
  have h0 : ta.add 0 = ta := by simp [Addr.add]
  simp only [h0, stored, ht, hf]
  simp
  rw [run_store Tryz.prog _ (ta.add 1) _ _ (by rfl)]
  simp [stored, World.cell?_setCell_other (h := hne), ht2, hf2]
set_option maxHeartbeats 4000000 in
theorem as_faultW (c at_ : Int) (t : Addr) (old old2 : Value) (w : World) (hg : w.cell? ⟨0, 0, none⟩ = some (.iface 216 (.agg #[.pointer (some ⟨1, 46, none⟩)]))) (ht0 : w.cell? t = some old) (hf0 : w.frozen? t = false) (ht1 : w.cell? (t.add 1) = some old2) (hf1 : w.frozen? (t.add 1) = false) :
    Calls Tryz.prog 110 #[.iface 156 (.agg #[.int .i64 c, .int .i64 at_]), .iface 163 (.pointer (some t))] w fun ev w' => ev = .returned (.bool true) ∧ w' = (((((w.alloc (.cells #[.pointer (some t)] 163)).alloc (.cells #[.pointer (some ⟨1, 163, none⟩), .pointer (some ⟨w.heap.size, 0, none⟩), .int .u64 150] 202)).alloc (.cells #[.pointer (some ⟨1, 163, none⟩), .pointer (some ⟨w.heap.size, 0, none⟩), .int .u64 150] 202)).alloc (.cells #[.int .i64 c, .int .i64 at_] 156)).setCell t (.int .i64 c)).setCell (t.add 1) (.int .i64 at_) := by
  have h6 := @run_callFunc_extern Tryz.prog 141 _ (fun args => ReflectliteValue.unpack (args.getD 0 (.tuple #[]))) Tryz.func141 (by kernel_rfl) (by kernel_rfl) (by kernel_rfl) (by kernel_rfl)
  have h7 := @run_callFunc_extern Tryz.prog 142 _ (ReflectliteValue.methodAny (ReflectliteValue.valueError "reflectlite.Value.Type" 0) (fun t _ _ _ => ReflectliteType.toType t)) Tryz.func142 (by kernel_rfl) (by kernel_rfl) (by kernel_rfl) (by kernel_rfl)
  have h8 := @run_callFunc_extern Tryz.prog 143 _ (ReflectliteValue.method (ReflectliteValue.valueError "reflectlite.Value.IsNil" 0) ReflectliteValue.isNil) Tryz.func143 (by kernel_rfl) (by kernel_rfl) (by kernel_rfl) (by kernel_rfl)
  have h27 := @run_callFunc_extern Tryz.prog 203 _ (ReflectliteType.abiMethod fun t => do pure (.int .u8 (← Rtype.kind t))) Tryz.func203 (by kernel_rfl) (by kernel_rfl) (by kernel_rfl) (by kernel_rfl)
  have h37 := @run_callFunc_extern Tryz.prog 220 _ (ReflectliteType.method ReflectliteType.elem) Tryz.func220 (by kernel_rfl) (by kernel_rfl) (by kernel_rfl) (by kernel_rfl)
  have h38 := @run_callFunc_extern Tryz.prog 221 _ (ReflectliteType.relation "Implements" ReflectliteType.implements_) Tryz.func221 (by kernel_rfl) (by kernel_rfl) (by kernel_rfl) (by kernel_rfl)
  have h10 := @run_callFunc_extern Tryz.prog 137 _ ReflectliteType.typeOf Tryz.func137 (by kernel_rfl) (by kernel_rfl) (by kernel_rfl) (by kernel_rfl)
  have h35 := @run_callFunc_extern Tryz.prog 218 _ (ReflectliteType.relation "AssignableTo" ReflectliteType.assignableTo) Tryz.func218 (by kernel_rfl) (by kernel_rfl) (by kernel_rfl) (by kernel_rfl)
  have h11 := @run_callFunc_extern Tryz.prog 155 _ (ReflectliteValue.method (ReflectliteValue.valueError "reflectlite.Value.Elem" 0) ReflectliteValue.elem) Tryz.func155 (by kernel_rfl) (by kernel_rfl) (by kernel_rfl) (by kernel_rfl)
  have h12 := @run_callFunc_extern Tryz.prog 156 _ ReflectliteValue.set Tryz.func156 (by kernel_rfl) (by kernel_rfl) (by kernel_rfl) (by kernel_rfl)
  have tF := as_typeOfF
  have mA := as_methodAssignableTo
  have aF := as_assignableF
  have vF := as_valueOfF
  have f6 := as_valueOfPF
  have f7 := as_typePF
  have mK := as_methodKind
  have mE := as_methodElem
  have mI := as_methodImplements
  have k27 := as_kindPF
  have k25 := as_kindF
  have e27 := as_elemPF
  have i25 := as_implementsF
  have n8 := as_isNilPF ⟨w.heap.size, 0, none⟩ t ((w.alloc (.cells #[.pointer (some t)] 163)).alloc (.cells #[.pointer (some ⟨1, 163, none⟩), .pointer (some ⟨w.heap.size, 0, none⟩), .int .u64 150] 202)) (by simp)
  have hlt : 0 < w.heap.size := by
    rcases Nat.eq_zero_or_pos w.heap.size with h0 | h
    · simp [World.cell?, h0] at hg
    · exact h
  have hg2 : ((w.alloc (.cells #[.pointer (some t)] 163)).alloc (.cells #[.pointer (some ⟨1, 163, none⟩), .pointer (some ⟨w.heap.size, 0, none⟩), .int .u64 150] 202)).cell? ⟨0, 0, none⟩ = some (.iface 216 (.agg #[.pointer (some ⟨1, 46, none⟩)])) := by
    rw [World.cell?_alloc_lt _ _ ⟨0, 0, none⟩ (by simp), World.cell?_alloc_lt _ _ ⟨0, 0, none⟩ hlt]; exact hg
  have htl : t.block < w.heap.size := by
    rcases Nat.lt_or_ge t.block w.heap.size with h | h
    · exact h
    · simp [World.cell?, Array.getElem?_eq_none h] at ht0
  have htl1 : (t.add 1).block < w.heap.size := htl
  have el := as_elemVPF ⟨w.heap.size, 0, none⟩ t (((w.alloc (.cells #[.pointer (some t)] 163)).alloc (.cells #[.pointer (some ⟨1, 163, none⟩), .pointer (some ⟨w.heap.size, 0, none⟩), .int .u64 150] 202)).alloc (.cells #[.pointer (some ⟨1, 163, none⟩), .pointer (some ⟨w.heap.size, 0, none⟩), .int .u64 150] 202)) (by rw [World.cell?_alloc_lt _ _ ⟨w.heap.size, 0, none⟩ (by simp; omega)]; simp)
  have st := as_setF t ⟨w.heap.size + 1 + 1 + 1, 0, none⟩ c at_ old old2 ((((w.alloc (.cells #[.pointer (some t)] 163)).alloc (.cells #[.pointer (some ⟨1, 163, none⟩), .pointer (some ⟨w.heap.size, 0, none⟩), .int .u64 150] 202)).alloc (.cells #[.pointer (some ⟨1, 163, none⟩), .pointer (some ⟨w.heap.size, 0, none⟩), .int .u64 150] 202)).alloc (.cells #[.int .i64 c, .int .i64 at_] 156))
    (by rw [World.cell?_alloc_at _ _ _ _ (by simp)]; rfl)
    (by rw [show Addr.add ⟨w.heap.size + 1 + 1 + 1, 0, none⟩ 1 = ⟨w.heap.size + 1 + 1 + 1, 1, none⟩ from rfl, World.cell?_alloc_at _ _ _ _ (by simp)]; rfl)
    (by rw [World.cell?_alloc_lt _ _ t (by simp; omega), World.cell?_alloc_lt _ _ t (by simp; omega), World.cell?_alloc_lt _ _ t (by simp; omega), World.cell?_alloc_lt _ _ t htl]; exact ht0)
    (by rw [World.frozen?_alloc_old _ _ t (by simp; omega), World.frozen?_alloc_old _ _ t (by simp; omega), World.frozen?_alloc_old _ _ t (by simp; omega), World.frozen?_alloc_old _ _ t (Nat.ne_of_lt htl)]; exact hf0)
    (by rw [World.cell?_alloc_lt _ _ (t.add 1) (by simp; omega), World.cell?_alloc_lt _ _ (t.add 1) (by simp; omega), World.cell?_alloc_lt _ _ (t.add 1) (by simp; omega), World.cell?_alloc_lt _ _ (t.add 1) htl1]; exact ht1)
    (by rw [World.frozen?_alloc_old _ _ (t.add 1) (by simp; omega), World.frozen?_alloc_old _ _ (t.add 1) (by simp; omega), World.frozen?_alloc_old _ _ (t.add 1) (by simp; omega), World.frozen?_alloc_old _ _ (t.add 1) (Nat.ne_of_lt htl1)]; exact hf1)
  go_enter Tryz.func110, Tryz.ntmps110
  go_wp2
  refine wp_loop_rounds 1 ?_
  rw [rounds_succ]
  go_wp2
  go_ret
  exact ⟨rfl, rfl⟩
theorem as_faultCode (c d : Int) (c0 : AV) : ACalls env 110 [.d (.iface 156 (.agg [.int .i64 c, .int .i64 d])), .iface 162 (.pvar 0 0)] [.var [c0]] fun r H' => r = .d (.bool true) ∧ H' = [.var [.d (.int .i64 c)]] := by
  refine ⟨Go.Abs.enters_of Tryz.func110 rfl (by kernel_rfl), fun w F Γ vs hS hV => ?_⟩
  obtain ⟨s, b, hs, hb, rfl⟩ := RVL_asF hV
  exact out_as1 hS hs hb (fun old ht hf => (as_faultCodeW c d ⟨b, 0, none⟩ old w (glob_cell (hS.glob 0 1 _ gl0)) ht hf).mono fun e w' h => ⟨h.1, _, (((((Later.refl w).alloc _).alloc _).alloc _).alloc _).alloc _, h.2⟩)
theorem as_fault (c d : Int) (c0 c1 : AV) : ACalls env 110 [.d (.iface 156 (.agg [.int .i64 c, .int .i64 d])), .iface 163 (.pvar 0 0)] [.var [c0, c1]] fun r H' => r = .d (.bool true) ∧ H' = [.var [.d (.int .i64 c), .d (.int .i64 d)]] := by
  refine ⟨Go.Abs.enters_of Tryz.func110 rfl (by kernel_rfl), fun w F Γ vs hS hV => ?_⟩
  obtain ⟨s, b, hs, hb, rfl⟩ := RVL_asF hV
  exact out_as2 hS hs hb (fun old old2 ht hf ht1 hf1 => (as_faultW c d ⟨b, 0, none⟩ old old2 w (glob_cell (hS.glob 0 1 _ gl0)) ht hf ht1 hf1).mono fun e w' h => ⟨h.1, _, ((((Later.refl w).alloc _).alloc _).alloc _).alloc _, h.2⟩)
end Go.Proofs.YtcmhdpbmcgglmaaGreatDoor
end
section
set_option autoImplicit false
set_option linter.unusedVariables false
set_option linter.unusedSimpArgs false
namespace Go.Proofs.YtcmhdpbmcgglmaaGreatDoor
open Go.Abs
theorem fcode_ok (c a : Int) : PCall env 69 [errF (some (c, a))] (.tup [.int .i64 c, .bool true]) := by
  unfold errF
  refine acalls_of envOk Tryz.func69 rfl (by kernel_rfl) (m := 10) rfl ?_
  simp only [push_cast, simprocAttr, pods_length, fP, pL]
  refine (as_faultCode c a _).thus (WK.now ?_)
  simp only [push_cast, simprocAttr, pods_length, fP, pL]
  refine WK.now ?_
  simp only [push_cast, simprocAttr, pods_length, fP, pL]
theorem fcode_nil : PCall env 69 [errF none] (.tup [.int .i64 0, .bool false]) := by
  unfold errF
  refine acalls_of envOk Tryz.func69 rfl (by kernel_rfl) (m := 10) rfl ?_
  simp only [push_cast, simprocAttr, pods_length, fP, pL]
  refine (as_nil _ _).thus (WK.now ?_)
  simp only [push_cast, simprocAttr, pods_length, fP, pL]
  refine WK.now ?_
  simp only [push_cast, simprocAttr, pods_length, fP, pL]
theorem fat_ok (c a : Int) : PCall env 70 [errF (some (c, a))] (.tup [.int .i64 a, .bool true]) := by
  unfold errF
  refine acalls_of envOk Tryz.func70 rfl (by kernel_rfl) (m := 11) rfl ?_
  simp only [push_cast, simprocAttr, pods_length, fP, pL]
  refine (as_fault c a _ _).thus (WK.now ?_)
  simp only [push_cast, simprocAttr, pods_length, fP, pL]
  refine WK.now ?_
  simp only [push_cast, simprocAttr, pods_length, fP, pL]
theorem fat_nil : PCall env 70 [errF none] (.tup [.int .i64 0, .bool false]) := by
  unfold errF
  refine acalls_of envOk Tryz.func70 rfl (by kernel_rfl) (m := 11) rfl ?_
  simp only [push_cast, simprocAttr, pods_length, fP, pL]
  refine (as_nil _ _).thus (WK.now ?_)
  simp only [push_cast, simprocAttr, pods_length, fP, pL]
  refine WK.now ?_
  simp only [push_cast, simprocAttr, pods_length, fP, pL]
def toldB (o : Option (Int × Int)) (code at_ : Int) : Bool := if code = 0 then o.isNone else match o with
  | none => false
  | some e => (e.1 == code) && (e.2 == at_)
theorem told_ok (o : Option (Int × Int)) (code at_ : Int) : PCall env 24 [errF o, .int .i64 code, .int .i64 at_] (.bool (toldB o code at_)) := by
  unfold toldB
  cases o with
  | none =>
    have h1 := fcode_nil
    have h2 := fat_nil
    unfold errF at h1 h2 ⊢
    refine acalls_of envOk Tryz.func24 rfl (by kernel_rfl) (m := 36) rfl ?_
    simp only [push_cast, simprocAttr, pods_length, fP, pL]
    refine h1.go (by first | exact ⟨.inl rfl, trivial⟩ | exact ⟨.inl rfl, .inl rfl, trivial⟩ | exact ⟨.inl rfl, .inl rfl, .inl rfl, trivial⟩ | simp [argsOk, argOk, sl, sll]) (WK.now ?_)
    simp only [push_cast, simprocAttr, pods_length, fP, pL]
    refine h2.go (by first | exact ⟨.inl rfl, trivial⟩ | exact ⟨.inl rfl, .inl rfl, trivial⟩ | exact ⟨.inl rfl, .inl rfl, .inl rfl, trivial⟩ | simp [argsOk, argOk, sl, sll]) (WK.now ?_)
    simp only [push_cast, simprocAttr, pods_length, fP, pL]
    refine Kbr.mk (fun b => ?_) (fun b => ?_)
    · have c1 : code = 0 := by simpa using b
      simp only [c1, push_cast, simprocAttr, pods_length, fP, pL]
      refine WK.now ?_
      simp only [push_cast, simprocAttr, pods_length, fP, pL]
      simp
    · have c1 : ¬ code = 0 := by simpa using b
      simp only [c1, push_cast, simprocAttr, pods_length, fP, pL]
      refine WK.now ?_
      simp only [push_cast, simprocAttr, pods_length, fP, pL]
  | some e =>
    have h1 := fcode_ok e.1 e.2
    have h2 := fat_ok e.1 e.2
    unfold errF at h1 h2 ⊢
    refine acalls_of envOk Tryz.func24 rfl (by kernel_rfl) (m := 36) rfl ?_
    simp only [push_cast, simprocAttr, pods_length, fP, pL]
    refine h1.go (by first | exact ⟨.inl rfl, trivial⟩ | exact ⟨.inl rfl, .inl rfl, trivial⟩ | exact ⟨.inl rfl, .inl rfl, .inl rfl, trivial⟩ | simp [argsOk, argOk, sl, sll]) (WK.now ?_)
    simp only [push_cast, simprocAttr, pods_length, fP, pL]
    refine h2.go (by first | exact ⟨.inl rfl, trivial⟩ | exact ⟨.inl rfl, .inl rfl, trivial⟩ | exact ⟨.inl rfl, .inl rfl, .inl rfl, trivial⟩ | simp [argsOk, argOk, sl, sll]) (WK.now ?_)
    simp only [push_cast, simprocAttr, pods_length, fP, pL]
    refine Kbr.mk (fun b => ?_) (fun b => ?_)
    · have c1 : code = 0 := by simpa using b
      simp only [c1, push_cast, simprocAttr, pods_length, fP, pL]
      refine WK.now ?_
      simp only [push_cast, simprocAttr, pods_length, fP, pL]
      simp
    · have c1 : ¬ code = 0 := by simpa using b
      cases h3 : e.1 == code
      · simp only [c1, h3, push_cast, simprocAttr, pods_length, fP, pL]
        refine WK.now ?_
        simp only [c1, h3, push_cast, simprocAttr, pods_length, fP, pL]
      · simp only [c1, h3, push_cast, simprocAttr, pods_length, fP, pL]
        refine WK.now ?_
        simp only [c1, h3, push_cast, simprocAttr, pods_length, fP, pL]
def rowOk (d : D) : Prop := d = .nils ∨ ∃ v : List Int, Sz v ∧ d = .slice 1 (ints v)
theorem rsame_any {a b : D} (ha : rowOk a) (hb : rowOk b) : ∃ r, ∀ H, ACalls env 22 [.d a, .d b] H fun v H' => v = .d (.bool r) ∧ H' = H := by
  rcases ha with rfl | ⟨x, hx, rfl⟩ <;> rcases hb with rfl | ⟨y, hy, rfl⟩
  · exact ⟨_, fun H => ((rsame_ok [] [] (by unfold Sz; simp) (by unfold Sz; simp)).anywhere H).argv (bs := [.d .nils, .d .nils]) (by simp [avsOk, avOk, argOk, ints, sl])⟩
  · exact ⟨_, fun H => ((rsame_ok [] y (by unfold Sz; simp) hy).anywhere H).argv (bs := [.d .nils, .d (.slice 1 (ints y))]) (by simp [avsOk, avOk, argOk, ints, sl])⟩
  · exact ⟨_, fun H => ((rsame_ok x [] hx (by unfold Sz; simp)).anywhere H).argv (bs := [.d (.slice 1 (ints x)), .d .nils]) (by simp [avsOk, avOk, argOk, ints, sl])⟩
  · exact ⟨_, fun H => ((rsame_ok x y hx hy).anywhere H)⟩
set_option maxRecDepth 8000 in
theorem same06_any {x y : Pd × D} (hx : rowOk x.2) (hy : rowOk y.2) : ∃ r, PCall env 28 [.agg (pL' x), .agg (pL' y)] (.bool r) := by
  obtain ⟨rr, hrr⟩ := rsame_any hx hy
  refine ⟨(x.1.id == y.1.id) && (x.1.pr == y.1.pr) && (x.1.pre == y.1.pre) && (x.1.gr == y.1.gr) && rr && (x.1.ar == y.1.ar) && (x.1.ph == y.1.ph) && (x.1.nd == y.1.nd) && (x.1.dl == y.1.dl), ?_⟩
  unfold pL'
  refine acalls_of envOk Tryz.func28 rfl (by kernel_rfl) (m := 64) rfl ?_
  cases h1 : x.1.id == y.1.id
  · simp only [h1, push_cast, simprocAttr, pods_length, fP, pL]
    refine WK.now ?_
    simp only [h1, push_cast, simprocAttr, pods_length, fP, pL]
  cases h2 : x.1.pr == y.1.pr
  · simp only [h1, h2, push_cast, simprocAttr, pods_length, fP, pL]
    refine WK.now ?_
    simp only [h1, h2, push_cast, simprocAttr, pods_length, fP, pL]
  cases h3 : x.1.pre == y.1.pre
  · simp only [h1, h2, h3, push_cast, simprocAttr, pods_length, fP, pL]
    refine WK.now ?_
    simp only [h1, h2, h3, push_cast, simprocAttr, pods_length, fP, pL]
  cases h4 : x.1.gr == y.1.gr
  · simp only [h1, h2, h3, h4, push_cast, simprocAttr, pods_length, fP, pL]
    refine WK.now ?_
    simp only [h1, h2, h3, h4, push_cast, simprocAttr, pods_length, fP, pL]
  simp only [h1, h2, h3, h4, push_cast, simprocAttr, pods_length, fP, pL]
  refine (hrr _).thus (WK.now ?_)
  cases rr
  · simp only [push_cast, simprocAttr, pods_length, fP, pL]
    refine WK.now ?_
    simp only [push_cast, simprocAttr, pods_length, fP, pL]
  cases h5 : x.1.ar == y.1.ar
  · simp only [h5, push_cast, simprocAttr, pods_length, fP, pL]
    refine WK.now ?_
    simp only [h5, push_cast, simprocAttr, pods_length, fP, pL]
  cases h6 : x.1.ph == y.1.ph
  · simp only [h5, h6, push_cast, simprocAttr, pods_length, fP, pL]
    refine WK.now ?_
    simp only [h5, h6, push_cast, simprocAttr, pods_length, fP, pL]
  cases h7 : x.1.nd == y.1.nd
  · simp only [h5, h6, h7, push_cast, simprocAttr, pods_length, fP, pL]
    refine WK.now ?_
    simp only [h5, h6, h7, push_cast, simprocAttr, pods_length, fP, pL]
  cases h8 : x.1.dl == y.1.dl
  · simp only [h5, h6, h7, h8, push_cast, simprocAttr, pods_length, fP, pL]
    refine WK.now ?_
    simp only [h5, h6, h7, h8, push_cast, simprocAttr, pods_length, fP, pL]
  simp only [h5, h6, h7, h8, push_cast, simprocAttr, pods_length, fP, pL]
  refine WK.now ?_
  simp only [h5, h6, h7, h8, push_cast, simprocAttr, pods_length, fP, pL]
theorem after_any (w : Rc) (id code : Int) (hl : Sz w.pods) (hs : ∀ q ∈ w.pods, Sz q.2) : ∃ z : Pd × D, rowOk z.2 ∧ PCall env 29 [fRc w, .int .i64 id, .int .i64 code] (.agg (pL' z)) := by
  have hf := find07_ok w.pods id hl
  by_cases hc : code = 0
  · subst hc
    cases hp : findP w.pods id with
    | none =>
      rw [idxP_none.1 hp] at hf
      refine ⟨(pod0, .nils), .inl rfl, ?_⟩
      unfold fRc pL' pod0
      refine acalls_of envOk Tryz.func29 rfl (by kernel_rfl) (m := 21) rfl ?_
      simp only [push_cast, simprocAttr, pods_length, fP, pL]
      refine hf.go (by first | exact ⟨.inl rfl, trivial⟩ | exact ⟨.inl rfl, .inl rfl, trivial⟩ | exact ⟨.inl rfl, .inl rfl, .inl rfl, trivial⟩ | simp [argsOk, argOk, sl, sll]) (WK.now ?_)
      simp only [push_cast, simprocAttr, pods_length, fP, pL]
      refine WK.now ?_
      simp only [push_cast, simprocAttr, pods_length, fP, pL]
    | some p =>
      obtain ⟨i, h1, h2, h3, _⟩ := idxP_some hp
      rw [h1] at hf
      refine ⟨(p.1, .slice 1 (ints p.2)), .inr ⟨p.2, hs p (findP_some hp).1, rfl⟩, ?_⟩
      have hn : decide ((i : Int) < 0) = false := decide_eq_false (by omega)
      unfold fRc pL'
      refine acalls_of envOk Tryz.func29 rfl (by kernel_rfl) (m := 21) rfl ?_
      simp only [push_cast, simprocAttr, pods_length, fP, pL]
      refine hf.go (by first | exact ⟨.inl rfl, trivial⟩ | exact ⟨.inl rfl, .inl rfl, trivial⟩ | exact ⟨.inl rfl, .inl rfl, .inl rfl, trivial⟩ | simp [argsOk, argOk, sl, sll]) (WK.now ?_)
      simp only [hn, h2, seg_pods, h3, push_cast, simprocAttr, pods_length, fP, pL]
      refine WK.now ?_
      simp only [push_cast, simprocAttr, pods_length, fP, pL]
  · refine ⟨(pod0, .nils), .inl rfl, ?_⟩
    have hb : (code != 0) = true := by simpa using hc
    unfold fRc pL' pod0
    refine acalls_of envOk Tryz.func29 rfl (by kernel_rfl) (m := 21) rfl ?_
    simp only [push_cast, simprocAttr, pods_length, fP, pL]
    refine hf.go (by first | exact ⟨.inl rfl, trivial⟩ | exact ⟨.inl rfl, .inl rfl, trivial⟩ | exact ⟨.inl rfl, .inl rfl, .inl rfl, trivial⟩ | simp [argsOk, argOk, sl, sll]) (WK.now ?_)
    simp only [hb, push_cast, simprocAttr, pods_length, fP, pL]
    refine WK.now ?_
    simp only [push_cast, simprocAttr, pods_length, fP, pL]
end Go.Proofs.YtcmhdpbmcgglmaaGreatDoor
end
section
set_option autoImplicit false
set_option linter.unusedVariables false
set_option linter.unusedSimpArgs false
namespace Go.Proofs.YtcmhdpbmcgglmaaGreatDoor
open Go.Abs
def evD (p : Pod) : Int := if p.1.ph = 2 then 3 else 5
def toD (p : Pod) : Int := if p.1.ph = 2 then 1 else 5
def dropP (p : Pod) : Pod := applyP p (evD p) (toD p) (-1) (-1)
theorem dropP_id (p : Pod) : (dropP p).1.id = p.1.id := rfl
theorem dropP_ph (p : Pod) : ¬ holdsP (dropP p).1.ph ∧ (dropP p).1.ph ≠ 2 := by
  show ¬ holdsP (toD p) ∧ toD p ≠ 2
  unfold toD holdsP
  split <;> omega
section
variable {c : Cl} {w : Rc}
theorem RC.free_ok (h : RC c w) {p : Pod} (hp : findP w.pods p.1.id = some p) (hh : holdsP p.1.ph) : chgE c.N c.d p.1.nd p.2 (freedS p.2) = none := by
  obtain ⟨hm, _⟩ := findP_some hp
  have hg := h.gp p hm
  obtain ⟨n, hnm, hna⟩ := List.mem_map.1 (h.at_ p hm hh)
  have hgn := h.gn n hnm
  have hfn : findN w.nodes p.1.nd = some n := by rw [← hna]; exact h.findN_mem hnm
  have hle : ∀ k, p.2.getD k 0 ≤ useAt k w.pods p.1.nd := fun k => by
    rw [← show share k p.1.nd p = p.2.getD k 0 from if_pos ⟨rfl, hh⟩]
    exact share_le h.ndp hm h.gp k _
  have l0 := hle 0
  have l1 := hle 1
  have f0 := h.fit n hnm 0 (by omega)
  have f1 := h.fit n hnm 1 (by omega)
  rw [hna] at f0 f1
  have g0 := hg.at 0
  have g1 := hg.at 1
  have c0 := hgn.at 0
  have c1 := hgn.at 1
  have hsub : freedS p.2 (n.1, n.2, useOf w.pods n.1) = some (List.zipWith (· - ·) (useOf w.pods p.1.nd) p.2) := by
    unfold freedS
    rw [hna]
    refine subS_yes (by rw [hg.1]; rfl) fun k hk => ?_
    have hk2 : k = 0 ∨ k = 1 := by have : k < 2 := hk; omega
    rcases hk2 with rfl | rfl
    · exact ⟨l0, by show useAt 0 w.pods p.1.nd - _ ≤ _; omega⟩
    · exact ⟨l1, by show useAt 1 w.pods p.1.nd - _ ≤ _; omega⟩
  unfold chgE
  rw [h.getN, hfn, h.d1]
  simp only [Option.map_some, if_neg hg.ok, hsub]
theorem RC.drop_step (h : RC c w) {p : Pod} (hp : findP w.pods p.1.id = some p) (hph : p.1.ph = 2 ∨ p.1.ph = 3 ∨ p.1.ph = 4) :
    changeD c p.1.id (evD p) (-1) = .tup [fP (dropP p), .nili] ∧ rcChange w p.1.id (evD p) (-1) = { w with pods := updP w.pods (dropP p) } := by
  have hn : nextP p.1.ph (evD p) = some (toD p) := by
    unfold nextP evD toD
    by_cases h2 : p.1.ph = 2
    · rw [if_pos h2, if_pos h2, if_neg (by omega), if_neg (by omega), if_pos rfl, if_pos h2]
    · rw [if_neg h2, if_neg h2, if_neg (by omega), if_neg (by omega), if_neg (by omega), if_neg (by omega), if_pos rfl, if_pos (by omega), if_neg h2]
  have he : ¬ (evD p = 1 ∨ evD p = 2) := by unfold evD; split <;> omega
  constructor
  · unfold changeD
    rw [h.get, hp]
    dsimp only
    rw [if_neg he, hn]
    dsimp only
    by_cases h5 : evD p = 5 ∧ holdsP p.1.ph
    · rw [if_pos h5, h.free_ok hp h5.2]
      rfl
    · rw [if_neg h5]
      rfl
  · unfold rcChange
    rw [hp]
    dsimp only
    rw [if_neg he, hn]
    rfl
theorem RC.dropN (h : RC c w) (n : Int) (hno : ∀ p ∈ w.pods, holdsP p.1.ph → p.1.nd ≠ n) : RC { c with N := ldel c.N n } { w with nodes := w.nodes.filter fun m => decide (m.1 ≠ n) } where
  d1 := h.d1
  d2 := h.d2
  ids := h.ids
  nd := h.nd
  perm := h.perm
  nodes := by
    have := Rl.del (k := n) h.nodes
    unfold rdel at this
    rw [List.filter_map] at this
    have e : w.nodes.filter ((fun p : Int × Ent => p.1 != n) ∘ fun m => (m.1, (m.1, m.2, useOf w.pods m.1))) = w.nodes.filter fun m => decide (m.1 ≠ n) := List.filter_congr fun m _ => by
      show (m.1 != n) = decide (m.1 ≠ n)
      by_cases hm : m.1 = n <;> simp [hm]
    rw [e] at this
    exact this
  gp := h.gp
  gn m hm := h.gn m (List.mem_filter.1 hm).1
  fit m hm := h.fit m (List.mem_filter.1 hm).1
  at_ p hp hh := by
    obtain ⟨m, hm, he⟩ := List.mem_map.1 (h.at_ p hp hh)
    exact List.mem_map.2 ⟨m, List.mem_filter.2 ⟨hm, decide_eq_true (by rw [he]; exact hno p hp hh)⟩, he⟩
  len := h.len
theorem findP_upd {P : List Pod} {q : Pod} {id : Int} (hne : id ≠ q.1.id) : findP (updP P q) id = findP P id := by
  unfold findP updP
  induction P with
  | nil => rfl
  | cons x P ih =>
    rw [List.map_cons, List.find?_cons, List.find?_cons]
    by_cases hx : x.1.id = q.1.id
    · rw [if_pos hx]
      have e1 : (q.1.id == id) = false := by simpa using fun e => hne e.symm
      have e2 : (x.1.id == id) = false := by rw [hx]; exact e1
      rw [e1, e2]
      exact ih
    · rw [if_neg hx]
      cases x.1.id == id
      · exact ih
      · rfl
def dropL (P : List Pod) (l : List Pod) : List Pod := l.foldl (fun P p => updP P (dropP p)) P
theorem dropL_snoc (P : List Pod) {l : List Pod} {i : Nat} (hi : i < l.length) : dropL P (l.take (i + 1)) = updP (dropL P (l.take i)) (dropP (l.getD i pz)) := by
  unfold dropL
  rw [List.take_add_one, List.foldl_append, List.getElem?_eq_getElem hi, List.getD_eq_getElem?_getD, List.getElem?_eq_getElem hi]
  rfl
theorem dropL_find {P : List Pod} : ∀ {l : List Pod} {id : Int}, (∀ p ∈ l, p.1.id ≠ id) → findP (dropL P l) id = findP P id := fun {l} {id} h => by
  unfold dropL
  induction l generalizing P with
  | nil => rfl
  | cons q l ih =>
    rw [List.foldl_cons, ih fun p hp => h p (by simp [hp])]
    exact findP_upd fun e => h q (by simp) (by rw [e]; rfl)
theorem dropL_map {P : List Pod} {l : List Pod} (hl : ∀ p ∈ l, findP P p.1.id = some p) (hn : (l.map pid).Nodup) : ∀ p ∈ dropL P l, (p ∈ P ∧ p.1.id ∉ l.map pid) ∨ ∃ q ∈ l, p = dropP q := by
  induction l generalizing P with
  | nil => intro p hp; exact .inl ⟨hp, by simp⟩
  | cons q l ih =>
    intro p hp
    rw [List.map_cons, List.nodup_cons] at hn
    have hq : ∀ x ∈ l, x.1.id ≠ q.1.id := fun x hx e => hn.1 (List.mem_map.2 ⟨x, hx, e⟩)
    have := ih (P := updP P (dropP q)) (fun x hx => by
      rw [findP_upd (by rw [dropP_id]; exact hq x hx)]
      exact hl x (by simp [hx])) hn.2 p hp
    rcases this with ⟨h1, h2⟩ | ⟨x, hx, e⟩
    · rcases upd_mem h1 with rfl | ⟨h3, h4⟩
      · exact .inr ⟨q, by simp, rfl⟩
      · exact .inl ⟨h3, by
          rw [List.map_cons, List.mem_cons]
          rintro (e | e)
          · exact h4 (by rw [dropP_id]; exact e)
          · exact h2 e⟩
    · exact .inr ⟨x, by simp [hx], e⟩
end
end Go.Proofs.YtcmhdpbmcgglmaaGreatDoor
end
section
set_option autoImplicit false
set_option linter.unusedVariables false
set_option linter.unusedSimpArgs false
namespace Go.Proofs.YtcmhdpbmcgglmaaGreatDoor
open Go.Abs
theorem ndrop_ok (d sz : Int) (L : List (Int × Ent)) (k : Int) {e : Ent} (he : lget L k = some e) :
    ACalls env 76 [.pvar 2 0, .d (.int .i64 k)] (Ns d sz L) fun r H' => r = .d (.tup [.agg [.int .i64 e.1, .slice 1 (ints e.2.1)], .nili]) ∧ H' = Ns d sz (ldel L k) := by
  unfold Ns
  refine ACalls.cutTo [0, 1, 2] rfl ?_ (fun l => by simp [PV, Tb, Ps, Psn, Ns, Cs, Csn, fP, pL, fE, errD, errF, pgetD, nodeD, sl, pods_length, nds_length, sbl, ren_none, ren_var, ren_arr, ren_map, ren_mapb, ren_iter, ren_loop, ren_defr, bel_none, bel_var, bel_arr, bel_map, bel_mapb, bel_iter, bel_loop, bel_defr, AV.renL, AV.ren, AV.belL, AV.bel, rn]) (fun m => by simp [tellL, AV.ren, AV.renL, AV.bel, AV.belL, rn])
  refine acalls_of envOk Tryz.func76 rfl (by kernel_rfl) (m := 19) rfl ?_
  simp only [push_cast, simprocAttr, pods_length, nds_length, fP, pL]
  refine (nnodes_ok d sz L).at [0, 1, 2] (by simp [PV, Tb, Ps, Psn, Ns, Cs, Csn, fP, pL, fE, errD, errF, pgetD, nodeD, sl, pods_length, nds_length, sbl, ren_none, ren_var, ren_arr, ren_map, ren_mapb, ren_iter, ren_loop, ren_defr, bel_none, bel_var, bel_arr, bel_map, bel_mapb, bel_iter, bel_loop, bel_defr, AV.renL, AV.ren, AV.belL, AV.bel, rn]) (by simp) (by simp [PV, Tb, Ps, Psn, Ns, Cs, Csn, fP, pL, fE, errD, errF, pgetD, nodeD, sl, pods_length, nds_length]) (by simp [PV, Tb, Ps, Psn, Ns, Cs, Csn, fP, pL, fE, errD, errF, pgetD, nodeD, sl, pods_length, nds_length, AV.ren, AV.renL, rn]) (by simp [AV.belL, AV.bel]) (WK.now ?_)
  simp only [Ns, push_cast, simprocAttr, pods_length, nds_length, fP, pL]
  refine (removeE_ok sz L k).at [0, 1] (by simp [PV, Tb, Ps, Psn, Ns, Cs, Csn, fP, pL, fE, errD, errF, pgetD, nodeD, sl, pods_length, nds_length, sbl, ren_none, ren_var, ren_arr, ren_map, ren_mapb, ren_iter, ren_loop, ren_defr, bel_none, bel_var, bel_arr, bel_map, bel_mapb, bel_iter, bel_loop, bel_defr, AV.renL, AV.ren, AV.belL, AV.bel, rn]) (by simp) (by simp [PV, Tb, Ps, Psn, Ns, Cs, Csn, fP, pL, fE, errD, errF, pgetD, nodeD, sl, pods_length, nds_length]) (by simp [PV, Tb, Ps, Psn, Ns, Cs, Csn, fP, pL, fE, errD, errF, pgetD, nodeD, sl, pods_length, nds_length, AV.ren, AV.renL, rn]) (by simp [AV.belL, AV.bel]) (WK.now ?_)
  simp only [Tb, gotE, he, fE, push_cast, simprocAttr, pods_length, nds_length, fP, pL]
  refine WK.now ?_
  simp only [push_cast, simprocAttr, pods_length, nds_length, fP, pL]
  first | done | exact ⟨_, rfl⟩ | exact ⟨rfl, _, rfl⟩
theorem on_ph {n : Int} {p : Pod} (h : onP n p = true) : p.1.ph = 2 ∨ p.1.ph = 3 ∨ p.1.ph = 4 := (onP_iff.1 h).2
theorem pods_snocD (l : List Pod) (q : Pod) : pods l ++ [[D.int .i64 q.1.id, .int .i64 q.1.pr, .bool q.1.pre, .int .i64 q.1.gr, .slice 1 (ints q.2), .int .i64 q.1.ar, .int .i64 q.1.ph, .int .i64 q.1.nd, .int .i64 q.1.dl]] = pods (l ++ [q]) := by simp [pods, pL]
theorem map_snocP {l : List Pod} {i : Nat} (f : Pod → Pod) (h : i < l.length) : (l.take (i + 1)).map f = (l.take i).map f ++ [f (l.getD i pz)] := by
  rw [List.take_add_one, List.map_append, List.getElem?_eq_getElem h, List.getD_eq_getElem?_getD, List.getElem?_eq_getElem h]
  rfl
def rcDrop (w : Rc) (n : Int) : Rc := { w with pods := dropL w.pods (w.pods.filter (onP n)), nodes := w.nodes.filter fun m => decide (m.1 ≠ n) }
set_option maxRecDepth 8000 in
set_option maxHeartbeats 1000000 in
theorem cdrop_raw {c : Cl} {w : Rc} (h : RC c w) (n : Int) {m : Int × List Int} (hm : findN w.nodes n = some m) :
    ACalls env 32 [.pvar 7 0, .d (.int .i64 n)] (Cs c) fun r H' => ∃ c', RC c' (rcDrop w n) ∧ r = .d (.tup [.slice 9 (pods ((w.pods.filter (onP n)).map dropP)), .nili]) ∧ ∃ l, H' = Cs c' ++ l := by
  obtain ⟨l, hl⟩ : ∃ l, l = w.pods.filter (onP n) := ⟨_, rfl⟩
  have hN := h.getN n
  rw [hm] at hN
  have hpo := con_ok c n ⟨h.ok.L, h.ok.i, h.ok.hin⟩
  unfold Cs
  refine acalls_of envOk Tryz.func32 rfl (by kernel_rfl) (m := 64) rfl ?_
  simp only [push_cast, simprocAttr, pods_length, nds_length, fP, pL]
  refine (cstate_ok c).at [0, 1, 2, 3, 4, 5, 6, 7] (by simp [PV, Tb, Ps, Psn, Ns, Cs, Csn, fP, pL, fE, errD, errF, pgetD, nodeD, sl, pods_length, nds_length, sbl, ren_none, ren_var, ren_arr, ren_map, ren_mapb, ren_iter, ren_loop, ren_defr, bel_none, bel_var, bel_arr, bel_map, bel_mapb, bel_iter, bel_loop, bel_defr, AV.renL, AV.ren, AV.belL, AV.bel, rn]) (by simp) (by simp [PV, Tb, Ps, Psn, Ns, Cs, Csn, fP, pL, fE, errD, errF, pgetD, nodeD, sl, pods_length, nds_length]) (by simp [PV, Tb, Ps, Psn, Ns, Cs, Csn, fP, pL, fE, errD, errF, pgetD, nodeD, sl, pods_length, nds_length, AV.ren, AV.renL, rn]) (by simp [AV.belL, AV.bel]) (WK.now ?_)
  simp only [Cs, push_cast, simprocAttr, pods_length, nds_length, fP, pL]
  refine (nget_ok c.d 1024 c.N n h.ok.N).at [4, 5, 6] (by simp [PV, Tb, Ps, Psn, Ns, Cs, Csn, fP, pL, fE, errD, errF, pgetD, nodeD, sl, pods_length, nds_length, sbl, ren_none, ren_var, ren_arr, ren_map, ren_mapb, ren_iter, ren_loop, ren_defr, bel_none, bel_var, bel_arr, bel_map, bel_mapb, bel_iter, bel_loop, bel_defr, AV.renL, AV.ren, AV.belL, AV.bel, rn]) (by simp) (by simp [PV, Tb, Ps, Psn, Ns, Cs, Csn, fP, pL, fE, errD, errF, pgetD, nodeD, sl, pods_length, nds_length]) (by simp [PV, Tb, Ps, Psn, Ns, Cs, Csn, fP, pL, fE, errD, errF, pgetD, nodeD, sl, pods_length, nds_length, AV.ren, AV.renL, rn]) (by simp [AV.belL, AV.bel]) (WK.now ?_)
  simp only [Ns, hN, Option.map_some, nodeD, push_cast, simprocAttr, pods_length, nds_length, fP, pL]
  refine (pOn_ok 65536 c.L c.ids n h.ok.L h.ok.i h.ok.hin).at [0, 1, 2, 3] (by simp [PV, Tb, Ps, Psn, Ns, Cs, Csn, fP, pL, fE, errD, errF, pgetD, nodeD, sl, pods_length, nds_length, sbl, ren_none, ren_var, ren_arr, ren_map, ren_mapb, ren_iter, ren_loop, ren_defr, bel_none, bel_var, bel_arr, bel_map, bel_mapb, bel_iter, bel_loop, bel_defr, AV.renL, AV.ren, AV.belL, AV.bel, rn]) (by simp) (by simp [PV, Tb, Ps, Psn, Ns, Cs, Csn, fP, pL, fE, errD, errF, pgetD, nodeD, sl, pods_length, nds_length]) (by simp [PV, Tb, Ps, Psn, Ns, Cs, Csn, fP, pL, fE, errD, errF, pgetD, nodeD, sl, pods_length, nds_length, AV.ren, AV.renL, rn]) (by simp [AV.belL, AV.bel]) (WK.frz 10 rfl (WK.now ?_))
  rw [h.listed, ← hl]
  simp only [Ps, push_cast, simprocAttr, pods_length, nds_length, fP, pL]
  have hmem : ∀ p ∈ l, findP w.pods p.1.id = some p ∧ onP n p = true := fun p hp => by
    rw [hl] at hp
    exact ⟨h.find (List.mem_filter.1 hp).1, (List.mem_filter.1 hp).2⟩
  have hnd : (l.map pid).Nodup := by
    have := h.ndp
    unfold NoDup kv at this
    rw [List.map_map] at this
    rw [hl]
    exact List.Nodup.sublist (List.filter_sublist.map _) this
  have hll : l.length ≤ 65536 := by
    have h1 := h.len
    have h2 : l.length ≤ w.pods.length := by rw [hl]; exact List.length_filter_le _ _
    omega
  refine ALoop.mk (fun k t H ds => ∃ (i : Nat) (ci : Cl), k = l.length - i ∧ i ≤ l.length ∧ RC ci { w with pods := dropL w.pods (l.take i) } ∧ t = [.pvar 7 0, .d (.int .i64 n), .dead, .dead, .dead, .dead, .pvar 8 0, .dead, .dead, .sfull 9, .dead, .dead, .dead, .dead, .dead, .dead, .dead, .dead, .dead, .dead, .dead, .dead, .dead, .dead, .dead, .dead, .dead, .dead, .dead, .dead, .dead, .dead, .d (.slice 9 (pods l)), .d (.int .i64 l.length), .d (.int .i64 (i : Nat)), .dead, .dead, .dead, .dead, .dead, .dead, .dead, .dead, .dead, .dead, .dead, .dead, .dead, .dead, .dead, .dead, .dead, .dead, .dead, .dead, .dead, .dead, .dead, .dead, .dead, .dead, .dead, .dead, .dead, .dead, .dead] ∧ H = Cs ci ++ [.var [.pvar 2 0, .pvar 6 0], .arr 35 9 (pods ((l.take i).map dropP))] ∧ ds = []) l.length
    (WK.nil 9 35 9 rfl (WK.fgt (t' := [.pvar 7 0, .d (.int .i64 n), .dead, .dead, .dead, .dead, .pvar 8 0, .dead, .dead, .sfull 11, .dead, .dead, .dead, .dead, .dead, .dead, .dead, .dead, .dead, .dead, .dead, .dead, .dead, .dead, .dead, .dead, .dead, .dead, .dead, .dead, .dead, .dead, .d (.slice 9 (pods l)), .d (.int .i64 l.length), .d (.int .i64 (0 : Nat)), .dead, .dead, .dead, .dead, .dead, .dead, .dead, .dead, .dead, .dead, .dead, .dead, .dead, .dead, .dead, .dead, .dead, .dead, .dead, .dead, .dead, .dead, .dead, .dead, .dead, .dead, .dead, .dead, .dead, .dead, .dead]) (by simp [fgt]) (WK.pick [0, 1, 2, 3, 4, 5, 6, 7, 8, 11] (t' := [.pvar 7 0, .d (.int .i64 n), .dead, .dead, .dead, .dead, .pvar 8 0, .dead, .dead, .sfull 9, .dead, .dead, .dead, .dead, .dead, .dead, .dead, .dead, .dead, .dead, .dead, .dead, .dead, .dead, .dead, .dead, .dead, .dead, .dead, .dead, .dead, .dead, .d (.slice 9 (pods l)), .d (.int .i64 l.length), .d (.int .i64 (0 : Nat)), .dead, .dead, .dead, .dead, .dead, .dead, .dead, .dead, .dead, .dead, .dead, .dead, .dead, .dead, .dead, .dead, .dead, .dead, .dead, .dead, .dead, .dead, .dead, .dead, .dead, .dead, .dead, .dead, .dead, .dead, .dead]) (H' := Cs c ++ [.var [.pvar 2 0, .pvar 6 0], .arr 35 9 (pods [])])
      (by simp [Cs, pods, sbl, ren_none, ren_var, ren_arr, ren_map, bel_none, bel_var, bel_arr, bel_map, AV.renL, AV.ren, AV.belL, AV.bel, rn]) (by simp) (by simp) (by simp [tellL, AV.ren, AV.renL, AV.bel, AV.belL, rn]) (by decide) (WK.now ⟨0, c, by omega, by omega, h, rfl, rfl, rfl⟩)))) ?_
  rintro k t H ds ⟨i, ci, rfl, hi, hci, rfl, rfl, rfl⟩
  simp only [Cs, push_cast, simprocAttr, pods_length, nds_length, fP, pL]
  refine Kbr.mk (fun b => ?_) (fun b => ?_)
  · have c2 : i < l.length := by simpa using b
    have si := succ64 c2 (show l.length ≤ 4611686018427387904 by omega)
    obtain ⟨p, hp⟩ : ∃ p, p = l.getD i pz := ⟨_, rfl⟩
    have hpl : p ∈ l := by rw [hp, List.getD_eq_getElem?_getD, List.getElem?_eq_getElem c2]; exact List.getElem_mem c2
    obtain ⟨hpf, hpo⟩ := hmem p hpl
    have hne : ∀ q ∈ l.take i, q.1.id ≠ p.1.id := fun q hq e => by
      have hn2 := hnd
      rw [← List.take_append_drop i l, List.map_append, List.nodup_append] at hn2
      have hpd : p ∈ l.drop i := by
        rw [List.drop_eq_getElem_cons c2, hp, List.getD_eq_getElem?_getD, List.getElem?_eq_getElem c2]
        exact List.mem_cons_self
      exact hn2.2.2 _ (List.mem_map.2 ⟨q, hq, rfl⟩) _ (List.mem_map.2 ⟨p, hpd, rfl⟩) e
    have hpi : findP (dropL w.pods (l.take i)) p.1.id = some p := by rw [dropL_find hne]; exact hpf
    obtain ⟨s1, s2⟩ := hci.drop_step (p := p) hpi (on_ph hpo)
    have hch := cchange_ok ci p.1.id (evD p) (-1) hci.ok
    have hnx := hci.change p.1.id (evD p) (-1)
    rw [s2] at hnx
    rw [s1] at hch
    obtain ⟨cn, hcn⟩ : ∃ cn, cn = (clChange ci p.1.id (evD p) (-1)).1 := ⟨_, rfl⟩
    rw [← hcn] at hch hnx
    have hds := dropL_snoc w.pods c2
    rw [← hp] at hds
    have hms := map_snocP dropP c2
    rw [← hp] at hms
    rw [show ({ w with pods := updP (dropL w.pods (l.take i)) (dropP p) } : Rc) = { w with pods := dropL w.pods (l.take (i + 1)) } by rw [hds]] at hnx
    by_cases h2 : p.1.ph = 2
    · have e2 : (p.1.ph == 2) = true := by simpa using h2
      have e3 : evD p = 3 := if_pos h2
      rw [e3] at hch
      simp only [c2, seg_pods, ← hp, e2, push_cast, simprocAttr, pods_length, nds_length, fP, pL]
      refine hch.at [0, 1, 2, 3, 4, 5, 6, 7] (by simp [PV, Tb, Ps, Psn, Ns, Cs, Csn, fP, pL, fE, errD, errF, pgetD, nodeD, sl, pods_length, nds_length, sbl, ren_none, ren_var, ren_arr, ren_map, ren_mapb, ren_iter, ren_loop, ren_defr, bel_none, bel_var, bel_arr, bel_map, bel_mapb, bel_iter, bel_loop, bel_defr, AV.renL, AV.ren, AV.belL, AV.bel, rn]) (by simp) (by simp [PV, Tb, Ps, Psn, Ns, Cs, Csn, fP, pL, fE, errD, errF, pgetD, nodeD, sl, pods_length, nds_length]) (by simp [PV, Tb, Ps, Psn, Ns, Cs, Csn, fP, pL, fE, errD, errF, pgetD, nodeD, sl, pods_length, nds_length, AV.ren, AV.renL, rn]) (by simp [AV.belL, AV.bel]) (WK.now ?_)
      simp only [Cs, push_cast, simprocAttr, pods_length, nds_length, fP, pL]
      refine ⟨room_of (by simp; omega) (by omega), ?_⟩
      exact ⟨l.length - (i + 1), by omega, WK.fgt (t' := [.pvar 7 0, .d (.int .i64 n), .dead, .dead, .dead, .dead, .pvar 8 0, .dead, .dead, .sfull 12, .dead, .dead, .dead, .dead, .dead, .dead, .dead, .dead, .dead, .dead, .dead, .dead, .dead, .dead, .dead, .dead, .dead, .dead, .dead, .dead, .dead, .dead, .d (.slice 9 (pods l)), .d (.int .i64 l.length), .d (.int .i64 (i + 1 : Nat)), .dead, .dead, .dead, .dead, .dead, .dead, .dead, .dead, .dead, .dead, .dead, .dead, .dead, .dead, .dead, .dead, .dead, .dead, .dead, .dead, .dead, .dead, .dead, .dead, .dead, .dead, .dead, .dead, .dead, .dead, .dead]) (by simp [fgt, si]) (WK.pick [0, 1, 2, 3, 4, 5, 6, 7, 8, 12] (t' := [.pvar 7 0, .d (.int .i64 n), .dead, .dead, .dead, .dead, .pvar 8 0, .dead, .dead, .sfull 9, .dead, .dead, .dead, .dead, .dead, .dead, .dead, .dead, .dead, .dead, .dead, .dead, .dead, .dead, .dead, .dead, .dead, .dead, .dead, .dead, .dead, .dead, .d (.slice 9 (pods l)), .d (.int .i64 l.length), .d (.int .i64 (i + 1 : Nat)), .dead, .dead, .dead, .dead, .dead, .dead, .dead, .dead, .dead, .dead, .dead, .dead, .dead, .dead, .dead, .dead, .dead, .dead, .dead, .dead, .dead, .dead, .dead, .dead, .dead, .dead, .dead, .dead, .dead, .dead, .dead]) (H' := Cs cn ++ [.var [.pvar 2 0, .pvar 6 0], .arr 35 9 (pods ((l.take (i + 1)).map dropP))])
        (by rw [hms, ← pods_snocD]; simp [Cs, sbl, ren_none, ren_var, ren_arr, ren_map, bel_none, bel_var, bel_arr, bel_map, AV.renL, AV.ren, AV.belL, AV.bel, rn]) (by simp) (by simp) (by simp [tellL, AV.ren, AV.renL, AV.bel, AV.belL, rn]) (by decide) (WK.now ⟨i + 1, cn, rfl, by omega, hnx, rfl, rfl, rfl⟩))⟩
    · have e2 : (p.1.ph == 2) = false := by simpa using h2
      have e3 : evD p = 5 := if_neg h2
      rw [e3] at hch
      simp only [c2, seg_pods, ← hp, e2, push_cast, simprocAttr, pods_length, nds_length, fP, pL]
      refine hch.at [0, 1, 2, 3, 4, 5, 6, 7] (by simp [PV, Tb, Ps, Psn, Ns, Cs, Csn, fP, pL, fE, errD, errF, pgetD, nodeD, sl, pods_length, nds_length, sbl, ren_none, ren_var, ren_arr, ren_map, ren_mapb, ren_iter, ren_loop, ren_defr, bel_none, bel_var, bel_arr, bel_map, bel_mapb, bel_iter, bel_loop, bel_defr, AV.renL, AV.ren, AV.belL, AV.bel, rn]) (by simp) (by simp [PV, Tb, Ps, Psn, Ns, Cs, Csn, fP, pL, fE, errD, errF, pgetD, nodeD, sl, pods_length, nds_length]) (by simp [PV, Tb, Ps, Psn, Ns, Cs, Csn, fP, pL, fE, errD, errF, pgetD, nodeD, sl, pods_length, nds_length, AV.ren, AV.renL, rn]) (by simp [AV.belL, AV.bel]) (WK.now ?_)
      simp only [Cs, push_cast, simprocAttr, pods_length, nds_length, fP, pL]
      refine ⟨room_of (by simp; omega) (by omega), ?_⟩
      exact ⟨l.length - (i + 1), by omega, WK.fgt (t' := [.pvar 7 0, .d (.int .i64 n), .dead, .dead, .dead, .dead, .pvar 8 0, .dead, .dead, .sfull 12, .dead, .dead, .dead, .dead, .dead, .dead, .dead, .dead, .dead, .dead, .dead, .dead, .dead, .dead, .dead, .dead, .dead, .dead, .dead, .dead, .dead, .dead, .d (.slice 9 (pods l)), .d (.int .i64 l.length), .d (.int .i64 (i + 1 : Nat)), .dead, .dead, .dead, .dead, .dead, .dead, .dead, .dead, .dead, .dead, .dead, .dead, .dead, .dead, .dead, .dead, .dead, .dead, .dead, .dead, .dead, .dead, .dead, .dead, .dead, .dead, .dead, .dead, .dead, .dead, .dead]) (by simp [fgt, si]) (WK.pick [0, 1, 2, 3, 4, 5, 6, 7, 8, 12] (t' := [.pvar 7 0, .d (.int .i64 n), .dead, .dead, .dead, .dead, .pvar 8 0, .dead, .dead, .sfull 9, .dead, .dead, .dead, .dead, .dead, .dead, .dead, .dead, .dead, .dead, .dead, .dead, .dead, .dead, .dead, .dead, .dead, .dead, .dead, .dead, .dead, .dead, .d (.slice 9 (pods l)), .d (.int .i64 l.length), .d (.int .i64 (i + 1 : Nat)), .dead, .dead, .dead, .dead, .dead, .dead, .dead, .dead, .dead, .dead, .dead, .dead, .dead, .dead, .dead, .dead, .dead, .dead, .dead, .dead, .dead, .dead, .dead, .dead, .dead, .dead, .dead, .dead, .dead, .dead, .dead]) (H' := Cs cn ++ [.var [.pvar 2 0, .pvar 6 0], .arr 35 9 (pods ((l.take (i + 1)).map dropP))])
        (by rw [hms, ← pods_snocD]; simp [Cs, sbl, ren_none, ren_var, ren_arr, ren_map, bel_none, bel_var, bel_arr, bel_map, AV.renL, AV.ren, AV.belL, AV.bel, rn]) (by simp) (by simp) (by simp [tellL, AV.ren, AV.renL, AV.bel, AV.belL, rn]) (by decide) (WK.now ⟨i + 1, cn, rfl, by omega, hnx, rfl, rfl, rfl⟩))⟩
  · have c2 : i = l.length := by have : ¬ i < l.length := by simpa using b
                                 omega
    subst c2
    have e : l.take l.length = l := List.take_of_length_le (Nat.le_refl _)
    rw [e] at hci ⊢
    have hgn := hci.getN n
    rw [show findN ({ w with pods := dropL w.pods l } : Rc).nodes n = some m from hm, Option.map_some] at hgn
    have hno : ∀ p ∈ dropL w.pods l, holdsP p.1.ph → p.1.nd ≠ n := fun p hp hh e => by
      rcases dropL_map (fun q hq => (hmem q hq).1) hnd p hp with ⟨h1, h2⟩ | ⟨q, _, rfl⟩
      · have ho : onP n p = true := onP_iff.2 ⟨e, by unfold holdsP at hh; omega⟩
        exact h2 (List.mem_map.2 ⟨p, by rw [hl]; exact List.mem_filter.2 ⟨h1, ho⟩, rfl⟩)
      · exact (dropP_ph q).1 hh
    have hfin := hci.dropN n hno
    simp only [push_cast, simprocAttr, pods_length, nds_length, fP, pL]
    refine (ndrop_ok ci.d 1024 ci.N n hgn).at [4, 5, 6] (by simp [PV, Tb, Ps, Psn, Ns, Cs, Csn, fP, pL, fE, errD, errF, pgetD, nodeD, sl, pods_length, nds_length, sbl, ren_none, ren_var, ren_arr, ren_map, ren_mapb, ren_iter, ren_loop, ren_defr, bel_none, bel_var, bel_arr, bel_map, bel_mapb, bel_iter, bel_loop, bel_defr, AV.renL, AV.ren, AV.belL, AV.bel, rn]) (by simp) (by simp [PV, Tb, Ps, Psn, Ns, Cs, Csn, fP, pL, fE, errD, errF, pgetD, nodeD, sl, pods_length, nds_length]) (by simp [PV, Tb, Ps, Psn, Ns, Cs, Csn, fP, pL, fE, errD, errF, pgetD, nodeD, sl, pods_length, nds_length, AV.ren, AV.renL, rn]) (by simp [AV.belL, AV.bel]) (WK.frz 9 rfl (WK.now ?_))
    simp only [Ns, push_cast, simprocAttr, pods_length, nds_length, fP, pL]
    refine WK.now ?_
    simp only [push_cast, simprocAttr, pods_length, nds_length, fP, pL]
    exact ⟨{ ci with N := ldel ci.N n }, by unfold rcDrop; rw [← hl]; exact hfin, _, rfl⟩
theorem cdrop_ok {c : Cl} {w : Rc} (h : RC c w) (n : Int) {m : Int × List Int} (hm : findN w.nodes n = some m) :
    ACalls env 32 [.pvar 7 0, .d (.int .i64 n)] (Cs c) fun r H' => ∃ c', RC c' (rcDrop w n) ∧ r = .d (.tup [.slice 9 (pods ((w.pods.filter (onP n)).map dropP)), .nili]) ∧ H' = Cs c' :=
  (cdrop_raw h n hm).retell (by
    rintro r H' ⟨c', h', rfl, l, rfl⟩
    exact WK.pick [0, 1, 2, 3, 4, 5, 6, 7] (t' := [.d (.tup [.slice 9 (pods ((w.pods.filter (onP n)).map dropP)), .nili])]) (H' := Cs c') (by simp [Cs, sbl, ren_none, ren_var, ren_arr, ren_map, bel_none, bel_var, bel_arr, bel_map, AV.renL, AV.ren, AV.belL, AV.bel, rn]) (by simp) (by simp [Cs]) (by simp [tellL, AV.ren, AV.renL, AV.bel, AV.belL, rn]) (by intro id h; rcases id with _ | _ | _ | _ | _ | _ | _ | _ | id <;> first | rfl | exact absurd h (by simp [Cs]))
      (WK.now ⟨_, rfl, c', h', rfl, rfl⟩))
theorem cdrop_no {c : Cl} {w : Rc} (h : RC c w) (n : Int) (hm : findN w.nodes n = none) :
    ACalls env 32 [.pvar 7 0, .d (.int .i64 n)] (Cs c) fun r H' => r = .d (.tup [.nils, errF (some (5, 0))]) ∧ H' = Cs c := by
  have hN := h.getN n
  rw [hm] at hN
  unfold Cs
  refine ACalls.cutTo [0, 1, 2, 3, 4, 5, 6, 7] rfl ?_ (fun l => by simp [PV, Tb, Ps, Psn, Ns, Cs, Csn, fP, pL, fE, errD, errF, pgetD, nodeD, sl, pods_length, nds_length, sbl, ren_none, ren_var, ren_arr, ren_map, ren_mapb, ren_iter, ren_loop, ren_defr, bel_none, bel_var, bel_arr, bel_map, bel_mapb, bel_iter, bel_loop, bel_defr, AV.renL, AV.ren, AV.belL, AV.bel, rn]) (fun m => by simp [tellL, AV.ren, AV.renL, AV.bel, AV.belL, rn])
  refine acalls_of envOk Tryz.func32 rfl (by kernel_rfl) (m := 64) rfl ?_
  simp only [push_cast, simprocAttr, pods_length, nds_length, fP, pL]
  refine (cstate_ok c).at [0, 1, 2, 3, 4, 5, 6, 7] (by simp [PV, Tb, Ps, Psn, Ns, Cs, Csn, fP, pL, fE, errD, errF, pgetD, nodeD, sl, pods_length, nds_length, sbl, ren_none, ren_var, ren_arr, ren_map, ren_mapb, ren_iter, ren_loop, ren_defr, bel_none, bel_var, bel_arr, bel_map, bel_mapb, bel_iter, bel_loop, bel_defr, AV.renL, AV.ren, AV.belL, AV.bel, rn]) (by simp) (by simp [PV, Tb, Ps, Psn, Ns, Cs, Csn, fP, pL, fE, errD, errF, pgetD, nodeD, sl, pods_length, nds_length]) (by simp [PV, Tb, Ps, Psn, Ns, Cs, Csn, fP, pL, fE, errD, errF, pgetD, nodeD, sl, pods_length, nds_length, AV.ren, AV.renL, rn]) (by simp [AV.belL, AV.bel]) (WK.now ?_)
  simp only [Cs, push_cast, simprocAttr, pods_length, nds_length, fP, pL]
  refine (nget_ok c.d 1024 c.N n h.ok.N).at [4, 5, 6] (by simp [PV, Tb, Ps, Psn, Ns, Cs, Csn, fP, pL, fE, errD, errF, pgetD, nodeD, sl, pods_length, nds_length, sbl, ren_none, ren_var, ren_arr, ren_map, ren_mapb, ren_iter, ren_loop, ren_defr, bel_none, bel_var, bel_arr, bel_map, bel_mapb, bel_iter, bel_loop, bel_defr, AV.renL, AV.ren, AV.belL, AV.bel, rn]) (by simp) (by simp [PV, Tb, Ps, Psn, Ns, Cs, Csn, fP, pL, fE, errD, errF, pgetD, nodeD, sl, pods_length, nds_length]) (by simp [PV, Tb, Ps, Psn, Ns, Cs, Csn, fP, pL, fE, errD, errF, pgetD, nodeD, sl, pods_length, nds_length, AV.ren, AV.renL, rn]) (by simp [AV.belL, AV.bel]) (WK.now ?_)
  simp only [Ns, hN, Option.map_none, nodeD, push_cast, simprocAttr, pods_length, nds_length, fP, pL]
  refine (cunk_ok 0).go (by first | exact ⟨.inl rfl, trivial⟩ | exact ⟨.inl rfl, .inl rfl, trivial⟩ | exact ⟨.inl rfl, .inl rfl, .inl rfl, trivial⟩ | simp [argsOk, argOk, sl, sll]) (WK.now ?_)
  simp only [errF, push_cast, simprocAttr, pods_length, nds_length, fP, pL]
  refine WK.now ?_
  simp only [errF, push_cast, simprocAttr, pods_length, nds_length, fP, pL]
  first | done | exact ⟨_, rfl⟩ | exact ⟨rfl, _, rfl⟩
end Go.Proofs.YtcmhdpbmcgglmaaGreatDoor
end
section
set_option autoImplicit false
set_option linter.unusedVariables false
set_option linter.unusedSimpArgs false
namespace Go.Proofs.YtcmhdpbmcgglmaaGreatDoor
open Go.Abs
theorem filtP_snoc (f : Pod → Bool) {l : List Pod} {i : Nat} (h : i < l.length) : (l.take (i + 1)).filter f = (l.take i).filter f ++ if f (l.getD i pz) then [l.getD i pz] else [] := filt_snoc f h
set_option maxRecDepth 8000 in
theorem on13_ok (l : List Pod) (n : Int) (hl : l.length ≤ 1000000) : PCall env 73 [.slice 9 (pods l), .int .i64 n] (.slice 9 (pods (l.filter (onP n)))) := by
  refine acalls_of envOk Tryz.func73 rfl (by kernel_rfl) (m := 42) rfl ?_
  simp only [push_cast, simprocAttr, pods_length, nds_length, fP, pL]
  refine ALoop.mk (fun k t H ds => ∃ i : Nat, k = l.length - i ∧ i ≤ l.length ∧ t = [.d (.slice 9 (pods l)), .d (.int .i64 n), .dead, .dead, .dead, .sfull 0, .d (.int .i64 (i : Nat)), .dead, .dead, .dead, .dead, .dead, .dead, .dead, .dead, .dead, .dead, .dead, .dead, .dead, .dead, .dead, .dead, .dead, .dead, .dead, .dead, .dead, .dead, .dead, .dead, .dead, .dead, .dead, .dead, .dead, .dead, .dead, .dead, .dead, .dead, .dead, .dead, .dead] ∧ H = [.arr 35 9 (pods ((l.take i).filter (onP n)))] ∧ ds = []) l.length
    (WK.nil 5 35 9 rfl (WK.fgt (t' := [.d (.slice 9 (pods l)), .d (.int .i64 n), .dead, .dead, .dead, .sfull 0, .d (.int .i64 (0 : Nat)), .dead, .dead, .dead, .dead, .dead, .dead, .dead, .dead, .dead, .dead, .dead, .dead, .dead, .dead, .dead, .dead, .dead, .dead, .dead, .dead, .dead, .dead, .dead, .dead, .dead, .dead, .dead, .dead, .dead, .dead, .dead, .dead, .dead, .dead, .dead, .dead, .dead]) (by simp [fgt]) (WK.now ⟨0, by omega, by omega, rfl, rfl, rfl⟩))) ?_
  rintro k t H ds ⟨i, rfl, hi, rfl, rfl, rfl⟩
  simp only [push_cast, simprocAttr, pods_length, nds_length, fP, pL]
  refine Kbr.mk (fun b => ?_) (fun b => ?_)
  · have c2 : i < l.length := by simpa using b
    have si := succ64 c2 (show l.length ≤ 4611686018427387904 by omega)
    obtain ⟨p, hp⟩ : ∃ p, p = l.getD i pz := ⟨_, rfl⟩
    have hsn := filtP_snoc (onP n) c2
    rw [← hp] at hsn
    have hfl : ((l.take i).filter (onP n)).length ≤ l.length := Nat.le_trans (List.length_filter_le _ _) (by simp; omega)
    have hnot : onP n p = false → ∃ k', k' < l.length - i ∧ WK env 0 (fun t H ds => ∃ i : Nat, k' = l.length - i ∧ i ≤ l.length ∧ t = [.d (.slice 9 (pods l)), .d (.int .i64 n), .dead, .dead, .dead, .sfull 0, .d (.int .i64 (i : Nat)), .dead, .dead, .dead, .dead, .dead, .dead, .dead, .dead, .dead, .dead, .dead, .dead, .dead, .dead, .dead, .dead, .dead, .dead, .dead, .dead, .dead, .dead, .dead, .dead, .dead, .dead, .dead, .dead, .dead, .dead, .dead, .dead, .dead, .dead, .dead, .dead, .dead] ∧ H = [.arr 35 9 (pods ((l.take i).filter (onP n)))] ∧ ds = []) [.d (.slice 9 (pods l)), .d (.int .i64 n), .dead, .dead, .dead, .sfull 0, .d (.int .i64 (i + 1 : Nat)), .dead, .dead, .dead, .dead, .dead, .dead, .dead, .dead, .dead, .dead, .dead, .dead, .dead, .dead, .dead, .dead, .dead, .dead, .dead, .dead, .dead, .dead, .dead, .dead, .dead, .dead, .dead, .dead, .dead, .dead, .dead, .dead, .dead, .dead, .dead, .dead, .dead] [.arr 35 9 (pods ((l.take i).filter (onP n)))] [] := fun hq => by
      rw [hq, if_neg (by simp), List.append_nil] at hsn
      exact ⟨l.length - (i + 1), by omega, WK.now ⟨i + 1, rfl, by omega, rfl, by rw [hsn], rfl⟩⟩
    by_cases h1 : p.1.nd = n
    · have e1 : (p.1.nd == n) = true := by simpa using h1
      by_cases h2 : 2 ≤ p.1.ph
      · have e2 : decide (p.1.ph ≥ 2) = true := decide_eq_true h2
        by_cases h3 : p.1.ph ≤ 4
        · have e3 : decide (p.1.ph ≤ 4) = true := decide_eq_true h3
          have ho : onP n p = true := onP_iff.2 ⟨h1, by omega⟩
          rw [ho, if_pos rfl] at hsn
          simp only [c2, cel_nd, cel_ph, seg_pods, ← hp, e1, e2, e3, si, push_cast, simprocAttr, pods_length, nds_length, fP, pL]
          refine ⟨room_of (by simp [pods]; omega) (by omega), ?_⟩
          exact ⟨l.length - (i + 1), by omega, WK.fgt (t' := [.d (.slice 9 (pods l)), .d (.int .i64 n), .dead, .dead, .dead, .sfull 1, .d (.int .i64 (i + 1 : Nat)), .dead, .dead, .dead, .dead, .dead, .dead, .dead, .dead, .dead, .dead, .dead, .dead, .dead, .dead, .dead, .dead, .dead, .dead, .dead, .dead, .dead, .dead, .dead, .dead, .dead, .dead, .dead, .dead, .dead, .dead, .dead, .dead, .dead, .dead, .dead, .dead, .dead]) (by simp [fgt]) (WK.pick [1] (t' := [.d (.slice 9 (pods l)), .d (.int .i64 n), .dead, .dead, .dead, .sfull 0, .d (.int .i64 (i + 1 : Nat)), .dead, .dead, .dead, .dead, .dead, .dead, .dead, .dead, .dead, .dead, .dead, .dead, .dead, .dead, .dead, .dead, .dead, .dead, .dead, .dead, .dead, .dead, .dead, .dead, .dead, .dead, .dead, .dead, .dead, .dead, .dead, .dead, .dead, .dead, .dead, .dead, .dead]) (H' := [.arr 35 9 (pods ((l.take (i + 1)).filter (onP n)))])
            (by rw [hsn, ← pods_snocD]; simp [sbl, ren_none, ren_var, ren_arr, ren_map, bel_none, bel_var, bel_arr, bel_map, AV.renL, AV.ren, AV.belL, AV.bel, rn]) (by simp) (by simp) (by simp [tellL, AV.ren, AV.renL, AV.bel, AV.belL, rn]) (by decide) (WK.now ⟨i + 1, rfl, by omega, rfl, rfl, rfl⟩))⟩
        · have e3 : decide (p.1.ph ≤ 4) = false := decide_eq_false h3
          have ho : onP n p = false := by
            cases hh : onP n p with
            | false => rfl
            | true => have := (onP_iff.1 hh).2; omega
          obtain ⟨k', hk, hw⟩ := hnot ho
          simp only [c2, cel_nd, cel_ph, ← hp, e1, e2, e3, si, push_cast, simprocAttr, pods_length, nds_length, fP, pL]
          exact ⟨k', hk, WK.fgt (t' := [.d (.slice 9 (pods l)), .d (.int .i64 n), .dead, .dead, .dead, .sfull 0, .d (.int .i64 (i + 1 : Nat)), .dead, .dead, .dead, .dead, .dead, .dead, .dead, .dead, .dead, .dead, .dead, .dead, .dead, .dead, .dead, .dead, .dead, .dead, .dead, .dead, .dead, .dead, .dead, .dead, .dead, .dead, .dead, .dead, .dead, .dead, .dead, .dead, .dead, .dead, .dead, .dead, .dead]) (by simp [fgt]) hw⟩
      · have e2 : decide (p.1.ph ≥ 2) = false := decide_eq_false h2
        have ho : onP n p = false := by
          cases hh : onP n p with
          | false => rfl
          | true => have := (onP_iff.1 hh).2; omega
        obtain ⟨k', hk, hw⟩ := hnot ho
        simp only [c2, cel_nd, cel_ph, ← hp, e1, e2, si, push_cast, simprocAttr, pods_length, nds_length, fP, pL]
        exact ⟨k', hk, WK.fgt (t' := [.d (.slice 9 (pods l)), .d (.int .i64 n), .dead, .dead, .dead, .sfull 0, .d (.int .i64 (i + 1 : Nat)), .dead, .dead, .dead, .dead, .dead, .dead, .dead, .dead, .dead, .dead, .dead, .dead, .dead, .dead, .dead, .dead, .dead, .dead, .dead, .dead, .dead, .dead, .dead, .dead, .dead, .dead, .dead, .dead, .dead, .dead, .dead, .dead, .dead, .dead, .dead, .dead, .dead]) (by simp [fgt]) hw⟩
    · have e1 : (p.1.nd == n) = false := by simpa using h1
      have ho : onP n p = false := by
        cases hh : onP n p with
        | false => rfl
        | true => exact absurd (onP_iff.1 hh).1 h1
      obtain ⟨k', hk, hw⟩ := hnot ho
      simp only [c2, cel_nd, cel_ph, ← hp, e1, si, push_cast, simprocAttr, pods_length, nds_length, fP, pL]
      exact ⟨k', hk, WK.fgt (t' := [.d (.slice 9 (pods l)), .d (.int .i64 n), .dead, .dead, .dead, .sfull 0, .d (.int .i64 (i + 1 : Nat)), .dead, .dead, .dead, .dead, .dead, .dead, .dead, .dead, .dead, .dead, .dead, .dead, .dead, .dead, .dead, .dead, .dead, .dead, .dead, .dead, .dead, .dead, .dead, .dead, .dead, .dead, .dead, .dead, .dead, .dead, .dead, .dead, .dead, .dead, .dead, .dead, .dead]) (by simp [fgt]) hw⟩
  · have c2 : ¬ i < l.length := by simpa using b
    have e : l.take i = l := List.take_of_length_le (by omega)
    rw [e]
    simp only [push_cast, simprocAttr, pods_length, nds_length, fP, pL]
    refine WK.frz 0 rfl (WK.now ?_)
    simp only [push_cast, simprocAttr, pods_length, nds_length, fP, pL]
theorem dropL_keys (P : List Pod) : ∀ l : List Pod, (dropL P l).map pid = P.map pid := fun l => by
  unfold dropL
  induction l generalizing P with
  | nil => rfl
  | cons q l ih => rw [List.foldl_cons, ih, upd_keys]
theorem dropL_len (P l : List Pod) : (dropL P l).length = P.length := by
  have := congrArg List.length (dropL_keys P l)
  rwa [List.length_map, List.length_map] at this
theorem findP_self {P : List Pod} {p q : Pod} (hp : findP P q.1.id = some p) : findP (updP P q) q.1.id = some q := by
  unfold findP updP at *
  induction P with
  | nil => cases hp
  | cons x P ih =>
    rw [List.find?_cons] at hp
    rw [List.map_cons, List.find?_cons]
    by_cases hx : x.1.id = q.1.id
    · rw [if_pos hx]
      have e : (q.1.id == q.1.id) = true := beq_self_eq_true _
      rw [e]
    · rw [if_neg hx]
      have e : (x.1.id == q.1.id) = false := by simpa using hx
      rw [e] at hp ⊢
      exact ih hp
theorem app13_drop {P : List Pod} {p : Pod} (hp : findP P p.1.id = some p) (hph : p.1.ph = 2 ∨ p.1.ph = 3 ∨ p.1.ph = 4) : app13 P p.1.id (evD p) (-1) (-1) = (updP P (dropP p), 0) := by
  have hn : nextP p.1.ph (evD p) = some (toD p) := by
    unfold nextP evD toD
    by_cases h2 : p.1.ph = 2
    · rw [if_pos h2, if_pos h2, if_neg (by omega), if_neg (by omega), if_pos rfl, if_pos h2]
    · rw [if_neg h2, if_neg h2, if_neg (by omega), if_neg (by omega), if_neg (by omega), if_neg (by omega), if_pos rfl, if_pos (by omega), if_neg h2]
  unfold app13
  rw [hp]
  dsimp only
  rw [hn]
  rfl
set_option maxRecDepth 8000 in
set_option maxHeartbeats 1000000 in
theorem drop14_ok {c : Cl} {w : Rc} (h : RC c w) (n : Int) : PCall env 52 [fRc w, .int .i64 n] (.tup [fRc (rcDrop w n), .slice 9 (pods ((w.pods.filter (onP n)).map dropP))]) := by
  obtain ⟨l, hl⟩ : ∃ l, l = w.pods.filter (onP n) := ⟨_, rfl⟩
  have h65 := h.len
  have hon := on13_ok w.pods n (by omega)
  unfold rcDrop
  rw [← hl] at hon ⊢
  have hmem : ∀ p ∈ l, findP w.pods p.1.id = some p ∧ onP n p = true := fun p hp => by
    rw [hl] at hp
    exact ⟨h.find (List.mem_filter.1 hp).1, (List.mem_filter.1 hp).2⟩
  have hndp := h.ndp
  have hnd : (l.map pid).Nodup := by
    have := hndp
    unfold NoDup kv at this
    rw [List.map_map] at this
    rw [hl]
    exact List.Nodup.sublist (List.filter_sublist.map _) this
  have hll : l.length ≤ 65536 := by
    have h2 : l.length ≤ w.pods.length := by rw [hl]; exact List.length_filter_le _ _
    omega
  unfold fRc
  refine acalls_of envOk Tryz.func52 rfl (by kernel_rfl) (m := 81) rfl ?_
  simp only [push_cast, simprocAttr, pods_length, nds_length, fP, pL]
  refine hon.go (by first | exact ⟨.inl rfl, trivial⟩ | exact ⟨.inl rfl, .inl rfl, trivial⟩ | exact ⟨.inl rfl, .inl rfl, .inl rfl, trivial⟩ | simp [argsOk, argOk, sl, sll]) (WK.now ?_)
  simp only [push_cast, simprocAttr, pods_length, nds_length, fP, pL]
  refine ALoop.mk (fun k t H ds => ∃ i : Nat, k = l.length - i ∧ i ≤ l.length ∧ t = [.dead, .d (.int .i64 n), .pvar 0 0, .dead, .pvar 1 0, .dead, .d (.slice 9 (pods l)), .sfull 2, .d (.int .i64 (i : Nat)), .dead, .dead, .dead, .dead, .dead, .dead, .dead, .dead, .dead, .dead, .dead, .dead, .dead, .dead, .dead, .dead, .dead, .dead, .dead, .dead, .dead, .dead, .dead, .dead, .dead, .dead, .dead, .dead, .dead, .dead, .dead, .dead, .dead, .dead, .dead, .dead, .dead, .dead, .dead, .dead, .dead, .dead, .dead, .dead, .dead, .dead, .dead, .dead, .dead, .dead, .dead, .dead, .dead, .dead, .dead, .dead, .dead, .dead, .dead, .dead, .dead, .dead, .dead, .dead, .dead, .dead, .dead, .dead, .dead, .dead, .dead, .dead, .dead, .dead] ∧ H = [.var [.d (.int .i64 w.d), .d (.slice 2 (nds w.nodes)), .d (.slice 9 (pods (dropL w.pods (l.take i))))], .var [.d (.int .i64 0), .d .nils, .d .nils], .arr 35 9 (pods ((l.take i).map dropP))] ∧ ds = []) l.length
    (WK.nil 7 35 9 rfl (WK.fgt (t' := [.dead, .d (.int .i64 n), .pvar 0 0, .dead, .pvar 1 0, .dead, .d (.slice 9 (pods l)), .sfull 2, .d (.int .i64 (0 : Nat)), .dead, .dead, .dead, .dead, .dead, .dead, .dead, .dead, .dead, .dead, .dead, .dead, .dead, .dead, .dead, .dead, .dead, .dead, .dead, .dead, .dead, .dead, .dead, .dead, .dead, .dead, .dead, .dead, .dead, .dead, .dead, .dead, .dead, .dead, .dead, .dead, .dead, .dead, .dead, .dead, .dead, .dead, .dead, .dead, .dead, .dead, .dead, .dead, .dead, .dead, .dead, .dead, .dead, .dead, .dead, .dead, .dead, .dead, .dead, .dead, .dead, .dead, .dead, .dead, .dead, .dead, .dead, .dead, .dead, .dead, .dead, .dead, .dead, .dead]) (by simp [fgt]) (WK.now ⟨0, by omega, by omega, rfl, rfl, rfl⟩))) ?_
  rintro k t H ds ⟨i, rfl, hi, rfl, rfl, rfl⟩
  simp only [push_cast, simprocAttr, pods_length, nds_length, fP, pL]
  refine Kbr.mk (fun b => ?_) (fun b => ?_)
  · have c2 : i < l.length := by simpa using b
    have si := succ64 c2 (show l.length ≤ 4611686018427387904 by omega)
    obtain ⟨p, hp⟩ : ∃ p, p = l.getD i pz := ⟨_, rfl⟩
    have hpl : p ∈ l := by rw [hp, List.getD_eq_getElem?_getD, List.getElem?_eq_getElem c2]; exact List.getElem_mem c2
    obtain ⟨hpf, hpo⟩ := hmem p hpl
    have hne : ∀ q ∈ l.take i, q.1.id ≠ p.1.id := fun q hq e => by
      have hn2 := hnd
      rw [← List.take_append_drop i l, List.map_append, List.nodup_append] at hn2
      have hpd : p ∈ l.drop i := by
        rw [List.drop_eq_getElem_cons c2, hp, List.getD_eq_getElem?_getD, List.getElem?_eq_getElem c2]
        exact List.mem_cons_self
      exact hn2.2.2 _ (List.mem_map.2 ⟨q, hq, rfl⟩) _ (List.mem_map.2 ⟨p, hpd, rfl⟩) e
    have hpi : findP (dropL w.pods (l.take i)) p.1.id = some p := by rw [dropL_find hne]; exact hpf
    have hsz : Sz (dropL w.pods (l.take i)) := by unfold Sz; rw [dropL_len]; omega
    have hndi : NoDup (kv pid (dropL w.pods (l.take i))) := by
      have e := dropL_keys w.pods (l.take i)
      unfold NoDup kv at hndp ⊢
      rw [List.map_map] at hndp ⊢
      exact (show ((dropL w.pods (l.take i)).map pid).Nodup by rw [e]; exact hndp)
    have hap := app13_ok (dropL w.pods (l.take i)) p.1.id (evD p) (-1) (-1) hsz hndi
    rw [app13_drop hpi (on_ph hpo)] at hap
    have hds := dropL_snoc w.pods c2
    rw [← hp] at hds
    have hms := map_snocP dropP c2
    rw [← hp] at hms
    rw [← hds] at hap
    have hsz2 : Sz (dropL w.pods (l.take (i + 1))) := by unfold Sz; rw [dropL_len]; omega
    have hfs : findP (dropL w.pods (l.take (i + 1))) p.1.id = some (dropP p) := by rw [hds]; exact findP_self (q := dropP p) hpi
    obtain ⟨j, j1, j2, j3, _⟩ := idxP_some hfs
    have hfd := find07_ok (dropL w.pods (l.take (i + 1))) p.1.id hsz2
    rw [j1] at hfd
    have key : ∀ ev, ev = evD p → True := fun _ _ => trivial
    by_cases h2 : p.1.ph = 2
    · have e2 : (p.1.ph == 2) = true := by simpa using h2
      rw [show evD p = 3 from if_pos h2] at hap
      simp only [c2, cel_ph, ← hp, e2, push_cast, simprocAttr, pods_length, nds_length, fP, pL]
      refine DRegL.det [13] [0, 1, 2, 3, 4, 5, 6, 7, 8, 9, 10, 11, 12] [(13, [11], [])] (by kernel_rfl) (by kernel_rfl) (by kernel_rfl) ?_
      simp only [c2, cel_id, ← hp, push_cast, simprocAttr, pods_length, nds_length, fP, pL]
      refine hap.quiet' (by first | exact ⟨.inl rfl, trivial⟩ | exact ⟨.inl rfl, .inl rfl, trivial⟩ | exact ⟨.inl rfl, .inl rfl, .inl rfl, trivial⟩ | simp [argsOk, argOk, sl, sll]) ?_
      simp only [push_cast, simprocAttr, pods_length, nds_length, fP, pL]
      refine DRegL.det [14] [0, 1, 2, 3, 4, 5, 6, 7, 8, 9, 10, 11, 12, 13] [(14, [], [15])] (by kernel_rfl) (by kernel_rfl) (by kernel_rfl) ?_
      simp only [c2, cel_id, ← hp, push_cast, simprocAttr, pods_length, nds_length, fP, pL]
      refine hfd.quiet' (by first | exact ⟨.inl rfl, trivial⟩ | exact ⟨.inl rfl, .inl rfl, trivial⟩ | exact ⟨.inl rfl, .inl rfl, .inl rfl, trivial⟩ | simp [argsOk, argOk, sl, sll]) ?_
      simp only [j2, seg_pods, j3, push_cast, simprocAttr, pods_length, nds_length, fP, pL]
      refine ⟨room_of (by simp; omega) (by omega), ?_⟩
      exact ⟨l.length - (i + 1), by omega, WK.fgt (t' := [.dead, .d (.int .i64 n), .pvar 0 0, .dead, .pvar 1 0, .dead, .d (.slice 9 (pods l)), .sfull 3, .d (.int .i64 (i + 1 : Nat)), .dead, .dead, .dead, .dead, .dead, .dead, .dead, .dead, .dead, .dead, .dead, .dead, .dead, .dead, .dead, .dead, .dead, .dead, .dead, .dead, .dead, .dead, .dead, .dead, .dead, .dead, .dead, .dead, .dead, .dead, .dead, .dead, .dead, .dead, .dead, .dead, .dead, .dead, .dead, .dead, .dead, .dead, .dead, .dead, .dead, .dead, .dead, .dead, .dead, .dead, .dead, .dead, .dead, .dead, .dead, .dead, .dead, .dead, .dead, .dead, .dead, .dead, .dead, .dead, .dead, .dead, .dead, .dead, .dead, .dead, .dead, .dead, .dead, .dead]) (by simp [fgt, si]) (WK.pick [0, 1, 3] (t' := [.dead, .d (.int .i64 n), .pvar 0 0, .dead, .pvar 1 0, .dead, .d (.slice 9 (pods l)), .sfull 2, .d (.int .i64 (i + 1 : Nat)), .dead, .dead, .dead, .dead, .dead, .dead, .dead, .dead, .dead, .dead, .dead, .dead, .dead, .dead, .dead, .dead, .dead, .dead, .dead, .dead, .dead, .dead, .dead, .dead, .dead, .dead, .dead, .dead, .dead, .dead, .dead, .dead, .dead, .dead, .dead, .dead, .dead, .dead, .dead, .dead, .dead, .dead, .dead, .dead, .dead, .dead, .dead, .dead, .dead, .dead, .dead, .dead, .dead, .dead, .dead, .dead, .dead, .dead, .dead, .dead, .dead, .dead, .dead, .dead, .dead, .dead, .dead, .dead, .dead, .dead, .dead, .dead, .dead, .dead]) (H' := [.var [.d (.int .i64 w.d), .d (.slice 2 (nds w.nodes)), .d (.slice 9 (pods (dropL w.pods (l.take (i + 1)))))], .var [.d (.int .i64 0), .d .nils, .d .nils], .arr 35 9 (pods ((l.take (i + 1)).map dropP))])
        (by rw [hms, ← pods_snocD]; simp [sbl, ren_none, ren_var, ren_arr, ren_map, bel_none, bel_var, bel_arr, bel_map, AV.renL, AV.ren, AV.belL, AV.bel, rn]) (by simp) (by simp) (by simp [tellL, AV.ren, AV.renL, AV.bel, AV.belL, rn]) (by decide) (WK.now ⟨i + 1, rfl, by omega, rfl, rfl, rfl⟩))⟩
    · have e2 : (p.1.ph == 2) = false := by simpa using h2
      rw [show evD p = 5 from if_neg h2] at hap
      simp only [c2, cel_ph, ← hp, e2, push_cast, simprocAttr, pods_length, nds_length, fP, pL]
      refine DRegL.det [13] [0, 1, 2, 3, 4, 5, 6, 7, 8, 9, 10, 11, 12] [(13, [11], [])] (by kernel_rfl) (by kernel_rfl) (by kernel_rfl) ?_
      simp only [c2, cel_id, ← hp, push_cast, simprocAttr, pods_length, nds_length, fP, pL]
      refine hap.quiet' (by first | exact ⟨.inl rfl, trivial⟩ | exact ⟨.inl rfl, .inl rfl, trivial⟩ | exact ⟨.inl rfl, .inl rfl, .inl rfl, trivial⟩ | simp [argsOk, argOk, sl, sll]) ?_
      simp only [push_cast, simprocAttr, pods_length, nds_length, fP, pL]
      refine DRegL.det [14] [0, 1, 2, 3, 4, 5, 6, 7, 8, 9, 10, 11, 12, 13] [(14, [], [15])] (by kernel_rfl) (by kernel_rfl) (by kernel_rfl) ?_
      simp only [c2, cel_id, ← hp, push_cast, simprocAttr, pods_length, nds_length, fP, pL]
      refine hfd.quiet' (by first | exact ⟨.inl rfl, trivial⟩ | exact ⟨.inl rfl, .inl rfl, trivial⟩ | exact ⟨.inl rfl, .inl rfl, .inl rfl, trivial⟩ | simp [argsOk, argOk, sl, sll]) ?_
      simp only [j2, seg_pods, j3, push_cast, simprocAttr, pods_length, nds_length, fP, pL]
      refine ⟨room_of (by simp; omega) (by omega), ?_⟩
      exact ⟨l.length - (i + 1), by omega, WK.fgt (t' := [.dead, .d (.int .i64 n), .pvar 0 0, .dead, .pvar 1 0, .dead, .d (.slice 9 (pods l)), .sfull 3, .d (.int .i64 (i + 1 : Nat)), .dead, .dead, .dead, .dead, .dead, .dead, .dead, .dead, .dead, .dead, .dead, .dead, .dead, .dead, .dead, .dead, .dead, .dead, .dead, .dead, .dead, .dead, .dead, .dead, .dead, .dead, .dead, .dead, .dead, .dead, .dead, .dead, .dead, .dead, .dead, .dead, .dead, .dead, .dead, .dead, .dead, .dead, .dead, .dead, .dead, .dead, .dead, .dead, .dead, .dead, .dead, .dead, .dead, .dead, .dead, .dead, .dead, .dead, .dead, .dead, .dead, .dead, .dead, .dead, .dead, .dead, .dead, .dead, .dead, .dead, .dead, .dead, .dead, .dead]) (by simp [fgt, si]) (WK.pick [0, 1, 3] (t' := [.dead, .d (.int .i64 n), .pvar 0 0, .dead, .pvar 1 0, .dead, .d (.slice 9 (pods l)), .sfull 2, .d (.int .i64 (i + 1 : Nat)), .dead, .dead, .dead, .dead, .dead, .dead, .dead, .dead, .dead, .dead, .dead, .dead, .dead, .dead, .dead, .dead, .dead, .dead, .dead, .dead, .dead, .dead, .dead, .dead, .dead, .dead, .dead, .dead, .dead, .dead, .dead, .dead, .dead, .dead, .dead, .dead, .dead, .dead, .dead, .dead, .dead, .dead, .dead, .dead, .dead, .dead, .dead, .dead, .dead, .dead, .dead, .dead, .dead, .dead, .dead, .dead, .dead, .dead, .dead, .dead, .dead, .dead, .dead, .dead, .dead, .dead, .dead, .dead, .dead, .dead, .dead, .dead, .dead, .dead]) (H' := [.var [.d (.int .i64 w.d), .d (.slice 2 (nds w.nodes)), .d (.slice 9 (pods (dropL w.pods (l.take (i + 1)))))], .var [.d (.int .i64 0), .d .nils, .d .nils], .arr 35 9 (pods ((l.take (i + 1)).map dropP))])
        (by rw [hms, ← pods_snocD]; simp [sbl, ren_none, ren_var, ren_arr, ren_map, bel_none, bel_var, bel_arr, bel_map, AV.renL, AV.ren, AV.belL, AV.bel, rn]) (by simp) (by simp) (by simp [tellL, AV.ren, AV.renL, AV.bel, AV.belL, rn]) (by decide) (WK.now ⟨i + 1, rfl, by omega, rfl, rfl, rfl⟩))⟩
  · have c2 : i = l.length := by have : ¬ i < l.length := by simpa using b
                                 omega
    subst c2
    have e : l.take l.length = l := List.take_of_length_le (Nat.le_refl _)
    rw [e]
    simp only [push_cast, simprocAttr, pods_length, nds_length, fP, pL]
    refine ALoop.mk (fun k t H ds => ∃ i : Nat, k = w.nodes.length - i ∧ i ≤ w.nodes.length ∧ t = [.dead, .d (.int .i64 n), .pvar 0 0, .dead, .pvar 1 0, .dead, .dead, .d (.slice 9 (pods (l.map dropP))), .dead, .dead, .sfull 2, .d (.int .i64 (i : Nat)), .dead, .dead, .dead, .dead, .dead, .dead, .dead, .dead, .dead, .dead, .dead, .dead, .dead, .dead, .dead, .dead, .dead, .dead, .dead, .dead, .dead, .dead, .dead, .dead, .dead, .dead, .dead, .dead, .dead, .dead, .dead, .dead, .dead, .dead, .dead, .dead, .dead, .dead, .dead, .dead, .dead, .dead, .dead, .dead, .dead, .dead, .dead, .dead, .dead, .dead, .dead, .dead, .dead, .dead, .dead, .dead, .dead, .dead, .dead, .dead, .dead, .dead, .dead, .dead, .dead, .dead, .dead, .dead, .dead, .dead, .dead] ∧ H = [.var [.d (.int .i64 w.d), .d (.slice 2 (nds w.nodes)), .d (.slice 9 (pods (dropL w.pods l)))], .var [.d (.int .i64 0), .d .nils, .d .nils], .arr 43 2 (nds ((w.nodes.take i).filter fun m => decide (m.1 ≠ n)))] ∧ ds = []) w.nodes.length (by
      refine WK.nil 10 43 2 rfl ?_
      refine WK.frz 2 rfl ?_
      simp only [push_cast, simprocAttr, pods_length, nds_length, fP, pL]
      refine WK.pick [0, 1, 3] (t' := [.dead, .d (.int .i64 n), .pvar 0 0, .dead, .pvar 1 0, .dead, .dead, .d (.slice 9 (pods (l.map dropP))), .dead, .dead, .sfull 2, .d (.int .i64 (0 : Nat)), .dead, .dead, .dead, .dead, .dead, .dead, .dead, .dead, .dead, .dead, .dead, .dead, .dead, .dead, .dead, .dead, .dead, .dead, .dead, .dead, .dead, .dead, .dead, .dead, .dead, .dead, .dead, .dead, .dead, .dead, .dead, .dead, .dead, .dead, .dead, .dead, .dead, .dead, .dead, .dead, .dead, .dead, .dead, .dead, .dead, .dead, .dead, .dead, .dead, .dead, .dead, .dead, .dead, .dead, .dead, .dead, .dead, .dead, .dead, .dead, .dead, .dead, .dead, .dead, .dead, .dead, .dead, .dead, .dead, .dead, .dead]) (H' := [.var [.d (.int .i64 w.d), .d (.slice 2 (nds w.nodes)), .d (.slice 9 (pods (dropL w.pods l)))], .var [.d (.int .i64 0), .d .nils, .d .nils], .arr 43 2 (nds [])])
        (by simp [nds, sbl, ren_none, ren_var, ren_arr, ren_map, bel_none, bel_var, bel_arr, bel_map, AV.renL, AV.ren, AV.belL, AV.bel, rn]) (by simp) (by simp) (by simp [tellL, AV.ren, AV.renL, AV.bel, AV.belL, rn]) (by decide) (WK.now ⟨0, by omega, by omega, rfl, rfl, rfl⟩)) ?_
    rintro k t H ds ⟨i, rfl, hi, rfl, rfl, rfl⟩
    simp only [push_cast, simprocAttr, pods_length, nds_length, fP, pL]
    have hN := h.nl
    have hlN := h.nodes.len
    rw [List.length_map] at hlN
    refine Kbr.mk (fun b => ?_) (fun b => ?_)
    · have c2 : i < w.nodes.length := by simpa using b
      have si := succ64 c2 (show w.nodes.length ≤ 4611686018427387904 by omega)
      have hsn : (w.nodes.take (i + 1)).filter (fun m => decide (m.1 ≠ n)) = (w.nodes.take i).filter (fun m => decide (m.1 ≠ n)) ++ if decide ((w.nodes.getD i nz).1 ≠ n) then [w.nodes.getD i nz] else [] := by
        rw [List.take_add_one, List.filter_append, List.getElem?_eq_getElem c2, List.getD_eq_getElem?_getD, List.getElem?_eq_getElem c2, Option.toList_some, Option.getD_some]
        by_cases hf : w.nodes[i].1 = n <;> simp [hf]
      have hfl : ((w.nodes.take i).filter (fun m => decide (m.1 ≠ n))).length ≤ w.nodes.length := Nat.le_trans (List.length_filter_le _ _) (by simp; omega)
      by_cases h1 : (w.nodes.getD i nz).1 = n
      · have e1 : ((w.nodes.getD i nz).1 != n) = false := by simpa using h1
        rw [if_neg (by simp only [decide_eq_true_eq]; exact fun x => x h1), List.append_nil] at hsn
        simp only [c2, cel_nds0, e1, si, push_cast, simprocAttr, pods_length, nds_length, fP, pL]
        exact ⟨w.nodes.length - (i + 1), by omega, WK.fgt (t' := [.dead, .d (.int .i64 n), .pvar 0 0, .dead, .pvar 1 0, .dead, .dead, .d (.slice 9 (pods (l.map dropP))), .dead, .dead, .sfull 2, .d (.int .i64 (i + 1 : Nat)), .dead, .dead, .dead, .dead, .dead, .dead, .dead, .dead, .dead, .dead, .dead, .dead, .dead, .dead, .dead, .dead, .dead, .dead, .dead, .dead, .dead, .dead, .dead, .dead, .dead, .dead, .dead, .dead, .dead, .dead, .dead, .dead, .dead, .dead, .dead, .dead, .dead, .dead, .dead, .dead, .dead, .dead, .dead, .dead, .dead, .dead, .dead, .dead, .dead, .dead, .dead, .dead, .dead, .dead, .dead, .dead, .dead, .dead, .dead, .dead, .dead, .dead, .dead, .dead, .dead, .dead, .dead, .dead, .dead, .dead, .dead]) (by simp [fgt]) (WK.now ⟨i + 1, rfl, by omega, rfl, by rw [hsn], rfl⟩)⟩
      · have e1 : ((w.nodes.getD i nz).1 != n) = true := by simpa using h1
        rw [if_pos (by simp only [decide_eq_true_eq]; exact h1)] at hsn
        simp only [c2, cel_nds0, seg_nds, nL, e1, si, push_cast, simprocAttr, pods_length, nds_length, fP, pL]
        refine ⟨room_of (by have := hfl; simp only [ne_eq] at this; omega) (by omega), ?_⟩
        exact ⟨w.nodes.length - (i + 1), by omega, WK.fgt (t' := [.dead, .d (.int .i64 n), .pvar 0 0, .dead, .pvar 1 0, .dead, .dead, .d (.slice 9 (pods (l.map dropP))), .dead, .dead, .sfull 3, .d (.int .i64 (i + 1 : Nat)), .dead, .dead, .dead, .dead, .dead, .dead, .dead, .dead, .dead, .dead, .dead, .dead, .dead, .dead, .dead, .dead, .dead, .dead, .dead, .dead, .dead, .dead, .dead, .dead, .dead, .dead, .dead, .dead, .dead, .dead, .dead, .dead, .dead, .dead, .dead, .dead, .dead, .dead, .dead, .dead, .dead, .dead, .dead, .dead, .dead, .dead, .dead, .dead, .dead, .dead, .dead, .dead, .dead, .dead, .dead, .dead, .dead, .dead, .dead, .dead, .dead, .dead, .dead, .dead, .dead, .dead, .dead, .dead, .dead, .dead, .dead]) (by simp [fgt]) (WK.pick [0, 1, 3] (t' := [.dead, .d (.int .i64 n), .pvar 0 0, .dead, .pvar 1 0, .dead, .dead, .d (.slice 9 (pods (l.map dropP))), .dead, .dead, .sfull 2, .d (.int .i64 (i + 1 : Nat)), .dead, .dead, .dead, .dead, .dead, .dead, .dead, .dead, .dead, .dead, .dead, .dead, .dead, .dead, .dead, .dead, .dead, .dead, .dead, .dead, .dead, .dead, .dead, .dead, .dead, .dead, .dead, .dead, .dead, .dead, .dead, .dead, .dead, .dead, .dead, .dead, .dead, .dead, .dead, .dead, .dead, .dead, .dead, .dead, .dead, .dead, .dead, .dead, .dead, .dead, .dead, .dead, .dead, .dead, .dead, .dead, .dead, .dead, .dead, .dead, .dead, .dead, .dead, .dead, .dead, .dead, .dead, .dead, .dead, .dead, .dead]) (H' := [.var [.d (.int .i64 w.d), .d (.slice 2 (nds w.nodes)), .d (.slice 9 (pods (dropL w.pods l)))], .var [.d (.int .i64 0), .d .nils, .d .nils], .arr 43 2 (nds ((w.nodes.take (i + 1)).filter fun m => decide (m.1 ≠ n)))])
          (by rw [hsn, ← nds_snoc]; simp [sbl, ren_none, ren_var, ren_arr, ren_map, bel_none, bel_var, bel_arr, bel_map, AV.renL, AV.ren, AV.belL, AV.bel, rn]) (by simp) (by simp) (by simp [tellL, AV.ren, AV.renL, AV.bel, AV.belL, rn]) (by decide) (WK.now ⟨i + 1, rfl, by omega, rfl, rfl, rfl⟩))⟩
    · have e2 : w.nodes.take i = w.nodes := List.take_of_length_le (by have : ¬ i < w.nodes.length := by simpa using b
                                                                       omega)
      rw [e2]
      simp only [push_cast, simprocAttr, pods_length, nds_length, fP, pL]
      refine WK.frz 2 rfl ?_
      simp only [push_cast, simprocAttr, pods_length, nds_length, fP, pL]
      refine WK.now ?_
      simp only [push_cast, simprocAttr, pods_length, nds_length, fP, pL]
end Go.Proofs.YtcmhdpbmcgglmaaGreatDoor
end
section
set_option autoImplicit false
set_option linter.unusedVariables false
set_option linter.unusedSimpArgs false
namespace Go.Proofs.YtcmhdpbmcgglmaaGreatDoor
open Go.Abs
theorem sames_any (a b : List Pod) (ha : a.length ≤ 1000000) (hb : b.length ≤ 1000000) (sa : ∀ i, Sz (a.getD i pz).2) (sb : ∀ i, Sz (b.getD i pz).2) : ∃ r, PCall env 53 [.slice 9 (pods a), .slice 9 (pods b)] (.bool r) := by
  have hr : ∀ i, ∃ r, PCall env 28 [fP (a.getD i pz), fP (b.getD i pz)] (.bool r) := fun i =>
    same06_any (x := ((a.getD i pz).1, .slice 1 (ints (a.getD i pz).2))) (y := ((b.getD i pz).1, .slice 1 (ints (b.getD i pz).2))) (.inr ⟨_, sa i, rfl⟩) (.inr ⟨_, sb i, rfl⟩)
  obtain ⟨f, hf⟩ := Classical.skolem.1 hr
  unfold fP pL at hf
  refine ⟨B (a.length = b.length ∧ ∀ i, i < a.length → f i = true), ?_⟩
  refine acalls_of envOk Tryz.func53 rfl (by kernel_rfl) (m := 25) rfl ?_
  simp only [push_cast, simprocAttr, pods_length, nds_length, fP, pL]
  refine Kbr.mk (fun c => ?_) (fun c => ?_)
  · have c1 : ¬ a.length = b.length := by simp at c; omega
    rw [B_false fun x => c1 x.1]
    simp only [push_cast, simprocAttr, pods_length, nds_length, fP, pL]
    refine WK.now ?_
    simp only [push_cast, simprocAttr, pods_length, nds_length, fP, pL]
  · have c1 : a.length = b.length := by simp at c; omega
    simp only [push_cast, simprocAttr, pods_length, nds_length, fP, pL]
    refine ALoop.mk (fun k t H ds => ∃ i : Nat, k = a.length - i ∧ i ≤ a.length ∧ (∀ j, j < i → f j = true) ∧ t = [.d (.slice 9 (pods a)), .d (.slice 9 (pods b)), .dead, .dead, .dead, .d (.int .i64 (i : Nat)), .dead, .dead, .dead, .dead, .dead, .dead, .dead, .dead, .dead, .dead, .dead, .dead, .dead, .dead, .dead, .dead, .dead, .dead, .dead, .dead, .dead] ∧ H = [] ∧ ds = []) a.length
      (WK.fgt (t' := [.d (.slice 9 (pods a)), .d (.slice 9 (pods b)), .dead, .dead, .dead, .d (.int .i64 (0 : Nat)), .dead, .dead, .dead, .dead, .dead, .dead, .dead, .dead, .dead, .dead, .dead, .dead, .dead, .dead, .dead, .dead, .dead, .dead, .dead, .dead, .dead]) (by simp [fgt]) (WK.now ⟨0, by omega, by omega, by intro j hj; omega, rfl, rfl, rfl⟩)) ?_
    rintro k t H ds ⟨i, rfl, hi, hq, rfl, rfl, rfl⟩
    simp only [push_cast, simprocAttr, pods_length, nds_length, fP, pL]
    refine Kbr.mk (fun d => ?_) (fun d => ?_)
    · have c2 : i < a.length := by simpa using d
      have c3 : i < b.length := by omega
      have si := succ64 c2 (show a.length ≤ 4611686018427387904 by omega)
      simp only [push_cast, simprocAttr, pods_length, nds_length, fP, pL]
      refine DRegL.det [] [0, 1, 2, 3, 4, 5, 6, 7, 8, 9] [] (by kernel_rfl) (by kernel_rfl) (by kernel_rfl) ?_
      simp only [c2, c3, seg_pods, push_cast, simprocAttr, pods_length, nds_length, fP, pL]
      refine (hf i).quiet' (by first | exact ⟨.inl rfl, trivial⟩ | exact ⟨.inl rfl, .inl rfl, trivial⟩ | exact ⟨.inl rfl, .inl rfl, .inl rfl, trivial⟩ | simp [argsOk, argOk, sl, sll]) ?_
      cases hfi : f i with
      | false =>
        rw [B_false fun x => by have := x.2 i c2; rw [hfi] at this; cases this]
        simp only [push_cast, simprocAttr, pods_length, nds_length, fP, pL]
        refine WK.now ?_
        simp only [push_cast, simprocAttr, pods_length, nds_length, fP, pL]
      | true =>
        simp only [si, push_cast, simprocAttr, pods_length, nds_length, fP, pL]
        exact ⟨a.length - (i + 1), by omega, WK.fgt (t' := [.d (.slice 9 (pods a)), .d (.slice 9 (pods b)), .dead, .dead, .dead, .d (.int .i64 (i + 1 : Nat)), .dead, .dead, .dead, .dead, .dead, .dead, .dead, .dead, .dead, .dead, .dead, .dead, .dead, .dead, .dead, .dead, .dead, .dead, .dead, .dead, .dead]) (by simp [fgt]) (WK.now ⟨i + 1, rfl, by omega, below_succ hq hfi, rfl, rfl, rfl⟩)⟩
    · have c2 : ¬ i < a.length := by simpa using d
      rw [B_true ⟨c1, fun j hj => hq j (by omega)⟩]
      simp only [push_cast, simprocAttr, pods_length, nds_length, fP, pL]
      refine WK.now ?_
      simp only [push_cast, simprocAttr, pods_length, nds_length, fP, pL]
theorem placeD_any {c : Cl} (h : ClOk c) (id n ev : Int) : ∃ (y : Pd × D) (o : Option (Int × Int)), rowOk y.2 ∧ placeD c id n ev = .tup [.agg (pL' y), errF o] := by
  unfold placeD
  cases hp : lget c.L id with
  | none => exact ⟨(pod0, .nils), _, .inl rfl, rfl⟩
  | some p =>
    dsimp only
    have hok : ∀ to, rowOk ((applyP p ev to n (-1)).1, D.slice 1 (ints p.2)).2 := fun to => .inr ⟨p.2, h.L id p hp, rfl⟩
    cases lget c.N n with
    | none => exact ⟨(pod0, .nils), _, .inl rfl, rfl⟩
    | some e =>
      dsimp only
      cases nextP p.1.ph ev with
      | none => exact ⟨(pod0, .nils), _, .inl rfl, rfl⟩
      | some to =>
        dsimp only
        split
        · split
          · exact ⟨(pod0, .nils), _, .inl rfl, rfl⟩
          · exact ⟨_, none, hok to, rfl⟩
        · exact ⟨_, none, hok to, rfl⟩
theorem changeD_any {c : Cl} (h : ClOk c) (id ev dl : Int) : ∃ (y : Pd × D) (o : Option (Int × Int)), rowOk y.2 ∧ changeD c id ev dl = .tup [.agg (pL' y), errF o] := by
  unfold changeD
  cases hp : lget c.L id with
  | none => exact ⟨(pod0, .nils), _, .inl rfl, rfl⟩
  | some p =>
    dsimp only
    split
    · exact ⟨(pod0, .nils), _, .inl rfl, rfl⟩
    · cases nextP p.1.ph ev with
      | none => exact ⟨(pod0, .nils), _, .inl rfl, rfl⟩
      | some to => exact ⟨((applyP p ev to (-1) dl).1, .slice 1 (ints p.2)), _, .inr ⟨p.2, h.L id p hp, rfl⟩, rfl⟩
abbrev Opn := Int × Pod × Int × Int × List Int
def oL (o : Opn) : List D := [.int .i64 o.1, .int .i64 o.2.1.1.id, .int .i64 o.2.1.1.pr, .bool o.2.1.1.pre, .int .i64 o.2.1.1.gr, .slice 1 (ints o.2.1.2), .int .i64 o.2.1.1.ar, .int .i64 o.2.1.1.ph, .int .i64 o.2.1.1.nd, .int .i64 o.2.1.1.dl,
  .int .i64 o.2.2.1, .int .i64 o.2.2.2.1, .slice 1 (ints o.2.2.2.2)]
def oF (o : Opn) : D := .agg (oL o)
theorem sz_getD {l : List Pod} (h : ∀ q ∈ l, Sz q.2) (i : Nat) : Sz (l.getD i pz).2 := by
  rw [List.getD_eq_getElem?_getD]
  cases hi : l[i]? with
  | none => unfold Sz; decide
  | some q => exact h q (List.mem_of_getElem? hi)
theorem find_neg {c : Cl} {w : Rc} (h : RC c w) (n : Int) : rfind (kv nk w.nodes) n < 0 ↔ findN w.nodes n = none := by
  rw [rfind_neg, lget_none]
  constructor
  · intro hx
    cases hf : findN w.nodes n with
    | none => rfl
    | some m =>
      obtain ⟨h1, h2⟩ := findN_some hf
      have hk : (m.1, m) ∈ kv nk w.nodes := by
        show (m.1, m) ∈ w.nodes.map fun x => (nk x, x)
        exact List.mem_map.2 ⟨m, h1, rfl⟩
      exact absurd (List.mem_map.2 ⟨(m.1, m), hk, h2⟩) hx
  · intro hf hx
    obtain ⟨y, hy, he⟩ := List.mem_map.1 hx
    obtain ⟨m, hm, rfl⟩ := List.mem_map.1 hy
    have := h.findN_mem hm
    rw [show m.1 = n from he, hf] at this
    cases this
set_option maxRecDepth 8000 in
set_option maxHeartbeats 1000000 in
theorem play_raw {c : Cl} {w : Rc} (h : RC c w) (o : Opn) (hp : Sz o.2.1.2) (hv : o.2.2.2.2.length ≤ 1000000) :
    ACalls env 15 [.pvar 7 0, .d (fRc w), .d (oF o)] (Cs c) fun r H' => ∃ c' w' b, RC c' w' ∧ w'.pods.length ≤ w.pods.length + 1 ∧ r = .d (.tup [fRc w', .bool b]) ∧ ((∃ l, H' = Cs c' ++ l) ∨ ∃ o1 o2 o3 o4 o5 l, H' = [.map (entE fP c'.L), .var [.d (.int .i64 65536), .mapo 0], .var [.pvar 1 0, .sfull 13], .none, .map (entE fE c'.N), .var [.d (.int .i64 1024), .mapo 4], .var [.d (.int .i64 c'.d), .pvar 5 0], .var [.pvar 2 0, .pvar 6 0], o1, o2, o3, o4, o5, .arr 3 1 (ints c'.ids)] ++ l) := by
  obtain ⟨k, p, n, ev, v⟩ := o
  dsimp only at hp hv
  have hok := h.ok
  have hkR := h.okR
  have hsp : ∀ q ∈ w.pods, Sz q.2 := fun q hq => (h.gp q hq).sz
  have h65 := h.len
  unfold Cs oF oL fRc
  refine acalls_of envOk Tryz.func15 rfl (by kernel_rfl) (m := 177) rfl ?_
  simp only [push_cast, simprocAttr, pods_length, nds_length, fP, pL]
  by_cases k0 : k = 0
  · subst k0
    simp only [push_cast, simprocAttr, pods_length, nds_length, fP, pL]
    have ha := add14_ok w n v hkR.nn h.sortedN (by omega)
    have hca := cadd_ok c n v hok.d hok.nl (by omega)
    unfold fRc at ha
    refine ha.go (by first | exact ⟨.inl rfl, trivial⟩ | exact ⟨.inl rfl, .inl rfl, trivial⟩ | exact ⟨.inl rfl, .inl rfl, .inl rfl, trivial⟩ | simp [argsOk, argOk, sl, sll]) (WK.now ?_)
    simp only [push_cast, simprocAttr, pods_length, nds_length, fP, pL]
    refine DRegL.det [7, 11] [0, 1, 2, 3, 4, 5, 6, 8, 9] [(7, [0, 8, 9], [10]), (11, [], [12])] (by kernel_rfl) (by kernel_rfl) (by kernel_rfl) ?_
    simp only [push_cast, simprocAttr, pods_length, nds_length, fP, pL]
    refine hca.at [0, 1, 2, 3, 4, 5, 6, 7] (by simp [PV, Tb, Ps, Psn, Ns, Cs, Csn, fP, pL, fE, errD, errF, pgetD, nodeD, sl, pods_length, nds_length, sbl, ren_none, ren_var, ren_arr, ren_map, ren_mapb, ren_iter, ren_loop, ren_defr, bel_none, bel_var, bel_arr, bel_map, bel_mapb, bel_iter, bel_loop, bel_defr, AV.renL, AV.ren, AV.belL, AV.bel, rn]) (by simp) (by simp [PV, Tb, Ps, Psn, Ns, Cs, Csn, fP, pL, fE, errD, errF, pgetD, nodeD, sl, pods_length, nds_length]) (by simp [PV, Tb, Ps, Psn, Ns, Cs, Csn, fP, pL, fE, errD, errF, pgetD, nodeD, sl, pods_length, nds_length, AV.ren, AV.renL, rn]) (by simp [AV.belL, AV.bel]) ?_
    simp only [Cs, push_cast, simprocAttr, pods_length, nds_length, fP, pL]
    refine (told_ok (naddE c.d 1024 c.N n v) (add14 w n v).1 (add14 w n v).2).quiet' (by first | exact ⟨.inl rfl, trivial⟩ | exact ⟨.inl rfl, .inl rfl, trivial⟩ | exact ⟨.inl rfl, .inl rfl, .inl rfl, trivial⟩ | simp [argsOk, argOk, sl, sll]) ?_
    simp only [push_cast, simprocAttr, pods_length, nds_length, fP, pL]
    refine WK.now ?_
    simp only [push_cast, simprocAttr, pods_length, nds_length, fP, pL]
    exact ⟨clAdd c n v, rcAdd w n v, _, h.add n v, by rw [(rcAdd_len w n v).1]; omega, rfl, .inl ⟨_, rfl⟩⟩
  have e0 : (k == 0) = false := by simpa using k0
  by_cases k1 : k = 1
  · subst k1
    have hfi := find14_ok w n hkR.nn
    unfold fRc at hfi
    simp only [push_cast, simprocAttr, pods_length, nds_length, fP, pL]
    cases hm : findN w.nodes n with
    | none =>
      have hneg : decide (rfind (kv nk w.nodes) n < 0) = true := decide_eq_true ((find_neg h n).2 hm)
      refine (cdrop_no h n hm).at [0, 1, 2, 3, 4, 5, 6, 7] (by simp [PV, Tb, Ps, Psn, Ns, Cs, Csn, fP, pL, fE, errD, errF, pgetD, nodeD, sl, pods_length, nds_length, sbl, ren_none, ren_var, ren_arr, ren_map, ren_mapb, ren_iter, ren_loop, ren_defr, bel_none, bel_var, bel_arr, bel_map, bel_mapb, bel_iter, bel_loop, bel_defr, AV.renL, AV.ren, AV.belL, AV.bel, rn]) (by simp) (by simp [PV, Tb, Ps, Psn, Ns, Cs, Csn, fP, pL, fE, errD, errF, pgetD, nodeD, sl, pods_length, nds_length]) (by simp [PV, Tb, Ps, Psn, Ns, Cs, Csn, fP, pL, fE, errD, errF, pgetD, nodeD, sl, pods_length, nds_length, AV.ren, AV.renL, rn]) (by simp [AV.belL, AV.bel]) (WK.now ?_)
      simp only [Cs, errF, push_cast, simprocAttr, pods_length, nds_length, fP, pL]
      refine hfi.go (by first | exact ⟨.inl rfl, trivial⟩ | exact ⟨.inl rfl, .inl rfl, trivial⟩ | exact ⟨.inl rfl, .inl rfl, .inl rfl, trivial⟩ | simp [argsOk, argOk, sl, sll]) (WK.now ?_)
      simp only [hneg, push_cast, simprocAttr, pods_length, nds_length, fP, pL]
      refine DRegL.det [8] [0, 1, 2, 3, 4, 5, 6, 7] [(8, [4, 5, 6, 7], [9])] (by kernel_rfl) (by kernel_rfl) (by kernel_rfl) ?_
      simp only [push_cast, simprocAttr, pods_length, nds_length, fP, pL]
      refine (told_ok (some (5, 0)) 5 0).quiet' (by first | exact ⟨.inl rfl, trivial⟩ | exact ⟨.inl rfl, .inl rfl, trivial⟩ | exact ⟨.inl rfl, .inl rfl, .inl rfl, trivial⟩ | simp [argsOk, argOk, sl, sll]) ?_
      rw [show toldB (some (5, 0)) 5 0 = true from rfl]
      simp only [push_cast, simprocAttr, pods_length, nds_length, fP, pL]
      refine WK.now ?_
      simp only [push_cast, simprocAttr, pods_length, nds_length, fP, pL]
      exact ⟨c, w, _, h, by omega, rfl, .inl ⟨_, rfl⟩⟩
    | some m =>
      have hneg : decide (rfind (kv nk w.nodes) n < 0) = false := decide_eq_false fun hx => by rw [(find_neg h n).1 hx] at hm; cases hm
      have hdr := drop14_ok h n
      have hdz : ∀ q ∈ (w.pods.filter (onP n)).map dropP, Sz q.2 := fun q hq => by
        obtain ⟨x, hx, rfl⟩ := List.mem_map.1 hq
        exact hsp x (List.mem_filter.1 hx).1
      obtain ⟨rb, hsm⟩ := sames_any ((w.pods.filter (onP n)).map dropP) ((w.pods.filter (onP n)).map dropP) (by
        rw [List.length_map]; exact Nat.le_trans (List.length_filter_le _ _) (by omega)) (by
        rw [List.length_map]; exact Nat.le_trans (List.length_filter_le _ _) (by omega)) (sz_getD hdz) (sz_getD hdz)
      refine (cdrop_ok h n hm).atK [0, 1, 2, 3, 4, 5, 6, 7] (by simp [PV, Tb, Ps, Psn, Ns, Cs, Csn, fP, pL, fE, errD, errF, pgetD, nodeD, sl, pods_length, nds_length, sbl, ren_none, ren_var, ren_arr, ren_map, ren_mapb, ren_iter, ren_loop, ren_defr, bel_none, bel_var, bel_arr, bel_map, bel_mapb, bel_iter, bel_loop, bel_defr, AV.renL, AV.ren, AV.belL, AV.bel, rn]) (by simp) (by simp [PV, Tb, Ps, Psn, Ns, Cs, Csn, fP, pL, fE, errD, errF, pgetD, nodeD, sl, pods_length, nds_length]) (by simp [PV, Tb, Ps, Psn, Ns, Cs, Csn, fP, pL, fE, errD, errF, pgetD, nodeD, sl, pods_length, nds_length, AV.ren, AV.renL, rn]) (by simp [AV.belL, AV.bel]) ?_
      rintro r H' ⟨c', h', rfl, rfl⟩
      refine WK.now ?_
      simp only [Cs, push_cast, simprocAttr, pods_length, nds_length, fP, pL]
      refine hfi.go (by first | exact ⟨.inl rfl, trivial⟩ | exact ⟨.inl rfl, .inl rfl, trivial⟩ | exact ⟨.inl rfl, .inl rfl, .inl rfl, trivial⟩ | simp [argsOk, argOk, sl, sll]) (WK.now ?_)
      simp only [hneg, push_cast, simprocAttr, pods_length, nds_length, fP, pL]
      unfold fRc at hdr
      refine hdr.go (by first | exact ⟨.inl rfl, trivial⟩ | exact ⟨.inl rfl, .inl rfl, trivial⟩ | exact ⟨.inl rfl, .inl rfl, .inl rfl, trivial⟩ | simp [argsOk, argOk, sl, sll]) (WK.now ?_)
      simp only [push_cast, simprocAttr, pods_length, nds_length, fP, pL]
      refine DRegL.det [8] [0, 1, 2, 3, 4, 5, 6, 7] [(8, [7], [9])] (by kernel_rfl) (by kernel_rfl) (by kernel_rfl) ?_
      simp only [push_cast, simprocAttr, pods_length, nds_length, fP, pL]
      refine hsm.quiet' (by first | exact ⟨.inl rfl, trivial⟩ | exact ⟨.inl rfl, .inl rfl, trivial⟩ | exact ⟨.inl rfl, .inl rfl, .inl rfl, trivial⟩ | simp [argsOk, argOk, sl, sll]) ?_
      simp only [push_cast, simprocAttr, pods_length, nds_length, fP, pL]
      refine WK.now ?_
      simp only [push_cast, simprocAttr, pods_length, nds_length, fP, pL]
      exact ⟨c', rcDrop w n, _, h', by show (dropL w.pods _).length ≤ _; rw [dropL_len]; omega, rfl, .inl ⟨_, rfl⟩⟩
  have e1 : (k == 1) = false := by simpa using k1
  by_cases k2 : k = 2
  · subst k2
    have hsb := sub14_ok w p hkR.np (by unfold Sz at hp; omega)
    have hrs := h.submit p
    have hln := (rcSubmit_len w p).2
    have hsz2 : Sz (rcSubmit w p).pods := by unfold Sz; omega
    have hsp2 : ∀ q ∈ (rcSubmit w p).pods, Sz q.2 := fun q hq => (hrs.gp q hq).sz
    unfold fRc fP pL at hsb
    simp only [push_cast, simprocAttr, pods_length, nds_length, fP, pL]
    cases he : (clSubmit c p).2 with
    | some e =>
      rw [clSubmit_err he] at hrs
      have hy : rowOk ((pod0, D.nils) : Pd × D).2 := .inl rfl
      refine (csubmit_err c p hok hp e he).at [0, 1, 2, 3, 4, 5, 6, 7] (by simp [PV, Tb, Ps, Psn, Ns, Cs, Csn, fP, pL, fE, errD, errF, pgetD, nodeD, sl, pods_length, nds_length, sbl, ren_none, ren_var, ren_arr, ren_map, ren_mapb, ren_iter, ren_loop, ren_defr, bel_none, bel_var, bel_arr, bel_map, bel_mapb, bel_iter, bel_loop, bel_defr, AV.renL, AV.ren, AV.belL, AV.bel, rn]) (by simp) (by simp [PV, Tb, Ps, Psn, Ns, Cs, Csn, fP, pL, fE, errD, errF, pgetD, nodeD, sl, pods_length, nds_length]) (by simp [PV, Tb, Ps, Psn, Ns, Cs, Csn, fP, pL, fE, errD, errF, pgetD, nodeD, sl, pods_length, nds_length, AV.ren, AV.renL, rn]) (by simp [AV.belL, AV.bel]) (WK.now ?_)
      simp only [Cs, errF, zP, push_cast, simprocAttr, pods_length, nds_length, fP, pL]
      refine hsb.go (by first | exact ⟨.inl rfl, trivial⟩ | exact ⟨.inl rfl, .inl rfl, trivial⟩ | exact ⟨.inl rfl, .inl rfl, .inl rfl, trivial⟩ | simp [argsOk, argOk, sl, sll]) (WK.now ?_)
      simp only [push_cast, simprocAttr, pods_length, nds_length, fP, pL]
      refine DRegL.det [15] [0, 1, 2, 3, 4, 5, 6, 7, 8, 9, 10, 11, 12, 13, 14] [(15, [14], [16])] (by kernel_rfl) (by kernel_rfl) (by kernel_rfl) ?_
      simp only [push_cast, simprocAttr, pods_length, nds_length, fP, pL]
      have ht := told_ok (some e) (sub14 w p).1 (sub14 w p).2
      obtain ⟨z, hz, haf⟩ := after_any (rcSubmit w p) p.1.id (sub14 w p).1 (by first | exact hsz2 | (unfold Sz at *; omega)) hsp2
      obtain ⟨rb, hsm⟩ := same06_any (x := (pod0, .nils)) (y := z) hy hz
      unfold fRc pL' at haf
      unfold pL' at hsm
      unfold errF at ht
      cases hb : toldB (some e) (sub14 w p).1 (sub14 w p).2 with
      | false =>
        rw [hb] at ht
        refine ht.quiet' (by first | exact ⟨.inl rfl, trivial⟩ | exact ⟨.inl rfl, .inl rfl, trivial⟩ | exact ⟨.inl rfl, .inl rfl, .inl rfl, trivial⟩ | simp [argsOk, argOk, sl, sll]) ?_
        simp only [push_cast, simprocAttr, pods_length, nds_length, fP, pL]
        refine WK.now ?_
        simp only [push_cast, simprocAttr, pods_length, nds_length, fP, pL]
        exact ⟨c, rcSubmit w p, _, hrs, hln, rfl, .inl ⟨_, rfl⟩⟩
      | true =>
        rw [hb] at ht
        refine ht.quiet' (by first | exact ⟨.inl rfl, trivial⟩ | exact ⟨.inl rfl, .inl rfl, trivial⟩ | exact ⟨.inl rfl, .inl rfl, .inl rfl, trivial⟩ | simp [argsOk, argOk, sl, sll]) ?_
        simp only [push_cast, simprocAttr, pods_length, nds_length, fP, pL]
        refine haf.quiet' (by first | exact ⟨.inl rfl, trivial⟩ | exact ⟨.inl rfl, .inl rfl, trivial⟩ | exact ⟨.inl rfl, .inl rfl, .inl rfl, trivial⟩ | simp [argsOk, argOk, sl, sll]) ?_
        simp only [push_cast, simprocAttr, pods_length, nds_length, fP, pL]
        refine hsm.quiet' (by first | exact ⟨.inl rfl, trivial⟩ | exact ⟨.inl rfl, .inl rfl, trivial⟩ | exact ⟨.inl rfl, .inl rfl, .inl rfl, trivial⟩ | simp [argsOk, argOk, sl, sll]) ?_
        simp only [push_cast, simprocAttr, pods_length, nds_length, fP, pL]
        refine WK.now ?_
        simp only [push_cast, simprocAttr, pods_length, nds_length, fP, pL]
        exact ⟨c, rcSubmit w p, _, hrs, hln, rfl, .inl ⟨_, rfl⟩⟩
    | none =>
      have hy : rowOk ((submitP p c.ids.length).1, D.slice 1 (ints p.2)).2 := .inr ⟨p.2, hp, rfl⟩
      refine (csubmit_new c p hok hp he).at [0, 1, 2, 3, 4, 5, 6, 7] (by simp [PV, Tb, Ps, Psn, Ns, Cs, Csn, fP, pL, fE, errD, errF, pgetD, nodeD, sl, pods_length, nds_length, sbl, ren_none, ren_var, ren_arr, ren_map, ren_mapb, ren_iter, ren_loop, ren_defr, bel_none, bel_var, bel_arr, bel_map, bel_mapb, bel_iter, bel_loop, bel_defr, AV.renL, AV.ren, AV.belL, AV.bel, rn]) (by simp) (by simp [PV, Tb, Ps, Psn, Ns, Cs, Csn, fP, pL, fE, errD, errF, pgetD, nodeD, sl, pods_length, nds_length]) (by simp [PV, Tb, Ps, Psn, Ns, Cs, Csn, fP, pL, fE, errD, errF, pgetD, nodeD, sl, pods_length, nds_length, AV.ren, AV.renL, rn]) (by simp [AV.belL, AV.bel]) (WK.now ?_)
      simp only [Csn, push_cast, simprocAttr, pods_length, nds_length, fP, pL]
      refine hsb.go (by first | exact ⟨.inl rfl, trivial⟩ | exact ⟨.inl rfl, .inl rfl, trivial⟩ | exact ⟨.inl rfl, .inl rfl, .inl rfl, trivial⟩ | simp [argsOk, argOk, sl, sll]) (WK.now ?_)
      simp only [push_cast, simprocAttr, pods_length, nds_length, fP, pL]
      refine DRegL.det [15] [0, 1, 2, 3, 4, 5, 6, 7, 8, 9, 10, 11, 12, 13, 14] [(15, [14], [16])] (by kernel_rfl) (by kernel_rfl) (by kernel_rfl) ?_
      simp only [push_cast, simprocAttr, pods_length, nds_length, fP, pL]
      have ht := told_ok none (sub14 w p).1 (sub14 w p).2
      obtain ⟨z, hz, haf⟩ := after_any (rcSubmit w p) p.1.id (sub14 w p).1 (by first | exact hsz2 | (unfold Sz at *; omega)) hsp2
      obtain ⟨rb, hsm⟩ := same06_any (x := ((submitP p c.ids.length).1, .slice 1 (ints p.2))) (y := z) hy hz
      unfold fRc pL' at haf
      unfold pL' at hsm
      unfold errF at ht
      cases hb : toldB none (sub14 w p).1 (sub14 w p).2 with
      | false =>
        rw [hb] at ht
        refine ht.quiet' (by first | exact ⟨.inl rfl, trivial⟩ | exact ⟨.inl rfl, .inl rfl, trivial⟩ | exact ⟨.inl rfl, .inl rfl, .inl rfl, trivial⟩ | simp [argsOk, argOk, sl, sll]) ?_
        simp only [push_cast, simprocAttr, pods_length, nds_length, fP, pL]
        refine WK.now ?_
        simp only [push_cast, simprocAttr, pods_length, nds_length, fP, pL]
        exact ⟨(clSubmit c p).1, rcSubmit w p, _, hrs, hln, rfl, .inr ⟨_, _, _, _, _, _, rfl⟩⟩
      | true =>
        rw [hb] at ht
        refine ht.quiet' (by first | exact ⟨.inl rfl, trivial⟩ | exact ⟨.inl rfl, .inl rfl, trivial⟩ | exact ⟨.inl rfl, .inl rfl, .inl rfl, trivial⟩ | simp [argsOk, argOk, sl, sll]) ?_
        simp only [push_cast, simprocAttr, pods_length, nds_length, fP, pL]
        refine haf.quiet' (by first | exact ⟨.inl rfl, trivial⟩ | exact ⟨.inl rfl, .inl rfl, trivial⟩ | exact ⟨.inl rfl, .inl rfl, .inl rfl, trivial⟩ | simp [argsOk, argOk, sl, sll]) ?_
        simp only [push_cast, simprocAttr, pods_length, nds_length, fP, pL]
        refine hsm.quiet' (by first | exact ⟨.inl rfl, trivial⟩ | exact ⟨.inl rfl, .inl rfl, trivial⟩ | exact ⟨.inl rfl, .inl rfl, .inl rfl, trivial⟩ | simp [argsOk, argOk, sl, sll]) ?_
        simp only [push_cast, simprocAttr, pods_length, nds_length, fP, pL]
        refine WK.now ?_
        simp only [push_cast, simprocAttr, pods_length, nds_length, fP, pL]
        exact ⟨(clSubmit c p).1, rcSubmit w p, _, hrs, hln, rfl, .inr ⟨_, _, _, _, _, _, rfl⟩⟩
  have e2 : (k == 2) = false := by simpa using k2
  by_cases k3 : k = 3
  · subst k3
    obtain ⟨y, oe, hy, hD⟩ := placeD_any hok p.1.id n 1
    obtain ⟨a1, a2, hpl⟩ := place14_ok w p.1.id n 1 hkR
    have hrs := h.bind p.1.id n
    have hln : (rcPlace w p.1.id n 1).pods.length ≤ w.pods.length + 1 := by have := rcPlace_len w p.1.id n 1; omega
    have hsz2 : Sz (rcPlace w p.1.id n 1).pods := by unfold Sz; omega
    have hsp2 : ∀ q ∈ (rcPlace w p.1.id n 1).pods, Sz q.2 := fun q hq => (hrs.gp q hq).sz
    have hcb := cbind_ok c p.1.id n hok
    rw [hD] at hcb
    unfold pL' at hcb
    unfold fRc at hpl
    simp only [push_cast, simprocAttr, pods_length, nds_length, fP, pL]
    refine hcb.at [0, 1, 2, 3, 4, 5, 6, 7] (by simp [PV, Tb, Ps, Psn, Ns, Cs, Csn, fP, pL, fE, errD, errF, pgetD, nodeD, sl, pods_length, nds_length, sbl, ren_none, ren_var, ren_arr, ren_map, ren_mapb, ren_iter, ren_loop, ren_defr, bel_none, bel_var, bel_arr, bel_map, bel_mapb, bel_iter, bel_loop, bel_defr, AV.renL, AV.ren, AV.belL, AV.bel, rn]) (by simp) (by simp [PV, Tb, Ps, Psn, Ns, Cs, Csn, fP, pL, fE, errD, errF, pgetD, nodeD, sl, pods_length, nds_length]) (by simp [PV, Tb, Ps, Psn, Ns, Cs, Csn, fP, pL, fE, errD, errF, pgetD, nodeD, sl, pods_length, nds_length, AV.ren, AV.renL, rn]) (by simp [AV.belL, AV.bel]) (WK.now ?_)
    simp only [Cs, push_cast, simprocAttr, pods_length, nds_length, fP, pL]
    refine hpl.go (by first | exact ⟨.inl rfl, trivial⟩ | exact ⟨.inl rfl, .inl rfl, trivial⟩ | exact ⟨.inl rfl, .inl rfl, .inl rfl, trivial⟩ | simp [argsOk, argOk, sl, sll]) (WK.now ?_)
    simp only [push_cast, simprocAttr, pods_length, nds_length, fP, pL]
    refine DRegL.det [15] [0, 1, 2, 3, 4, 5, 6, 7, 8, 9, 10, 11, 12, 13, 14] [(15, [14], [16])] (by kernel_rfl) (by kernel_rfl) (by kernel_rfl) ?_
    simp only [push_cast, simprocAttr, pods_length, nds_length, fP, pL]
    have ht := told_ok oe a1 a2
    obtain ⟨z, hz, haf⟩ := after_any (rcPlace w p.1.id n 1) p.1.id a1 hsz2 hsp2
    obtain ⟨rb, hsm⟩ := same06_any (x := y) (y := z) hy hz
    unfold fRc pL' at haf
    unfold pL' at hsm
    cases hb : toldB oe a1 a2 with
    | false =>
      rw [hb] at ht
      refine ht.quiet' (by first | exact ⟨.inl rfl, trivial⟩ | exact ⟨.inl rfl, .inl rfl, trivial⟩ | exact ⟨.inl rfl, .inl rfl, .inl rfl, trivial⟩ | simp [argsOk, argOk, sl, sll]) ?_
      simp only [push_cast, simprocAttr, pods_length, nds_length, fP, pL]
      refine WK.now ?_
      simp only [push_cast, simprocAttr, pods_length, nds_length, fP, pL]
      exact ⟨(clPlace c p.1.id n 1).1, rcPlace w p.1.id n 1, _, hrs, hln, rfl, .inl ⟨_, rfl⟩⟩
    | true =>
      rw [hb] at ht
      refine ht.quiet' (by first | exact ⟨.inl rfl, trivial⟩ | exact ⟨.inl rfl, .inl rfl, trivial⟩ | exact ⟨.inl rfl, .inl rfl, .inl rfl, trivial⟩ | simp [argsOk, argOk, sl, sll]) ?_
      simp only [push_cast, simprocAttr, pods_length, nds_length, fP, pL]
      refine haf.quiet' (by first | exact ⟨.inl rfl, trivial⟩ | exact ⟨.inl rfl, .inl rfl, trivial⟩ | exact ⟨.inl rfl, .inl rfl, .inl rfl, trivial⟩ | simp [argsOk, argOk, sl, sll]) ?_
      simp only [push_cast, simprocAttr, pods_length, nds_length, fP, pL]
      refine hsm.quiet' (by first | exact ⟨.inl rfl, trivial⟩ | exact ⟨.inl rfl, .inl rfl, trivial⟩ | exact ⟨.inl rfl, .inl rfl, .inl rfl, trivial⟩ | simp [argsOk, argOk, sl, sll]) ?_
      simp only [push_cast, simprocAttr, pods_length, nds_length, fP, pL]
      refine WK.now ?_
      simp only [push_cast, simprocAttr, pods_length, nds_length, fP, pL]
      exact ⟨(clPlace c p.1.id n 1).1, rcPlace w p.1.id n 1, _, hrs, hln, rfl, .inl ⟨_, rfl⟩⟩
  have e3 : (k == 3) = false := by simpa using k3
  by_cases k4 : k = 4
  · subst k4
    obtain ⟨y, oe, hy, hD⟩ := placeD_any hok p.1.id n 2
    obtain ⟨a1, a2, hpl⟩ := place14_ok w p.1.id n 2 hkR
    have hrs := h.claim p.1.id n
    have hln : (rcPlace w p.1.id n 2).pods.length ≤ w.pods.length + 1 := by have := rcPlace_len w p.1.id n 2; omega
    have hsz2 : Sz (rcPlace w p.1.id n 2).pods := by unfold Sz; omega
    have hsp2 : ∀ q ∈ (rcPlace w p.1.id n 2).pods, Sz q.2 := fun q hq => (hrs.gp q hq).sz
    have hcb := cclaim_ok c p.1.id n hok
    rw [hD] at hcb
    unfold pL' at hcb
    unfold fRc at hpl
    simp only [push_cast, simprocAttr, pods_length, nds_length, fP, pL]
    refine hcb.at [0, 1, 2, 3, 4, 5, 6, 7] (by simp [PV, Tb, Ps, Psn, Ns, Cs, Csn, fP, pL, fE, errD, errF, pgetD, nodeD, sl, pods_length, nds_length, sbl, ren_none, ren_var, ren_arr, ren_map, ren_mapb, ren_iter, ren_loop, ren_defr, bel_none, bel_var, bel_arr, bel_map, bel_mapb, bel_iter, bel_loop, bel_defr, AV.renL, AV.ren, AV.belL, AV.bel, rn]) (by simp) (by simp [PV, Tb, Ps, Psn, Ns, Cs, Csn, fP, pL, fE, errD, errF, pgetD, nodeD, sl, pods_length, nds_length]) (by simp [PV, Tb, Ps, Psn, Ns, Cs, Csn, fP, pL, fE, errD, errF, pgetD, nodeD, sl, pods_length, nds_length, AV.ren, AV.renL, rn]) (by simp [AV.belL, AV.bel]) (WK.now ?_)
    simp only [Cs, push_cast, simprocAttr, pods_length, nds_length, fP, pL]
    refine hpl.go (by first | exact ⟨.inl rfl, trivial⟩ | exact ⟨.inl rfl, .inl rfl, trivial⟩ | exact ⟨.inl rfl, .inl rfl, .inl rfl, trivial⟩ | simp [argsOk, argOk, sl, sll]) (WK.now ?_)
    simp only [push_cast, simprocAttr, pods_length, nds_length, fP, pL]
    refine DRegL.det [15] [0, 1, 2, 3, 4, 5, 6, 7, 8, 9, 10, 11, 12, 13, 14] [(15, [14], [16])] (by kernel_rfl) (by kernel_rfl) (by kernel_rfl) ?_
    simp only [push_cast, simprocAttr, pods_length, nds_length, fP, pL]
    have ht := told_ok oe a1 a2
    obtain ⟨z, hz, haf⟩ := after_any (rcPlace w p.1.id n 2) p.1.id a1 hsz2 hsp2
    obtain ⟨rb, hsm⟩ := same06_any (x := y) (y := z) hy hz
    unfold fRc pL' at haf
    unfold pL' at hsm
    cases hb : toldB oe a1 a2 with
    | false =>
      rw [hb] at ht
      refine ht.quiet' (by first | exact ⟨.inl rfl, trivial⟩ | exact ⟨.inl rfl, .inl rfl, trivial⟩ | exact ⟨.inl rfl, .inl rfl, .inl rfl, trivial⟩ | simp [argsOk, argOk, sl, sll]) ?_
      simp only [push_cast, simprocAttr, pods_length, nds_length, fP, pL]
      refine WK.now ?_
      simp only [push_cast, simprocAttr, pods_length, nds_length, fP, pL]
      exact ⟨(clPlace c p.1.id n 2).1, rcPlace w p.1.id n 2, _, hrs, hln, rfl, .inl ⟨_, rfl⟩⟩
    | true =>
      rw [hb] at ht
      refine ht.quiet' (by first | exact ⟨.inl rfl, trivial⟩ | exact ⟨.inl rfl, .inl rfl, trivial⟩ | exact ⟨.inl rfl, .inl rfl, .inl rfl, trivial⟩ | simp [argsOk, argOk, sl, sll]) ?_
      simp only [push_cast, simprocAttr, pods_length, nds_length, fP, pL]
      refine haf.quiet' (by first | exact ⟨.inl rfl, trivial⟩ | exact ⟨.inl rfl, .inl rfl, trivial⟩ | exact ⟨.inl rfl, .inl rfl, .inl rfl, trivial⟩ | simp [argsOk, argOk, sl, sll]) ?_
      simp only [push_cast, simprocAttr, pods_length, nds_length, fP, pL]
      refine hsm.quiet' (by first | exact ⟨.inl rfl, trivial⟩ | exact ⟨.inl rfl, .inl rfl, trivial⟩ | exact ⟨.inl rfl, .inl rfl, .inl rfl, trivial⟩ | simp [argsOk, argOk, sl, sll]) ?_
      simp only [push_cast, simprocAttr, pods_length, nds_length, fP, pL]
      refine WK.now ?_
      simp only [push_cast, simprocAttr, pods_length, nds_length, fP, pL]
      exact ⟨(clPlace c p.1.id n 2).1, rcPlace w p.1.id n 2, _, hrs, hln, rfl, .inl ⟨_, rfl⟩⟩
  have e4 : (k == 4) = false := by simpa using k4
  obtain ⟨y, oe, hy, hD⟩ := changeD_any hok p.1.id ev 9
  obtain ⟨a1, a2, hpl⟩ := change14_ok w p.1.id ev 9 hkR
  have hrs := h.change p.1.id ev 9
  have hln : (rcChange w p.1.id ev 9).pods.length ≤ w.pods.length + 1 := by have := rcChange_len w p.1.id ev 9; omega
  have hsz2 : Sz (rcChange w p.1.id ev 9).pods := by unfold Sz; omega
  have hsp2 : ∀ q ∈ (rcChange w p.1.id ev 9).pods, Sz q.2 := fun q hq => (hrs.gp q hq).sz
  have hcb := cchange_ok c p.1.id ev 9 hok
  rw [hD] at hcb
  unfold pL' at hcb
  unfold fRc at hpl
  simp only [e0, e1, e2, e3, e4, push_cast, simprocAttr, pods_length, nds_length, fP, pL]
  refine hcb.at [0, 1, 2, 3, 4, 5, 6, 7] (by simp [PV, Tb, Ps, Psn, Ns, Cs, Csn, fP, pL, fE, errD, errF, pgetD, nodeD, sl, pods_length, nds_length, sbl, ren_none, ren_var, ren_arr, ren_map, ren_mapb, ren_iter, ren_loop, ren_defr, bel_none, bel_var, bel_arr, bel_map, bel_mapb, bel_iter, bel_loop, bel_defr, AV.renL, AV.ren, AV.belL, AV.bel, rn]) (by simp) (by simp [PV, Tb, Ps, Psn, Ns, Cs, Csn, fP, pL, fE, errD, errF, pgetD, nodeD, sl, pods_length, nds_length]) (by simp [PV, Tb, Ps, Psn, Ns, Cs, Csn, fP, pL, fE, errD, errF, pgetD, nodeD, sl, pods_length, nds_length, AV.ren, AV.renL, rn]) (by simp [AV.belL, AV.bel]) (WK.now ?_)
  simp only [Cs, push_cast, simprocAttr, pods_length, nds_length, fP, pL]
  refine hpl.go (by first | exact ⟨.inl rfl, trivial⟩ | exact ⟨.inl rfl, .inl rfl, trivial⟩ | exact ⟨.inl rfl, .inl rfl, .inl rfl, trivial⟩ | simp [argsOk, argOk, sl, sll]) (WK.now ?_)
  simp only [push_cast, simprocAttr, pods_length, nds_length, fP, pL]
  refine DRegL.det [15] [0, 1, 2, 3, 4, 5, 6, 7, 8, 9, 10, 11, 12, 13, 14] [(15, [14], [16])] (by kernel_rfl) (by kernel_rfl) (by kernel_rfl) ?_
  simp only [push_cast, simprocAttr, pods_length, nds_length, fP, pL]
  have ht := told_ok oe a1 a2
  obtain ⟨z, hz, haf⟩ := after_any (rcChange w p.1.id ev 9) p.1.id a1 hsz2 hsp2
  obtain ⟨rb, hsm⟩ := same06_any (x := y) (y := z) hy hz
  unfold fRc pL' at haf
  unfold pL' at hsm
  cases hb : toldB oe a1 a2 with
  | false =>
    rw [hb] at ht
    refine ht.quiet' (by first | exact ⟨.inl rfl, trivial⟩ | exact ⟨.inl rfl, .inl rfl, trivial⟩ | exact ⟨.inl rfl, .inl rfl, .inl rfl, trivial⟩ | simp [argsOk, argOk, sl, sll]) ?_
    simp only [push_cast, simprocAttr, pods_length, nds_length, fP, pL]
    refine WK.now ?_
    simp only [push_cast, simprocAttr, pods_length, nds_length, fP, pL]
    exact ⟨(clChange c p.1.id ev 9).1, rcChange w p.1.id ev 9, _, hrs, hln, rfl, .inl ⟨_, rfl⟩⟩
  | true =>
    rw [hb] at ht
    refine ht.quiet' (by first | exact ⟨.inl rfl, trivial⟩ | exact ⟨.inl rfl, .inl rfl, trivial⟩ | exact ⟨.inl rfl, .inl rfl, .inl rfl, trivial⟩ | simp [argsOk, argOk, sl, sll]) ?_
    simp only [push_cast, simprocAttr, pods_length, nds_length, fP, pL]
    refine haf.quiet' (by first | exact ⟨.inl rfl, trivial⟩ | exact ⟨.inl rfl, .inl rfl, trivial⟩ | exact ⟨.inl rfl, .inl rfl, .inl rfl, trivial⟩ | simp [argsOk, argOk, sl, sll]) ?_
    simp only [push_cast, simprocAttr, pods_length, nds_length, fP, pL]
    refine hsm.quiet' (by first | exact ⟨.inl rfl, trivial⟩ | exact ⟨.inl rfl, .inl rfl, trivial⟩ | exact ⟨.inl rfl, .inl rfl, .inl rfl, trivial⟩ | simp [argsOk, argOk, sl, sll]) ?_
    simp only [push_cast, simprocAttr, pods_length, nds_length, fP, pL]
    refine WK.now ?_
    simp only [push_cast, simprocAttr, pods_length, nds_length, fP, pL]
    exact ⟨(clChange c p.1.id ev 9).1, rcChange w p.1.id ev 9, _, hrs, hln, rfl, .inl ⟨_, rfl⟩⟩
theorem play_ok {c : Cl} {w : Rc} (h : RC c w) (o : Opn) (hp : Sz o.2.1.2) (hv : o.2.2.2.2.length ≤ 1000000) :
    ACalls env 15 [.pvar 7 0, .d (fRc w), .d (oF o)] (Cs c) fun r H' => ∃ c' w' b, RC c' w' ∧ w'.pods.length ≤ w.pods.length + 1 ∧ r = .d (.tup [fRc w', .bool b]) ∧ (H' = Cs c' ∨ H' = Csn c') :=
  (play_raw h o hp hv).retell (by
    rintro r H' ⟨c', w', b, h', hl, rfl, ⟨l, rfl⟩ | ⟨o1, o2, o3, o4, o5, l, rfl⟩⟩
    · exact WK.pick [0, 1, 2, 3, 4, 5, 6, 7] (t' := [.d (.tup [fRc w', .bool b])]) (H' := Cs c') (by simp [Cs, sbl, ren_none, ren_var, ren_arr, ren_map, bel_none, bel_var, bel_arr, bel_map, AV.renL, AV.ren, AV.belL, AV.bel, rn]) (by simp) (by simp [Cs]) (by simp [tellL, AV.ren, AV.renL, AV.bel, AV.belL, rn]) (by intro id h; rcases id with _ | _ | _ | _ | _ | _ | _ | _ | id <;> first | rfl | exact absurd h (by simp [Cs]))
        (WK.now ⟨_, rfl, c', w', b, h', hl, rfl, .inl rfl⟩)
    · exact WK.pick [0, 1, 2, 3, 4, 5, 6, 7, 13] (t' := [.d (.tup [fRc w', .bool b])]) (H' := Csn c') (by simp [Csn, sbl, ren_none, ren_var, ren_arr, ren_map, bel_none, bel_var, bel_arr, bel_map, AV.renL, AV.ren, AV.belL, AV.bel, rn]) (by simp) (by simp) (by simp [tellL, AV.ren, AV.renL, AV.bel, AV.belL, rn]) (by intro id h; rcases id with _ | _ | _ | _ | _ | _ | _ | _ | id <;> first | rfl | exact absurd h (by simp [Cs]))
        (WK.now ⟨_, rfl, c', w', b, h', hl, rfl, .inr rfl⟩))
end Go.Proofs.YtcmhdpbmcgglmaaGreatDoor
end
