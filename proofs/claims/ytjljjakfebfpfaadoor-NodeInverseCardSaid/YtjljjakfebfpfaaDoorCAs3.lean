import Derived.Test.YtjljjakfebfpfaaDoorCAs2
set_option autoImplicit false
set_option linter.unusedVariables false
set_option linter.unusedSimpArgs false
namespace Go.Proofs.YtjljjakfebfpfaaDoor
open Go.RowKit Go.Extern.Stop Go.Stop Go.Extern Go.Abs

theorem as_valueOfPF (t : Addr) (w : World) : (ReflectliteValue.unpack (.iface 123 (.pointer (some t)))).run Tryd.prog w
    = .ok (.agg #[.pointer (some ⟨1, 123, none⟩), .pointer (some ⟨w.heap.size, 0, none⟩), .int .u64 150]) (w.alloc (.cells #[.pointer (some t)] 123)) := by kernel_rfl
theorem as_typePF (a : Addr) (w : World) : (ReflectliteValue.methodAny (ReflectliteValue.valueError "reflectlite.Value.Type" 0) (fun t _ _ _ => ReflectliteType.toType t) #[.agg #[.pointer (some ⟨1, 123, none⟩), .pointer (some a), .int .u64 150]]).run Tryd.prog w
    = .ok (.iface 138 (.agg #[.pointer (some ⟨1, 123, none⟩)])) w := by kernel_rfl
theorem as_kindPF (w : World) : ((ReflectliteType.abiMethod fun t => (fun a : Nat => Value.int IntKind.u8 (a : Int)) <$> Rtype.kind t) #[.pointer (some ⟨1, 123, none⟩)]).run Tryd.prog w = .ok (.int .u8 22) w := by kernel_rfl
theorem as_kindF (w : World) : ((ReflectliteType.abiMethod fun t => (fun a : Nat => Value.int IntKind.u8 (a : Int)) <$> Rtype.kind t) #[.pointer (some ⟨1, 122, none⟩)]).run Tryd.prog w = .ok (.int .u8 25) w := by kernel_rfl
theorem as_partsPF (a : Addr) (w : World) : (ReflectliteValue.parts (.agg #[.pointer (some ⟨1, 123, none⟩), .pointer (some a), .int .u64 150])).run Tryd.prog w = .ok (some (123, a, 150)) w := by kernel_rfl
theorem as_isNilPF (a p : Addr) (W : World) (ha : W.cell? a = some (.pointer (some p))) :
    (ReflectliteValue.method (ReflectliteValue.valueError "reflectlite.Value.IsNil" 0) ReflectliteValue.isNil #[.agg #[.pointer (some ⟨1, 123, none⟩), .pointer (some a), .int .u64 150]]).run Tryd.prog W = .ok (.bool false) W := by
  rw [as_rlm]
  simp only [Sem.run_bind, as_partsPF, Result.andThen]
  simp [ReflectliteValue.isNil, loadVar, isAgg, underlying, Tryd.underlying123, ha, Result.andThen]
theorem as_elemPF (w : World) : (ReflectliteType.method ReflectliteType.elem #[.agg #[.pointer (some ⟨1, 123, none⟩)]]).run Tryd.prog w = .ok (.iface 138 (.agg #[.pointer (some ⟨1, 122, none⟩)])) w := by kernel_rfl
theorem as_implementsF (w : World) : (ReflectliteType.relation "Implements" ReflectliteType.implements_ #[.agg #[.pointer (some ⟨1, 122, none⟩)], .iface 138 (.agg #[.pointer (some ⟨1, 32, none⟩)])]).run Tryd.prog w = .ok (.bool true) w := by kernel_rfl
theorem as_assignableF (w : World) : (ReflectliteType.relation "AssignableTo" ReflectliteType.assignableTo #[.agg #[.pointer (some ⟨1, 122, none⟩)], .iface 138 (.agg #[.pointer (some ⟨1, 122, none⟩)])]).run Tryd.prog w = .ok (.bool true) w := by kernel_rfl
theorem as_valueOfF (c d : Int) (w : World) : (ReflectliteValue.unpack (.iface 122 (.agg #[.int .i64 c, .int .i64 d]))).run Tryd.prog w
    = .ok (.agg #[.pointer (some ⟨1, 122, none⟩), .pointer (some ⟨w.heap.size, 0, none⟩), .int .u64 153]) (w.alloc (.cells #[.int .i64 c, .int .i64 d] 122)) := by kernel_rfl
theorem as_elemOfPF (w : World) : (Rtype.elem? 123).run Tryd.prog w = .ok (some 122) w := by kernel_rfl
theorem as_mkF (p : Addr) (w : World) : (ReflectliteValue.mk 122 p ReflectliteValue.flagAddr).run Tryd.prog w = .ok (.agg #[.pointer (some ⟨1, 122, none⟩), .pointer (some p), .int .u64 409]) w := by kernel_rfl
theorem as_elemVPF (a p : Addr) (W : World) (ha : W.cell? a = some (.pointer (some p))) :
    (ReflectliteValue.method (ReflectliteValue.valueError "reflectlite.Value.Elem" 0) ReflectliteValue.elem #[.agg #[.pointer (some ⟨1, 123, none⟩), .pointer (some a), .int .u64 150]]).run Tryd.prog W
      = .ok (.agg #[.pointer (some ⟨1, 122, none⟩), .pointer (some p), .int .u64 409]) W := by
  rw [as_rlm]
  simp only [Sem.run_bind, as_partsPF, Result.andThen]
  simp [ReflectliteValue.elem, loadVar, isAgg, underlying, Tryd.underlying123, ha, Result.andThen, as_elemOfPF, as_mkF]
theorem as_partsFa (a : Addr) (w : World) : (ReflectliteValue.parts (.agg #[.pointer (some ⟨1, 122, none⟩), .pointer (some a), .int .u64 409])).run Tryd.prog w = .ok (some (122, a, 409)) w := by kernel_rfl
theorem as_partsF (a : Addr) (w : World) : (ReflectliteValue.parts (.agg #[.pointer (some ⟨1, 122, none⟩), .pointer (some a), .int .u64 153])).run Tryd.prog w = .ok (some (122, a, 153)) w := by kernel_rfl
theorem as_directF (w : World) : (Rtype.directlyAssignable 122 122).run Tryd.prog w = .ok true w := by kernel_rfl
theorem as_setF (ta b : Addr) (c d : Int) (old old2 : Value) (W : World) (hb : W.cell? b = some (.int .i64 c)) (hb2 : W.cell? (b.add 1) = some (.int .i64 d)) (ht : W.cell? ta = some old) (hf : W.frozen? ta = false) (ht2 : W.cell? (ta.add 1) = some old2) (hf2 : W.frozen? (ta.add 1) = false) :
    (ReflectliteValue.set #[.agg #[.pointer (some ⟨1, 122, none⟩), .pointer (some ta), .int .u64 409], .agg #[.pointer (some ⟨1, 122, none⟩), .pointer (some b), .int .u64 153]]).run Tryd.prog W
      = .ok (.tuple #[]) ((W.setCell ta (.int .i64 c)).setCell (ta.add 1) (.int .i64 d)) := by
  have hl : (loadCells b 2).run Tryd.prog W = .ok #[.int .i64 c, .int .i64 d] W := by
    have := run_loadCells_list (P := Tryd.prog) W b [.int .i64 c, .int .i64 d] (fun j v hj => by
      match j with
      | 0 => simp at hj; subst hj; simpa [Addr.add] using hb
      | 1 => simp at hj; subst hj; exact hb2
      | j + 2 => simp at hj)
    exact this
  have hne : ta ≠ ta.add 1 := by
    intro e
    have := congrArg Addr.off e
    simp [Addr.add] at this
  rw [as_rls]
  simp only [Sem.run_bind, as_partsFa, as_partsF, Result.andThen]
  simp [ReflectliteValue.flagAddr, loadVar, isAgg, underlying, Tryd.underlying122, hl, Result.andThen, as_directF, storeVar, Value.cells, storeCells]
  rw [run_store Tryd.prog W (ta.add 0) _ _ (by rfl)]
  have h0 : ta.add 0 = ta := by simp [Addr.add]
  simp only [h0, stored, ht, hf]
  simp
  rw [run_store Tryd.prog _ (ta.add 1) _ _ (by rfl)]
  simp [stored, World.cell?_setCell_other (h := hne), ht2, hf2]
end Go.Proofs.YtjljjakfebfpfaaDoor
