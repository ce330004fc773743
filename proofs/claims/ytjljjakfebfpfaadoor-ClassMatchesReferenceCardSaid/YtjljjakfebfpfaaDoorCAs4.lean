import Derived.Test.YtjljjakfebfpfaaDoorCAs3
set_option autoImplicit false
set_option linter.unusedVariables false
set_option linter.unusedSimpArgs false
namespace Go.Proofs.YtjljjakfebfpfaaDoor
open Go.RowKit Go.Extern.Stop Go.Stop Go.Extern Go.Abs

set_option maxHeartbeats 4000000 in
theorem as_faultW (c at_ : Int) (t : Addr) (old old2 : Value) (w : World) (hg : w.cell? ⟨0, 0, none⟩ = some (.iface 138 (.agg #[.pointer (some ⟨1, 32, none⟩)]))) (ht0 : w.cell? t = some old) (hf0 : w.frozen? t = false) (ht1 : w.cell? (t.add 1) = some old2) (hf1 : w.frozen? (t.add 1) = false) :
    Calls Tryd.prog 37 #[.iface 122 (.agg #[.int .i64 c, .int .i64 at_]), .iface 123 (.pointer (some t))] w fun ev w' => ev = .returned (.bool true) ∧ w' = (((((w.alloc (.cells #[.pointer (some t)] 123)).alloc (.cells #[.pointer (some ⟨1, 123, none⟩), .pointer (some ⟨w.heap.size, 0, none⟩), .int .u64 150] 112)).alloc (.cells #[.pointer (some ⟨1, 123, none⟩), .pointer (some ⟨w.heap.size, 0, none⟩), .int .u64 150] 112)).alloc (.cells #[.int .i64 c, .int .i64 at_] 122)).setCell t (.int .i64 c)).setCell (t.add 1) (.int .i64 at_) := by
  have h6 := @run_callFunc_extern Tryd.prog 64 _ (fun args => ReflectliteValue.unpack (args.getD 0 (.tuple #[]))) Tryd.func64 (by kernel_rfl) (by kernel_rfl) (by kernel_rfl) (by kernel_rfl)
  have h7 := @run_callFunc_extern Tryd.prog 65 _ (ReflectliteValue.methodAny (ReflectliteValue.valueError "reflectlite.Value.Type" 0) (fun t _ _ _ => ReflectliteType.toType t)) Tryd.func65 (by kernel_rfl) (by kernel_rfl) (by kernel_rfl) (by kernel_rfl)
  have h8 := @run_callFunc_extern Tryd.prog 66 _ (ReflectliteValue.method (ReflectliteValue.valueError "reflectlite.Value.IsNil" 0) ReflectliteValue.isNil) Tryd.func66 (by kernel_rfl) (by kernel_rfl) (by kernel_rfl) (by kernel_rfl)
  have h27 := @run_callFunc_extern Tryd.prog 125 _ (ReflectliteType.abiMethod fun t => do pure (.int .u8 (← Rtype.kind t))) Tryd.func125 (by kernel_rfl) (by kernel_rfl) (by kernel_rfl) (by kernel_rfl)
  have h37 := @run_callFunc_extern Tryd.prog 140 _ (ReflectliteType.method ReflectliteType.elem) Tryd.func140 (by kernel_rfl) (by kernel_rfl) (by kernel_rfl) (by kernel_rfl)
  have h38 := @run_callFunc_extern Tryd.prog 141 _ (ReflectliteType.relation "Implements" ReflectliteType.implements_) Tryd.func141 (by kernel_rfl) (by kernel_rfl) (by kernel_rfl) (by kernel_rfl)
  have h10 := @run_callFunc_extern Tryd.prog 80 _ ReflectliteType.typeOf Tryd.func80 (by kernel_rfl) (by kernel_rfl) (by kernel_rfl) (by kernel_rfl)
  have h35 := @run_callFunc_extern Tryd.prog 138 _ (ReflectliteType.relation "AssignableTo" ReflectliteType.assignableTo) Tryd.func138 (by kernel_rfl) (by kernel_rfl) (by kernel_rfl) (by kernel_rfl)
  have h11 := @run_callFunc_extern Tryd.prog 81 _ (ReflectliteValue.method (ReflectliteValue.valueError "reflectlite.Value.Elem" 0) ReflectliteValue.elem) Tryd.func81 (by kernel_rfl) (by kernel_rfl) (by kernel_rfl) (by kernel_rfl)
  have h12 := @run_callFunc_extern Tryd.prog 82 _ ReflectliteValue.set Tryd.func82 (by kernel_rfl) (by kernel_rfl) (by kernel_rfl) (by kernel_rfl)
  have tF := as_typeOfF
  have mA := as_methodAssignableTo
  have aF := as_assignableF
  have vF := as_valueOfF
  have f6 := as_valueOfPF
  have f7 := as_typePF
  have mK := as_methodKind
  have mE := as_methodElem
  have mI := as_methodImplements
  have k27 := as_kindPF
  have k25 := as_kindF
  have e27 := as_elemPF
  have i25 := as_implementsF
  have n8 := as_isNilPF ⟨w.heap.size, 0, none⟩ t ((w.alloc (.cells #[.pointer (some t)] 123)).alloc (.cells #[.pointer (some ⟨1, 123, none⟩), .pointer (some ⟨w.heap.size, 0, none⟩), .int .u64 150] 112)) (by simp)
  have hlt : 0 < w.heap.size := by
    rcases Nat.eq_zero_or_pos w.heap.size with h0 | h
    · simp [World.cell?, h0] at hg
    · exact h
  have hg2 : ((w.alloc (.cells #[.pointer (some t)] 123)).alloc (.cells #[.pointer (some ⟨1, 123, none⟩), .pointer (some ⟨w.heap.size, 0, none⟩), .int .u64 150] 112)).cell? ⟨0, 0, none⟩ = some (.iface 138 (.agg #[.pointer (some ⟨1, 32, none⟩)])) := by
    rw [World.cell?_alloc_lt _ _ ⟨0, 0, none⟩ (by simp), World.cell?_alloc_lt _ _ ⟨0, 0, none⟩ hlt]; exact hg
  have htl : t.block < w.heap.size := by
    rcases Nat.lt_or_ge t.block w.heap.size with h | h
    · exact h
    · simp [World.cell?, Array.getElem?_eq_none h] at ht0
  have htl1 : (t.add 1).block < w.heap.size := htl
  have el := as_elemVPF ⟨w.heap.size, 0, none⟩ t (((w.alloc (.cells #[.pointer (some t)] 123)).alloc (.cells #[.pointer (some ⟨1, 123, none⟩), .pointer (some ⟨w.heap.size, 0, none⟩), .int .u64 150] 112)).alloc (.cells #[.pointer (some ⟨1, 123, none⟩), .pointer (some ⟨w.heap.size, 0, none⟩), .int .u64 150] 112)) (by rw [World.cell?_alloc_lt _ _ ⟨w.heap.size, 0, none⟩ (by simp; omega)]; simp)
  have st := as_setF t ⟨w.heap.size + 1 + 1 + 1, 0, none⟩ c at_ old old2 ((((w.alloc (.cells #[.pointer (some t)] 123)).alloc (.cells #[.pointer (some ⟨1, 123, none⟩), .pointer (some ⟨w.heap.size, 0, none⟩), .int .u64 150] 112)).alloc (.cells #[.pointer (some ⟨1, 123, none⟩), .pointer (some ⟨w.heap.size, 0, none⟩), .int .u64 150] 112)).alloc (.cells #[.int .i64 c, .int .i64 at_] 122))
    (by rw [World.cell?_alloc_at _ _ _ _ (by simp)]; rfl)
    (by rw [show Addr.add ⟨w.heap.size + 1 + 1 + 1, 0, none⟩ 1 = ⟨w.heap.size + 1 + 1 + 1, 1, none⟩ from rfl, World.cell?_alloc_at _ _ _ _ (by simp)]; rfl)
    (by rw [World.cell?_alloc_lt _ _ t (by simp; omega), World.cell?_alloc_lt _ _ t (by simp; omega), World.cell?_alloc_lt _ _ t (by simp; omega), World.cell?_alloc_lt _ _ t htl]; exact ht0)
    (by rw [World.frozen?_alloc_old _ _ t (by simp; omega), World.frozen?_alloc_old _ _ t (by simp; omega), World.frozen?_alloc_old _ _ t (by simp; omega), World.frozen?_alloc_old _ _ t (Nat.ne_of_lt htl)]; exact hf0)
    (by rw [World.cell?_alloc_lt _ _ (t.add 1) (by simp; omega), World.cell?_alloc_lt _ _ (t.add 1) (by simp; omega), World.cell?_alloc_lt _ _ (t.add 1) (by simp; omega), World.cell?_alloc_lt _ _ (t.add 1) htl1]; exact ht1)
    (by rw [World.frozen?_alloc_old _ _ (t.add 1) (by simp; omega), World.frozen?_alloc_old _ _ (t.add 1) (by simp; omega), World.frozen?_alloc_old _ _ (t.add 1) (by simp; omega), World.frozen?_alloc_old _ _ (t.add 1) (Nat.ne_of_lt htl1)]; exact hf1)
  go_enter Tryd.func37, Tryd.ntmps37
  go_wp2
  refine wp_loop_rounds 1 ?_
  rw [rounds_succ]
  go_wp2
  go_ret
  exact ⟨rfl, rfl⟩

/-- errors.As at a fault, for its code. -/
theorem as_faultCode (c d : Int) (c0 : AV) : ACalls env 37 [.d (.iface 122 (.agg [.int .i64 c, .int .i64 d])), .iface 77 (.pvar 0 0)] [.var [c0]] fun r H' => r = .d (.bool true) ∧ H' = [.var [.d (.int .i64 c)]] := by
  refine ⟨enters_of Tryd.func37 rfl (by kernel_rfl), fun w F Γ vs hS hV => ?_⟩
  obtain ⟨s, b, hs, hb, rfl⟩ := RVL_asF hV
  exact out_as1 hS hs hb (fun old ht hf => (as_faultCodeW c d ⟨b, 0, none⟩ old w (glob_cell (hS.glob 0 1 _ gl0)) ht hf).mono fun e w' h => ⟨h.1, _, (((((Later.refl w).alloc _).alloc _).alloc _).alloc _).alloc _, h.2⟩)
/-- errors.As at a fault, for the fault. -/
theorem as_fault (c d : Int) (c0 c1 : AV) : ACalls env 37 [.d (.iface 122 (.agg [.int .i64 c, .int .i64 d])), .iface 123 (.pvar 0 0)] [.var [c0, c1]] fun r H' => r = .d (.bool true) ∧ H' = [.var [.d (.int .i64 c), .d (.int .i64 d)]] := by
  refine ⟨enters_of Tryd.func37 rfl (by kernel_rfl), fun w F Γ vs hS hV => ?_⟩
  obtain ⟨s, b, hs, hb, rfl⟩ := RVL_asF hV
  exact out_as2 hS hs hb (fun old old2 ht hf ht1 hf1 => (as_faultW c d ⟨b, 0, none⟩ old old2 w (glob_cell (hS.glob 0 1 _ gl0)) ht hf ht1 hf1).mono fun e w' h => ⟨h.1, _, ((((Later.refl w).alloc _).alloc _).alloc _).alloc _, h.2⟩)
end Go.Proofs.YtjljjakfebfpfaaDoor
