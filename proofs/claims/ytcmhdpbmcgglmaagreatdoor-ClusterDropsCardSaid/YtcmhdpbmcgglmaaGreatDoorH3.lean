/-
  FilterAdds, walked.
-/
import Derived.Test.YtcmhdpbmcgglmaaGreatDoorH1
section
set_option autoImplicit false
set_option linter.unusedVariables false
set_option linter.unusedSimpArgs false
namespace Go.Proofs.YtcmhdpbmcgglmaaGreatDoor
open Go.Abs
section
variable {c : Cl} {w : Rc}
theorem RC.adds (h : RC c w) {k : Int} {cap : List Int} (he : naddE c.d 1024 c.N k cap = none) :
    ∃ A B, w.nodes = A ++ B ∧ (rcAdd w k cap).nodes = A ++ (k, cap) :: B ∧ (rcAdd w k cap).pods = w.pods ∧ ∀ m ∈ w.nodes, m.1 ≠ k := by
  unfold naddE at he
  rw [h.d1] at he
  by_cases hw : 0 ≤ wrongS cap 2
  · rw [if_pos hw] at he; cases he
  · rw [if_neg hw] at he
    unfold addF addE at he
    by_cases h1 : (lget c.N k).isSome = true
    · rw [if_pos h1] at he; cases he
    · rw [if_neg h1] at he
      by_cases h2 : (1024 : Int) = c.N.length
      · rw [if_pos h2] at he; cases he
      · have hroom := h.nodes.room
        have hlen := h.nodes.len
        rw [List.length_map] at hlen
        have hno : ∀ m ∈ w.nodes, m.1 ≠ k := fun m hm e => by
          rw [h.getN, ← e, h.findN_mem hm] at h1
          exact h1 rfl
        have hr : rfind (kv (·.1) w.nodes) k < 0 := by
          rw [rfind_neg, lget_none]
          intro hm
          obtain ⟨x, hx, hxk⟩ := List.mem_map.1 hm
          unfold kv at hx
          obtain ⟨m, hm', rfl⟩ := List.mem_map.1 hx
          exact hno m hm' hxk
        refine ⟨w.nodes.takeWhile (fun q => decide (q.1 < k)), w.nodes.dropWhile (fun q => decide (q.1 < k)), List.takeWhile_append_dropWhile.symm, ?_, (rcAdd_len w k cap).1, hno⟩
        unfold rcAdd
        rw [h.d2, if_neg (by exact hw)]
        show raddK (·.1) w.nodes 1024 (k, cap) = _
        unfold raddK
        rw [if_neg (show ¬ 0 ≤ rfind (kv (·.1) w.nodes) k by omega), if_neg (by omega)]
        unfold insK
        simp
end
end Go.Proofs.YtcmhdpbmcgglmaaGreatDoor
end
