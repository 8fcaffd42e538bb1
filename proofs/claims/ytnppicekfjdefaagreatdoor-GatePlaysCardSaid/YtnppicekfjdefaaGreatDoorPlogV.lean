/- Contract: purgelog's Covered. Conditions: logs of at most a million entries; an item's address of at most 2^27 bytes. -/
import Derived.Test.YtnppicekfjdefaaGreatDoorPlogY
import Derived.Test.YtnppicekfjdefaaGreatDoorPurg5
namespace Go.Proofs.YtnppicekfjdefaaGreatDoor
open Go.RowKit Pl Ad
attribute [local go_sem] ba_get ba_append ba_extract_end ba_extract_zero ba_extract
set_option maxRecDepth 100000
set_option maxHeartbeats 4000000
set_option linter.unusedVariables false
namespace A1
theorem since_pos {L : LogM} {n : Int} (h : 0 < (L.since n).length) : 0 ≤ n ∧ n < L.all.length := by
  unfold LogM.since at h
  split at h
  · simp at h
  · omega
theorem since_mem {L : LogM} {n : Int} {p : Pg} (h : p ∈ L.since n) : p ∈ L.all := by
  unfold LogM.since at h
  split at h
  · cases h
  · exact List.mem_of_mem_drop h
theorem cov_some {L : LogM} {x : It} {n : Int} {k : Nat} (h : LogM.hit x (L.since n) = some k) : L.covN x n = n + 1 + k ∧ L.covB x n = true := by
  unfold LogM.covN LogM.covB
  rw [h]
  exact ⟨rfl, rfl⟩
theorem cov_none {L : LogM} {x : It} {n : Int} (h : LogM.hit x (L.since n) = none) : L.covN x n = 0 ∧ L.covB x n = false := by
  unfold LogM.covN LogM.covB
  rw [h]
  exact ⟨rfl, rfl⟩
theorem since_nil {L : LogM} {n : Int} (h : ¬ L.sinceC n = 0) : L.since n = [] := by
  unfold LogM.since
  unfold LogM.sinceC at h
  split at h
  · rw [if_pos (by omega)]
  · split at h
    · omega
    · split at h
      · rw [if_pos (by omega)]
      · omega
theorem ret3_int {a b : Int} {c d : Bool} {v : Value} (h : a = b) (h2 : c = d) : Ending.returned (.tuple #[.int .i64 a, .bool c, v]) = .returned (.tuple #[.int .i64 b, .bool d, v]) := by rw [h, h2]
end A1
end Go.Proofs.YtnppicekfjdefaaGreatDoor
