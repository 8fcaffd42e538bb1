/- Contract: the reference's Host. Conditions: texts of at most 2^31 bytes. -/
import Derived.Test.YtbnjajpencahfaaDoorAddr2
import Derived.Test.YtbnjajpencahfaaDoorAddr4
namespace Go.Proofs.YtbnjajpencahfaaDoor
open Go.RowKit Pl Ad
attribute [local go_sem] ba_get conv_one conv_one_drewN ba_append ba_extract
set_option maxRecDepth 100000
set_option maxHeartbeats 4000000
set_option linter.unusedVariables false
namespace A1

theorem hostOk_no (l : Bs) (h : ¬ l.length ≤ 100 ∨ (splitOn 46 l).all labelB = false) : hostOk l = false := by
  unfold hostOk
  rcases h with h | h
  · rw [decide_eq_false h]; rfl
  · rw [h]; simp
theorem hostOk_yes (l : Bs) (h1 : l.length ≤ 100) (h2 : (splitOn 46 l).all labelB = true) : hostOk l = true := by
  unfold hostOk; rw [h2, decide_eq_true h1]; rfl

theorem splitAcc_len (c : UInt8) : ∀ (acc l x : Bs), x ∈ splitAcc c acc l → x.length ≤ acc.length + l.length
  | acc, [], x, h => by simp [splitAcc] at h; subst h; simp
  | acc, b :: t, x, h => by
    rw [splitAcc] at h
    split at h
    · rcases List.mem_cons.1 h with rfl | h
      · omega
      · have := splitAcc_len c [] t x h; simp at this ⊢; omega
    · have := splitAcc_len c (acc ++ [b]) t x h; simp at this ⊢; omega
theorem splitOn_len (c : UInt8) (l x : Bs) (h : x ∈ splitOn c l) : x.length ≤ l.length := by simpa using splitAcc_len c [] l x h
theorem splitAcc_count (c : UInt8) : ∀ (acc l : Bs), (splitAcc c acc l).length ≤ l.length + 1
  | acc, [] => by simp [splitAcc]
  | acc, b :: t => by
    rw [splitAcc]; split
    · have := splitAcc_count c [] t; simp; omega
    · have := splitAcc_count c (acc ++ [b]) t; simp; omega
theorem splitOn_count (c : UInt8) (l : Bs) : (splitOn c l).length ≤ l.length + 1 := splitAcc_count c [] l

/-- What a host's function returns. -/
def hostS (l : Bs) : Bs := if hostOk l then lower l else []
theorem hostS_no (l : Bs) (h : hostOk l = false) : hostS l = [] := by rw [hostS, h]; rfl
theorem hostS_yes (l : Bs) (h : hostOk l = true) : hostS l = lower l := by rw [hostS, h]; rfl

end A1
end Go.Proofs.YtbnjajpencahfaaDoor
