/- The error codes of Parse, in the words of its contracts. No condition. -/
import Derived.Test.YtijjggbiljkalaaDoorAddrC
namespace Go.Proofs.YtijjggbiljkalaaDoor
open Go.RowKit Pl Ad
namespace A1
theorem parseV_ok (a : Adr) : parseV (.ok a) = adV a := rfl
theorem parseV_err (n : Int) : parseV (.error n) = ad0 := rfl
theorem codeOf_ok (a : Adr) : codeOf (.ok a) = 0 := rfl
theorem codeOf_err (n : Int) : codeOf (.error n) = n := rfl
theorem parse_code {h t : Bs} {n : Int} (hp : parse h t = .error n) : ¬ n = 0 := by
  rcases parse_ways h t with ⟨_, e⟩ | ⟨_, _, e⟩ | ⟨_, _, _, _, _, _, e⟩ | ⟨_, _, _, _, u, _, _, _, _, e⟩
  · rw [e] at hp; cases hp; decide
  · rw [e] at hp; cases hp; decide
  · rw [e] at hp; cases hp; decide
  · rw [e] at hp
    cases hd : dotsL (splitOn 47 u) [] with
    | none => rw [hd] at hp; cases hp; decide
    | some left =>
      rw [hd] at hp
      simp only at hp
      split at hp <;> cases hp
      decide

end A1
end Go.Proofs.YtijjggbiljkalaaDoor
