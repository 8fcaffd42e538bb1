/- Plain Lean: canonical addresses, reading a text. No condition. -/
import Derived.Test.YtijjggbiljkalaaDoorAddrQ
namespace Go.Proofs.YtijjggbiljkalaaDoor.Ad
open Pl

def Adr.target (a : Adr) : Bs := a.path ++ (if a.has then 63 :: a.query else [])
def valid (a : Adr) : Bool := (a.has || decide (a.query = [])) && (match parse a.host a.target with
  | .ok b => decide (a = b)
  | .error _ => false)
theorem valid_noq (a : Adr) (h1 : a.has = false) (h2 : a.query ≠ []) : valid a = false := by simp [valid, h1, h2]
theorem valid_err (a : Adr) (n : Int) (h : parse a.host a.target = .error n) : valid a = false := by simp [valid, h]
theorem valid_eq (a b : Adr) (h0 : a.has = true ∨ a.query = []) (h : parse a.host a.target = .ok b) : valid a = decide (a = b) := by
  have h1 : (a.has || decide (a.query = [])) = true := by rcases h0 with h | h <;> simp [h]
  simp [valid, h, h1]
theorem valid_parse (a : Adr) (h : valid a = true) : (a.has = true ∨ a.query = []) ∧ parse a.host a.target = .ok a := by
  unfold valid at h
  rw [Bool.and_eq_true] at h
  obtain ⟨h1, h2⟩ := h
  refine ⟨by simpa using h1, ?_⟩
  split at h2
  · rename_i b hb
    have := of_decide_eq_true h2
    rw [hb, ← this]
  · cases h2
end Go.Proofs.YtijjggbiljkalaaDoor.Ad
