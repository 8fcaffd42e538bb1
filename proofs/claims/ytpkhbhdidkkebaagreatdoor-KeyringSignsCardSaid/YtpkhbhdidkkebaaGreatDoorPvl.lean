/- Contracts and plain facts that the statement's proof leans on (texts joined). No condition beyond those that each names. -/
import Derived.Deep.RegionHeld3
import Derived.OrdersHeld
import Derived.Test.YtpkhbhdidkkebaaGreatDoorPvk
section
namespace Go.Proofs.YtpkhbhdidkkebaaGreatDoor
open Go.RowKit Pl Ad
attribute [local go_sem] ba_get ba_append ba_extract_end ba_extract_zero ba_extract
set_option maxRecDepth 100000
set_option maxHeartbeats 4000000
set_option linter.unusedVariables false
set_option linter.unusedSimpArgs false
namespace Kr
/-- The ring's keys are those of the reference. -/
def Match (E : Nat → List Ent) (ml : KL) : Prop := ∀ t : Int, keysOf E t = per ml t
theorem match_len {E : Nat → List Ent} {ml : KL} (h : Match E ml) (t : Int) : (tlK E t).length ≤ ml.length := by
 have h1 := per_len ml t
 rw [← h t] at h1
 unfold keysOf at h1
 rwa [List.length_map] at h1
/-- What the last statement of is reads: the ring, the list, the act. -/
structure IsS (B R C : Nat) (V : Nat → Value) (E : Nat → List Ent) (v : Value) (ml : KL) (w : World) : Prop where
 ring : RingAt w B R V E
 ref : RefAt w C v ml
theorem IsS.older {B R C : Nat} {V : Nat → Value} {E : Nat → List Ent} {v : Value} {ml : KL} {w w' : World} (h : IsS B R C V E v ml w) (hb : Below w.heap.size w w') : IsS B R C V E v ml w' := ⟨h.ring.older hb, h.ref.older hb⟩
end Kr
end Go.Proofs.YtpkhbhdidkkebaaGreatDoor
end

