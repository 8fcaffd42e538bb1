/- The frame of every law's proof over this seat: the witness' world, the listed tables, the library's variable. -/
import Derived.Test.YtnppicekfjdefaaGreatDoorCards
import Derived.Test.YtnppicekfjdefaaGreatDoorTie
import Derived.Test.YtnppicekfjdefaaGreatDoorLib
import Derived.WalkKit
import Derived.ProofKit
import Derived.OpenShut
import Derived.Deep.DeepHandedRow
import Derived.Lib.LaidTab
import Derived.Carry
import Derived.Lib.SmallJoins
namespace Go.Proofs.YtnppicekfjdefaaGreatDoor.Fr
open Go.ChangeShapes Go.WideShapes Go.ChangeAt Go.RowKit

theorem own : ownKnob Tryz.prog.godebug = none := by kernel_rfl

theorem ready {W : World} (h : W.ShapedOpen Tryz.prog) : Ready W := by
  obtain ⟨m, hm⟩ := Tryz.laysM145.s1_3 W h
  refine ⟨?_, m, hm⟩
  have h2 : W.cell? ⟨0, 0, none⟩ = some (.int .i64 m) := hm
  unfold World.cell? at h2
  split at h2
  · rename_i h3; exact (Array.getElem?_eq_some_iff.1 h3).1
  · cases h2

def firstCells : Array Value := (Go.Pinned.utf8FirstZ.map fun n : Nat => Value.int .u8 (n : Int)).toArray
def acceptCells : Array Value := ([128, 191, 160, 191, 128, 159, 144, 191, 128, 143, 0, 0, 0, 0, 0, 0, 0, 0, 0, 0, 0, 0, 0, 0, 0, 0, 0, 0, 0, 0, 0, 0].map fun n => Value.int .u8 n).toArray
def holds (C : Array Value) : Obj → Obj
  | .cells _ t frozen => .cells C t frozen
  | o => o
/-- A world for the witness: the settled one, the listed tables holding what the program's text lays. -/
noncomputable def laidWorld (os : Os) : World :=
  { World.holding Tryz.prog os ⟨#[], #[], []⟩ with heap := ((World.holding Tryz.prog os ⟨#[], #[], []⟩).heap.modify 1 (holds firstCells)).modify 2 (holds acceptCells) }

/-- Every argument reads behind the call as it read before. -/
theorem trodAll_below {P : Program} (hl : laidOutB P = true) {H : Type} {enc : TypeId × Value → H} {W W' : World} : ∀ (ts : List TypeId), (ts.all fun t => P.readableRec t && decide (t < P.types.size)) = true → ∀ {vs : List Value} {ds : List (DataW H)} {p : List MemPlace},
    DataW.TrodAll enc P W 0 (fun _ => true) true ts vs ds p → Below W.heap.size W W' → (∀ x ∈ p, x.block < W.heap.size) → DataW.TrodAll enc P W' 0 (fun b => decide (b < W.heap.size)) true ts vs ds p
  | [], _, vs, ds, p, h, _, _ => by
    obtain ⟨rfl, rfl, rfl⟩ := trodAll_nil h
    exact trodAll_mk0
  | t :: ts, hr, vs, ds, p, h, hb, hlt => by
    obtain ⟨v0, vs0, d0, ds0, p0, q0, rfl, rfl, rfl, h0, r0⟩ := trodAll_cons h
    rw [List.all_cons, Bool.and_eq_true, Bool.and_eq_true, decide_eq_true_eq] at hr
    exact trodAll_cons_mk (Below.trod hl hr.1.1 hr.1.2 h0 hb (fun x hx => hlt x (List.mem_append_left _ hx))) (trodAll_below hl ts hr.2 r0 hb fun x hx => hlt x (List.mem_append_right _ hx))
theorem sized_adr {H : Type} {P : Program} {ts : List TypeId} {ds : List (DataW H)} (h : (DataW.weightsEach P ts ds).all (· ≤ reachBytes) = true) {j : Nat} {t : TypeId} {a b c : List UInt8} {x : Bool} {f0 f1 f2 f3 : Field} (ht : ts[j]? = some t)
    (hd : ds[j]? = some (.agg [.lit (.string a), .lit (.string b), .lit (.string c), .lit (.bool x)])) (hu : P.underlying t = some (.struct #[f0, f1, f2, f3])) : a.length ≤ reachBytes ∧ b.length ≤ reachBytes ∧ c.length ≤ reachBytes := by
  have k := fun n hn => List.all_eq_true.1 h _ (DataW.weights_mem_each ht hd n hn)
  refine ⟨?_, ?_, ?_⟩
  · simpa using k a.length (by simp [DataW.weights, DataW.weightsEach, hu])
  · simpa using k b.length (by simp [DataW.weights, DataW.weightsEach, hu])
  · simpa using k c.length (by simp [DataW.weights, DataW.weightsEach, hu])
end Go.Proofs.YtnppicekfjdefaaGreatDoor.Fr
