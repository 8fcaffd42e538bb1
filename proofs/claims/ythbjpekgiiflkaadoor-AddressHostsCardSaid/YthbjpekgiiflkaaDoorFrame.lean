/- The frame of every law's proof over this seat: the witness' world, the listed tables, the library's variable. -/
import Derived.Test.YthbjpekgiiflkaaDoorCards
import Derived.Test.YthbjpekgiiflkaaDoorTie
import Derived.Test.YthbjpekgiiflkaaDoorLib
import Derived.WalkKit
import Derived.ProofKit
import Derived.OpenShut
import Derived.Deep.DeepHandedRow
import Derived.Lib.LaidTab
namespace Go.Proofs.YthbjpekgiiflkaaDoor.Fr
open Go.ChangeShapes Go.WideShapes Go.ChangeAt Go.RowKit

theorem own : ownKnob Tryd.prog.godebug = none := by kernel_rfl

theorem ready {W : World} (h : W.ShapedOpen Tryd.prog) : Ready W := by
  obtain ⟨m, hm⟩ := Tryd.laysM145.s1_3 W h
  refine ⟨?_, m, hm⟩
  have h2 : W.cell? ⟨0, 0, none⟩ = some (.int .i64 m) := hm
  unfold World.cell? at h2
  split at h2
  · rename_i h3; exact (Array.getElem?_eq_some_iff.1 h3).1
  · cases h2

def firstCells : Array Value := (Go.Pinned.utf8FirstZ.map fun n : Nat => Value.int .u8 (n : Int)).toArray
def acceptCells : Array Value := ([128, 191, 160, 191, 128, 159, 144, 191, 128, 143, 0, 0, 0, 0, 0, 0, 0, 0, 0, 0, 0, 0, 0, 0, 0, 0, 0, 0, 0, 0, 0, 0].map fun n => Value.int .u8 n).toArray
def holds (C : Array Value) : Obj → Obj
  | .cells _ t frozen => .cells C t frozen
  | o => o
/-- A world for the witness: the settled one, the listed tables holding what the program's text lays. -/
noncomputable def laidWorld (os : Os) : World :=
  { World.holding Tryd.prog os ⟨#[], #[], []⟩ with heap := ((World.holding Tryd.prog os ⟨#[], #[], []⟩).heap.modify 1 (holds firstCells)).modify 2 (holds acceptCells) }

/-- Of what was there when the call began nothing has turned: the row's frame out of 'Below'. -/
theorem frame {W W' : World} (hb : Below W.heap.size W W') (may : MemPlace → Prop) : W.keptBut W' may := hb.frame may
theorem unfrozen {W W' : World} (hb : Below W.heap.size W W') : ∀ p, p.block < W.heap.size → W'.frozen? p = W.frozen? p := fun _ hp => hb.frozen hp
end Go.Proofs.YthbjpekgiiflkaaDoor.Fr
