/- The frame of the laws over the keyring: the witness' world with every listed table as the row lists it; every argument reads behind the call as before. -/
import Derived.Test.YtbpbopjlcidefaaDoorCards
import Derived.Test.YtbpbopjlcidefaaDoorTie
import Derived.Test.YtbpbopjlcidefaaDoorKeyZ
import Derived.WalkKit
import Derived.ProofKit
import Derived.OpenShut
import Derived.Deep.DeepHandedRow
import Derived.Lib.LaidTab
import Derived.LaidLaws
import Derived.MakeChecks
import Derived.Carry
import Derived.Lib.SmallJoins
namespace Go.Proofs.YtbpbopjlcidefaaDoor.Fr
open Go.ChangeShapes Go.WideShapes Go.ChangeAt Go.RowKit
theorem own : ownKnob Tryd.prog.godebug = none := by kernel_rfl
def holds (C : Array Value) : Obj → Obj
  | .cells _ t frozen => .cells C t frozen
  | o => o
/-- The cells of a datum that is a literal, a row of literals, or a row of rows. -/
def litV : Lit → Value
  | .int k n => .int k n
  | .string l => .string ⟨l.toArray⟩
  | .bool b => .bool b
  | _ => .nilIface
def cellsD1 : DataW Unit → List Value
  | .lit x => [litV x]
  | .agg l => l.flatMap fun | .lit x => [litV x] | _ => []
  | _ => []
def cellsD : DataW Unit → List Value
  | .lit x => [litV x]
  | .agg l => l.flatMap cellsD1
  | _ => []
/-- A world for the witness: the settled one, the listed variables holding what the row lists. -/
noncomputable def layOne (h : Array Obj) (x : String × DataW Unit) : Array Obj :=
  match Tryd.prog.globalNamed x.1 with
  | some g => h.modify g (holds (cellsD x.2).toArray)
  | none => h
noncomputable def laidW (laid : List (String × DataW Unit)) (os : Os) : World :=
  { World.holding Tryd.prog os ⟨#[], #[], []⟩ with heap := laid.foldl layOne (World.holding Tryd.prog os ⟨#[], #[], []⟩).heap }
/-- Every argument reads behind the call as it read before. -/
theorem trodAll_below {P : Program} (hl : laidOutB P = true) {H : Type} {enc : TypeId × Value → H} {W W' : World} : ∀ (ts : List TypeId), (ts.all fun t => P.readableRec t && decide (t < P.types.size)) = true → ∀ {vs : List Value} {ds : List (DataW H)} {p : List MemPlace},
    DataW.TrodAll enc P W 0 (fun _ => true) true ts vs ds p → Below W.heap.size W W' → (∀ x ∈ p, x.block < W.heap.size) → DataW.TrodAll enc P W' 0 (fun b => decide (b < W.heap.size)) true ts vs ds p
  | [], _, vs, ds, p, h, _, _ => by
    obtain ⟨rfl, rfl, rfl⟩ := trodAll_nil h
    exact trodAll_mk0
  | t :: ts, hr, vs, ds, p, h, hb, hlt => by
    obtain ⟨v0, vs0, d0, ds0, p0, q0, rfl, rfl, rfl, h0, r0⟩ := trodAll_cons h
    rw [List.all_cons, Bool.and_eq_true, Bool.and_eq_true, decide_eq_true_eq] at hr
    exact trodAll_cons_mk (Below.trod hl hr.1.1 hr.1.2 h0 hb (fun x hx => hlt x (List.mem_append_left _ hx))) (trodAll_below hl ts hr.2 r0 hb fun x hx => hlt x (List.mem_append_right _ hx))
theorem u16_range {n : Int} (h : (Lit.int .u16 n).wf = true) : 0 ≤ n ∧ n < 65536 := by
  have e1 : IntKind.min .u16 = 0 := rfl
  have e2 : IntKind.max .u16 = 65535 := rfl
  simp only [Lit.wf, Bool.and_eq_true, decide_eq_true_eq, e1, e2] at h
  omega
theorem u8_range {n : Int} (h : (Lit.int .u8 n).wf = true) : 0 ≤ n ∧ n < 256 := by
  have e1 : IntKind.min .u8 = 0 := rfl
  have e2 : IntKind.max .u8 = 255 := rfl
  simp only [Lit.wf, Bool.and_eq_true, decide_eq_true_eq, e1, e2] at h
  omega
end Go.Proofs.YtbpbopjlcidefaaDoor.Fr
