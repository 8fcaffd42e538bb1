/- The frame of the laws over package purge: the witness' world with every listed variable as the row lists it, and the variable words out of the row's condition. -/
import Derived.Test.YtbnjajpencahfaaDoorFrame
import Derived.Test.YtbnjajpencahfaaDoorPurg6
import Derived.LaidLaws
import Derived.MakeChecks
import Derived.OpenShut
namespace Go.Proofs.YtbnjajpencahfaaDoor.Fr
open Go.ChangeShapes Go.WideShapes Go.ChangeAt Go.RowKit

/-- The cells of a datum that is a literal, a row of literals, or a row of rows. -/
def litV : Lit → Value
  | .int k n => .int k n
  | .string l => .string ⟨l.toArray⟩
  | .bool b => .bool b
  | _ => .nilIface
def cellsD1 : DataW Unit → List Value
  | .lit x => [litV x]
  | .agg l => l.flatMap fun | .lit x => [litV x] | _ => []
  | _ => []
def cellsD : DataW Unit → List Value
  | .lit x => [litV x]
  | .agg l => l.flatMap cellsD1
  | _ => []
/-- A world for the witness: the settled one, the listed variables holding what the row lists. -/
noncomputable def layOne (h : Array Obj) (x : String × DataW Unit) : Array Obj :=
  match Tryd.prog.globalNamed x.1 with
  | some g => h.modify g (holds (cellsD x.2).toArray)
  | none => h
noncomputable def laidW (laid : List (String × DataW Unit)) (os : Os) : World :=
  { World.holding Tryd.prog os ⟨#[], #[], []⟩ with heap := laid.foldl layOne (World.holding Tryd.prog os ⟨#[], #[], []⟩).heap }

/-- What a listed variable reads as. -/
theorem laid_reads {w : World} : ∀ {l : List (String × DataW Unit)} {ps : List MemPlace}, DataW.LaidVars Tryd.prog w l ps → ∀ n d, (n, d) ∈ l →
    ∃ g t cs fuel p, Tryd.prog.globalNamed n = some g ∧ (Tryd.prog.globals[g]?).map (·.type) = some t ∧ w.var? Tryd.prog n = some cs ∧ DataW.trod (fun _ => ()) Tryd.prog w 0 (fun _ => true) false fuel t cs.toList = some (d, p)
  | [], _, _, _, _, hm => by cases hm
  | (n', d') :: r, ps, h, n, d, hm => by
    obtain ⟨g, t, cs, fuel, p, q, h1, h2, h3, h4, h5, _⟩ := h
    rcases List.mem_cons.1 hm with e | e
    · cases e
      exact ⟨g, t, cs, fuel, p, h1, h2, h3, h4⟩
    · exact laid_reads h5 n d e
/-- The cells of a variable that is an array of strings. -/
theorem strings_laid {w : World} {n : Nat} {t : TypeId} {name : String} {ls : List (List UInt8)} {g : Nat} (hg : Tryd.prog.globalNamed name = some g) (ht : (Tryd.prog.globals[g]?).map (·.type) = some t) (hu : Tryd.prog.underlying t = some (.array n 9))
    (h : ∃ g t cs fuel p, Tryd.prog.globalNamed name = some g ∧ (Tryd.prog.globals[g]?).map (·.type) = some t ∧ w.var? Tryd.prog name = some cs ∧ DataW.trod (fun _ => ()) Tryd.prog w 0 (fun _ => true) false fuel t cs.toList = some (.agg (ls.map fun l => .lit (.string l)), p)) :
    ∀ (i : Nat) l, ls[i]? = some l → w.cell? ⟨g, i, none⟩ = some (.string ⟨l.toArray⟩) := by
  obtain ⟨g', t', cs, fuel, p, hg', ht', hv, hd⟩ := h
  obtain rfl := Option.some.inj (hg.symm.trans hg')
  obtain rfl := Option.some.inj (ht.symm.trans ht')
  obtain ⟨xs, m, _, hx, _, hxl, hall⟩ := DataW.trod_array hu hd
  have hmap : xs.map (·.1) = ls.map fun l => (DataW.lit (.string l) : DataW Unit) := by
    have := congrArg Prod.fst hx
    simpa using this.symm
  intro i l hl
  have hlen : ls.length = n := by have := congrArg List.length hmap; simp at this; omega
  have hi : i < n := by have := (List.getElem?_eq_some_iff.1 hl).1; omega
  have h1 := hall i hi
  rw [show Tryd.prog.cellsOf 9 = 1 by kernel_rfl, Nat.mul_one] at h1
  obtain ⟨b, hb⟩ : ∃ b, xs[i]? = some b := ⟨xs[i]'(by omega), List.getElem?_eq_getElem (by omega)⟩
  rw [hb] at h1
  obtain ⟨s, hcs, rfl, _⟩ := DataW.trod_string Tryd.underlying9 h1
  have h2 := congrArg (·[i]?) hmap
  simp only [List.getElem?_map, hb, hl, Option.map_some, Option.some.injEq, DataW.lit.injEq, Lit.string.injEq] at h2
  have h3 : cs[i]? = some (.string s) := by
    have := congrArg (·[0]?) hcs
    simpa [List.getElem?_take, List.getElem?_drop] using this
  rw [World.var?_cell hg hv i, h3]
  obtain ⟨⟨s⟩⟩ := s
  simp only at h2
  rw [← h2]

theorem words_laid {w : World} {laid : List (String × DataW Unit)} (h : laidMetH Tryd.prog laid w) (hp : (laid.all fun x => x.2.handleName?.isNone) = true) (hm : ("quayside/purge.words", Rows.laid_quayside_purge_words) ∈ laid) : A1.WordsAt w := by
  rw [Go.MakeChecks.laidMetH_plain Tryd.prog laid w hp] at h
  obtain ⟨ps, hv, _⟩ := h
  have hc := strings_laid (name := "quayside/purge.words") (g := 0) (ls := [[], [101, 120, 97, 99, 116], [112, 114, 101, 102, 105, 120], [116, 97, 103]]) (by kernel_rfl) (by kernel_rfl) Tryd.underlying52 (laid_reads hv _ _ hm)
  have c1 := hc 1 _ rfl
  refine ⟨?_, c1, hc 2 _ rfl, hc 3 _ rfl⟩
  unfold World.cell? at c1
  split at c1
  · rename_i h3; exact (Array.getElem?_eq_some_iff.1 h3).1
  · cases c1
end Go.Proofs.YtbnjajpencahfaaDoor.Fr
