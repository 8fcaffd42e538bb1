/- The frame of the laws that reach purge.Parse: the witness' world with the listed variables, sentinels too, and what the row's condition says of them. -/
import Derived.Test.YtbnjajpencahfaaGreatDoorFrameW
import Derived.Test.YtbnjajpencahfaaGreatDoorPars1
namespace Go.Proofs.YtbnjajpencahfaaGreatDoor.Fr
open Go.ChangeShapes Go.WideShapes Go.ChangeAt Go.RowKit

/-- A sentinel: a block more with its text, the variable's cell pointing there. -/
noncomputable def layTwo (h : Array Obj) (x : String × DataW Unit) : Array Obj :=
  match x.2, Tryz.prog.globalNamed x.1 with
  | .iface _ (.ptr d), some g => (h.modify g (holds #[.iface 133 (.pointer (some ⟨h.size, 0, none⟩))])).push (.cells (cellsD d).toArray 135 (0, 0))
  | _, _ => layOne h x
noncomputable def laidE (laid : List (String × DataW Unit)) (os : Os) : World :=
  { World.holding Tryz.prog os ⟨#[], #[], []⟩ with heap := laid.foldl layTwo (World.holding Tryz.prog os ⟨#[], #[], []⟩).heap }

theorem sentinel_laid {w : World} {name nm : String} {d : DataW Unit} {g : Nat} (hg : Tryz.prog.globalNamed name = some g) (ht : (Tryz.prog.globals[g]?).map (·.type) = some 37)
    (h : ∃ g t cs fuel p, Tryz.prog.globalNamed name = some g ∧ (Tryz.prog.globals[g]?).map (·.type) = some t ∧ w.var? Tryz.prog name = some cs ∧ DataW.trod (fun _ => ()) Tryz.prog w 0 (fun _ => true) false fuel t cs.toList = some (.iface nm d, p)) :
    ∃ tp p, w.var? Tryz.prog name = some #[.iface tp p] := by
  obtain ⟨g', t', cs, fuel, p, hg', ht', hv, hd⟩ := h
  obtain rfl := Option.some.inj (hg.symm.trans hg')
  obtain rfl := Option.some.inj (ht.symm.trans ht')
  obtain ⟨_, u, v, hcs, _⟩ := iface_of_trod Tryz.underlying37 hd
  obtain ⟨l⟩ := cs
  simp only at hcs
  subst hcs
  exact ⟨u, v, hv⟩

theorem parse_laid {w : World} {laid : List (String × DataW Unit)} (h : laidMetH Tryz.prog laid w) (hp : (laid.all fun x => x.2.handleName?.isNone) = true) (hm : ("quayside/purge.words", Rows.laid_quayside_purge_words) ∈ laid)
    (hs : ("strconv.ErrSyntax", Rows.laid_strconv_ErrSyntax) ∈ laid) (hr : ("strconv.ErrRange", Rows.laid_strconv_ErrRange) ∈ laid) : A1.ParseAt w := by
  have hw := words_laid h hp hm
  rw [Go.MakeChecks.laidMetH_plain Tryz.prog laid w hp] at h
  obtain ⟨ps, hv, _⟩ := h
  have hc := strings_laid (name := "quayside/purge.words") (g := 0) (ls := [[], [101, 120, 97, 99, 116], [112, 114, 101, 102, 105, 120], [116, 97, 103]]) (by kernel_rfl) (by kernel_rfl) Tryz.underlying60 (laid_reads hv _ _ hm)
  exact ⟨hw, hc 0 _ rfl, sentinel_laid (name := "strconv.ErrSyntax") (g := 2) (by kernel_rfl) (by kernel_rfl) (laid_reads hv _ _ hs), sentinel_laid (name := "strconv.ErrRange") (g := 3) (by kernel_rfl) (by kernel_rfl) (laid_reads hv _ _ hr)⟩
end Go.Proofs.YtbnjajpencahfaaGreatDoor.Fr
