/- Contracts and plain facts that the statement's proof leans on (texts joined). No condition beyond those that each names. -/
import Derived.Lib.LaidTab
import Derived.Lib.AppendIntMem
import Derived.LaidLaws
import Derived.MakeChecks
import Derived.OpenShut
import Derived.BigQuiet
import Derived.Test.YtpkhbhdidkkebaaGreatDoorPvA
import Derived.Test.YtpkhbhdidkkebaaGreatDoorPvB
import Derived.Test.YtpkhbhdidkkebaaGreatDoorPvC
import Derived.Test.YtpkhbhdidkkebaaGreatDoorPvF
import Derived.Test.YtpkhbhdidkkebaaGreatDoorPvG
import Derived.Test.YtpkhbhdidkkebaaGreatDoorPvH
import Derived.Test.YtpkhbhdidkkebaaGreatDoorPvJ
section
namespace Go.Proofs.YtpkhbhdidkkebaaGreatDoor
open Go.RowKit Pl Ad Go.Shelf
attribute [local go_sem] ba_get ba_append ba_extract_end ba_extract_zero ba_extract conv_one
set_option maxRecDepth 100000
set_option maxHeartbeats 4000000
set_option linter.unusedVariables false
set_option linter.unusedSimpArgs false
namespace Sg
open Kr A1
theorem var_below2 {P : Program} {w w' : World} {n : String} {cs : Array Value} (h : w.var? P n = some cs) (hb : Below w.heap.size w w') : w'.var? P n = some cs := by
 unfold World.var? at h ⊢
 cases hg : P.globalNamed n with
 | none => simp [hg] at h
 | some g =>
   simp only [hg, Option.bind_some] at h ⊢
   have hlt : g < w.heap.size := by
    rcases Nat.lt_or_ge g w.heap.size with h' | h'
    ·exact h'
    ·simp [Array.getElem?_eq_none h'] at h
   rw [hb.block g hlt]
   exact h
/-- The variables that the package reads. -/
structure SgnAt (w : World) : Prop where
 rdy : Ready w
 tab : Lib.TabIs Tryz.prog w "internal/strconv.uint64pow10" .u64 Lib.pow10Tab
 stx : ∃ tp p, w.var? Tryz.prog "strconv.ErrSyntax" = some #[.iface tp p]
 rng : ∃ tp p, w.var? Tryz.prog "strconv.ErrRange" = some #[.iface tp p]
 con : Dg.ConstAt w
theorem SgnAt.below {w w' : World} (h : SgnAt w) (hb : Below w.heap.size w w') : SgnAt w' :=
 ⟨h.rdy.below hb, var_below2 h.tab hb, by obtain ⟨tp, p, h1⟩ := h.stx; exact ⟨tp, p, var_below2 h1 hb⟩, by obtain ⟨tp, p, h1⟩ := h.rng; exact ⟨tp, p, var_below2 h1 hb⟩, h.con.below hb⟩
@[reducible] def tkV (t : TokM) : Value := .agg #[.string ⟨t.id.toArray⟩, .int .i64 t.frm, .int .i64 t.til]
theorem itoa_any (n : Int) (w : World) (h : SgnAt w) (h0 : 0 ≤ n) (h1 : n ≤ 1099511627776) :
 Calls Tryz.prog 43 #[.int .i64 n] w fun e w' => e = .returned (.string ⟨(decI n).toArray⟩) ∧ Below w.heap.size w w' :=
 (Tryz.strconv_Itoa n (by omega) (by omega) w h.tab).mono fun e w' hx => by
  obtain ⟨rfl, k, os, rfl⟩ := hx
  exact ⟨by unfold Lib.itoa decI; rw [if_neg (by omega)], Lib.below_grow _ _ (Nat.le_refl _) k os⟩
theorem decI_len {n : Int} (h1 : n ≤ 1099511627776) : (decI n).length ≤ 13 := dec_len 13 _ (by omega) (by omega)
theorem with_any (a : Adr) (part : Bs) (w : World) (h3 : a.query.length ≤ 134217728) (hp : part.length ≤ 134217728) :
 Calls Tryz.prog 49 #[adV a, .string ⟨part.toArray⟩] w fun e w' => e = .returned (adV (a.plus part)) ∧ Below w.heap.size w w' := by
 obtain ⟨h, p, q, b⟩ := a
 simp only at h3
 cases b
 all_goals
   go_enter Tryz.func49, Tryz.ntmps49
   go_wp2
   refine bodyPost_ret (v := _) (by simp [results, Tryz.results49, go_sem]; rfl) rfl ⟨?_, ?_⟩
   ·simp [Adr.plus]
   ·exact ((Below.refl _ _).alloc (Nat.le_refl _) _).alloc (by simp) _
theorem rwith_any (a : Adr) (part : Bs) (w : World) (h3 : a.query.length ≤ 134217728) (hp : part.length ≤ 134217728) :
 Calls Tryz.prog 69 #[adV a, .string ⟨part.toArray⟩] w fun e w' => e = .returned (adV (a.plus part)) ∧ Below w.heap.size w w' := by
 obtain ⟨h, p, q, b⟩ := a
 simp only at h3
 cases b
 all_goals
   go_enter Tryz.func69, Tryz.ntmps69
   go_wp2
   refine bodyPost_ret (v := _) (by simp [results, Tryz.results69, go_sem]; rfl) rfl ⟨?_, ?_⟩
   ·simp [Adr.plus]
   ·exact ((Below.refl _ _).alloc (Nat.le_refl _) _).alloc (by simp) _
end Sg
end Go.Proofs.YtpkhbhdidkkebaaGreatDoor
end

section
namespace Go.Proofs.YtpkhbhdidkkebaaGreatDoor.Fr
open Go.ChangeShapes Go.WideShapes Go.ChangeAt Go.RowKit
/-- The cells of a datum that is a literal, a row of literals, or a row of rows. -/
def litV : Lit → Value
  | .int k n => .int k n
  | .string l => .string ⟨l.toArray⟩
  | .bool b => .bool b
  | _ => .nilIface
def cellsD1 : DataW Unit → List Value
  | .lit x => [litV x]
  | .agg l => l.flatMap fun | .lit x => [litV x] | _ => []
  | _ => []
def cellsD : DataW Unit → List Value
  | .lit x => [litV x]
  | .agg l => l.flatMap cellsD1
  | _ => []
/-- A world for the witness: the settled one, the listed variables holding what the row lists; a sentinel points to a block of its own. -/
noncomputable def layOne (h : Array Obj) (x : String × DataW Unit) : Array Obj :=
 match Tryz.prog.globalNamed x.1 with
 | some g => h.modify g (holds (cellsD x.2).toArray)
 | none => h
noncomputable def layTwo (h : Array Obj) (x : String × DataW Unit) : Array Obj :=
 match x.2, Tryz.prog.globalNamed x.1 with
 | .iface _ (.ptr d), some g => (h.modify g (holds #[.iface 223 (.pointer (some ⟨h.size, 0, none⟩))])).push (.cells (cellsD d).toArray 225 (0, 0))
 | _, _ => layOne h x
noncomputable def laidE (laid : List (String × DataW Unit)) (os : Os) : World :=
 { World.holding Tryz.prog os ⟨#[], #[], []⟩ with heap := laid.foldl layTwo (World.holding Tryz.prog os ⟨#[], #[], []⟩).heap }
/-- What a listed variable reads as. -/
theorem laid_reads {w : World} : ∀ {l : List (String × DataW Unit)} {ps : List MemPlace}, DataW.LaidVars Tryz.prog w l ps → ∀ n d, (n, d) ∈ l →
    ∃ g t cs fuel p, Tryz.prog.globalNamed n = some g ∧ (Tryz.prog.globals[g]?).map (·.type) = some t ∧ w.var? Tryz.prog n = some cs ∧ DataW.trod (fun _ => ()) Tryz.prog w 0 (fun _ => true) false fuel t cs.toList = some (d, p)
  | [], _, _, _, _, hm => by cases hm
  | (n', d') :: r, ps, h, n, d, hm => by
    obtain ⟨g, t, cs, fuel, p, q, h1, h2, h3, h4, h5, _⟩ := h
    rcases List.mem_cons.1 hm with e | e
    ·cases e
     exact ⟨g, t, cs, fuel, p, h1, h2, h3, h4⟩
    ·exact laid_reads h5 n d e
theorem sentinel_laid {w : World} {name nm : String} {d : DataW Unit} {g : Nat} (hg : Tryz.prog.globalNamed name = some g) (ht : (Tryz.prog.globals[g]?).map (·.type) = some 29)
    (h : ∃ g t cs fuel p, Tryz.prog.globalNamed name = some g ∧ (Tryz.prog.globals[g]?).map (·.type) = some t ∧ w.var? Tryz.prog name = some cs ∧ DataW.trod (fun _ => ()) Tryz.prog w 0 (fun _ => true) false fuel t cs.toList = some (.iface nm d, p)) :
    ∃ tp p, w.var? Tryz.prog name = some #[.iface tp p] := by
 obtain ⟨g', t', cs, fuel, p, hg', ht', hv, hd⟩ := h
 obtain rfl := Option.some.inj (hg.symm.trans hg')
 obtain rfl := Option.some.inj (ht.symm.trans ht')
 obtain ⟨_, u, v, hcs, _⟩ := iface_of_trod Tryz.underlying29 hd
 obtain ⟨l⟩ := cs
 simp only at hcs
 subst hcs
 exact ⟨u, v, hv⟩
theorem tab_laid {w : World} {name : String} {k : IntKind} {zs : List Int} {g n : Nat} {t e : TypeId} (hg : Tryz.prog.globalNamed name = some g) (ht : (Tryz.prog.globals[g]?).map (·.type) = some t) (hu : Tryz.prog.underlying t = some (.array n e)) (he : Tryz.prog.underlying e = some (.int k)) (hce : Tryz.prog.cellsOf e = 1) (hct : Tryz.prog.cellsOf t = n)
    (h : ∃ g t cs fuel p, Tryz.prog.globalNamed name = some g ∧ (Tryz.prog.globals[g]?).map (·.type) = some t ∧ w.var? Tryz.prog name = some cs ∧ DataW.trod (fun _ => ()) Tryz.prog w 0 (fun _ => true) false fuel t cs.toList = some (Lib.tabData k zs, p)) : Lib.TabIs Tryz.prog w name k zs := by
 obtain ⟨g', t', cs, fuel, p, hg', ht', hv, hd⟩ := h
 obtain rfl := Option.some.inj (hg.symm.trans hg')
 obtain rfl := Option.some.inj (ht.symm.trans ht')
 unfold Lib.TabIs
 rw [hv, ← Lib.cells_of_tab hu he hce hct hd]
def constZ : List Int := (List.range 64).map Dg.kAt
theorem sgn_laid {w : World} {laid : List (String × DataW Unit)} (hs : w.ShapedOpen Tryz.prog) (h : laidMetH Tryz.prog laid w) (hp : (laid.all fun x => x.2.handleName?.isNone) = true) (h1 : ("internal/strconv.uint64pow10", Rows.laid_internal_strconv_uint64pow10) ∈ laid)
    (h2 : ("strconv.ErrSyntax", Rows.laid_strconv_ErrSyntax) ∈ laid) (h3 : ("strconv.ErrRange", Rows.laid_strconv_ErrRange) ∈ laid) (h4 : ("quayside/digest.constants", Rows.laid_quayside_digest_constants) ∈ laid) : Sg.SgnAt w := by
 rw [Go.MakeChecks.laidMetH_plain Tryz.prog laid w hp] at h
 obtain ⟨ps, hv, _⟩ := h
 have hc : Lib.TabIs Tryz.prog w "quayside/digest.constants" .u32 constZ := tab_laid (g := 0) (t := 187) (e := 154) (n := 64) (by kernel_rfl) (by kernel_rfl) Tryz.underlying187 Tryz.underlying154 (by kernel_rfl) (by kernel_rfl)
   (by have h9 := laid_reads hv _ _ h4; rw [show (Rows.laid_quayside_digest_constants : DataW Unit) = Lib.tabData .u32 constZ by kernel_rfl] at h9; exact h9)
 have hcell : ∀ t, t < 64 → w.cell? ⟨0, t, none⟩ = some (.int .u32 (Dg.kAt t)) := fun t ht => by
  have h9 := hc.cell (g := 0) (by kernel_rfl) t (by unfold constZ; simp; omega)
  rw [h9]
  unfold constZ
  rw [List.getD_eq_getElem?_getD, List.getElem?_map, List.getElem?_range ht]
  rfl
 exact ⟨ready hs,
   tab_laid (g := 4) (t := 217) (e := 180) (n := 20) (by kernel_rfl) (by kernel_rfl) Tryz.underlying217 Tryz.underlying180 (by kernel_rfl) (by kernel_rfl)
     (by have h9 := laid_reads hv _ _ h1; rw [show (Rows.laid_internal_strconv_uint64pow10 : DataW Unit) = Lib.tabData .u64 Lib.pow10Tab by kernel_rfl] at h9; exact h9),
   sentinel_laid (g := 2) (by kernel_rfl) (by kernel_rfl) (laid_reads hv _ _ h2), sentinel_laid (g := 3) (by kernel_rfl) (by kernel_rfl) (laid_reads hv _ _ h3),
   ⟨World.block_lt_of_cell? w ⟨0, 0, none⟩ (hcell 0 (by decide)), hcell⟩⟩
end Go.Proofs.YtpkhbhdidkkebaaGreatDoor.Fr
end

section
namespace Go.Proofs.YtpkhbhdidkkebaaGreatDoor
set_option maxRecDepth 100000
theorem Op.andT {a b : Bool} (ha : a = true) (hb : b = true) : (a && b) = true := by rw [ha, hb]; rfl
namespace Fr
theorem sf_laidOut : laidOutB Tryz.prog = true := by kernel_rfl
theorem sf_mapsRowed : mapsRowed Tryz.prog = true := by kernel_rfl
theorem sf_stops : (Tryz.prog.stops == []) = true := by kernel_rfl
theorem sf_stopKnobs : (Tryz.prog.stopKnobs == []) = true := by kernel_rfl
theorem sf_plainKeys : (Rows.wholeTokensRow.plainKeys == Tryz.prog.plainKeys) = true := by kernel_rfl
theorem sf_heard : Tryz.prog.stopsHeard = true := by kernel_rfl
theorem sf_mayEnter : Tryz.prog.mayEnter = true := by kernel_rfl
theorem sf_lifted : (Rows.wholeTokensRow.lifted == Tryz.prog.liftsFinal) = true := by kernel_rfl
theorem sf_make : (Tryz.prog.make == some Rows.wholeTokensRow.make) = true := by kernel_rfl
end Fr
end Go.Proofs.YtpkhbhdidkkebaaGreatDoor
end

section
namespace Go.Proofs.YtpkhbhdidkkebaaGreatDoor
open Go.RowKit Pl Ad Go.Shelf
attribute [local go_sem] ba_get ba_append ba_extract_end ba_extract_zero ba_extract conv_one
set_option maxRecDepth 100000
set_option maxHeartbeats 4000000
set_option linter.unusedVariables false
set_option linter.unusedSimpArgs false
namespace Sg
open Kr A1
theorem size_any (a : Adr) (w : World) (h1 : a.host.length ≤ 134217728) (h2 : a.path.length ≤ 134217728) (h3 : a.query.length ≤ 134217728) :
 Calls Tryz.prog 89 #[adV a] w fun e w' => e = .returned (.int .i64 (a.text.length : Int)) ∧ Below w.heap.size w w' := by
 obtain ⟨h, p, q, b⟩ := a
 simp only at h1 h2 h3
 cases b
 all_goals
   go_enter Tryz.func89, Tryz.ntmps89
   go_wp2
   go_ret
   exact ⟨ret_int (by simp [Adr.text, adText]; try omega), (Below.refl _ _).alloc (Nat.le_refl _) _⟩
theorem named_any (l : Bs) (w : World) (hl : l.length ≤ 2147483648) :
 Calls Tryz.prog 88 #[.string ⟨l.toArray⟩] w fun e w' => e = .returned (.bool (idOk l)) ∧ w = w' := by
 go_enter Tryz.func88, Tryz.ntmps88
 go_wp2
 go_loop [7] (fun i => ∃ k : Nat, k ≤ l.length ∧ i = .int .i64 k ∧ Hid ((l.take k).all idc = true)) (fun i => l.length - (intOf i).toNat)
 case atStart => exact ⟨0, Nat.zero_le _, rfl, Lib.hid rfl⟩
 case round =>
  obtain ⟨k, hk, rfl, H⟩ := hrel
  by_cases hlt : k < l.length
  ·have hb := byte_lt l[k]
   go_wp2
   all_goals first
    | (go_round
       case rel => exact ⟨k + 1, by omega, by go_num, Lib.hid (all_next hlt H.out (idc_yes (by first | omega | (simp only [Bool.not_eq_eq_eq_not, Bool.not_false, Bool.not_true, decide_eq_true_eq, decide_eq_false_iff_not] at *; omega))))⟩
       case measure => simp [intOf]; omega)
    | (go_ret
       exact ⟨ret_bool (idOk_bad hlt (idc_no (by first | omega | (simp only [Bool.not_eq_eq_eq_not, Bool.not_false, Bool.not_true, decide_eq_true_eq, decide_eq_false_iff_not] at *; omega)))).symm, rfl⟩)
  ·have HN := Lib.hid (idOk_of (l := l) (by have h := H.out; rw [List.take_of_length_le (by omega)] at h; exact h))
   go_wp2
   all_goals
     go_ret
     exact ⟨ret_bool (by rw [HN.out, Bool.eq_iff_iff]; simp; try omega), rfl⟩
theorem hexOk_of {l : Bs} (h : l.all hexc = true) : hexOk l = decide (l.length = 32) := by unfold hexOk; rw [h]; rfl
theorem hexOk_bad {l : Bs} {k : Nat} (hk : k < l.length) (h : hexc l[k] = false) : hexOk l = false := by
 unfold hexOk
 rw [show l.all hexc = false from Bool.eq_false_iff.2 fun e => by
  have := List.all_eq_true.1 e _ (List.getElem_mem hk)
  rw [h] at this; cases this]
 rfl
theorem hex_next {l : Bs} {k : Nat} (hk : k < l.length) (h : (l.take k).all hexc = true) (h2 : hexc l[k] = true) : (l.take (k + 1)).all hexc = true := by
 rw [take_snoc hk, List.all_append, h]; simp [h2]
theorem hexc_yes {b : UInt8} (h : (48 ≤ (b.toNat : Int) ∧ (b.toNat : Int) ≤ 57) ∨ (97 ≤ (b.toNat : Int) ∧ (b.toNat : Int) ≤ 102)) : hexc b = true := by
 unfold hexc
 simp only [Bool.or_eq_true, Bool.and_eq_true, decide_eq_true_eq]; omega
theorem hexc_no {b : UInt8} (h : ((b.toNat : Int) < 48 ∨ 57 < (b.toNat : Int)) ∧ ((b.toNat : Int) < 97 ∨ 102 < (b.toNat : Int))) : hexc b = false := by
 unfold hexc
 simp only [Bool.or_eq_false_iff, Bool.and_eq_false_iff, decide_eq_false_iff_not]; omega
theorem hexadecimal_any (l : Bs) (w : World) (hl : l.length ≤ 2147483648) :
 Calls Tryz.prog 58 #[.string ⟨l.toArray⟩] w fun e w' => e = .returned (.bool (hexOk l)) ∧ w = w' := by
 go_enter Tryz.func58, Tryz.ntmps58
 go_wp2
 go_loop [6] (fun i => ∃ k : Nat, k ≤ l.length ∧ i = .int .i64 k ∧ Hid ((l.take k).all hexc = true)) (fun i => l.length - (intOf i).toNat)
 case atStart => exact ⟨0, Nat.zero_le _, rfl, Lib.hid rfl⟩
 case round =>
  obtain ⟨k, hk, rfl, H⟩ := hrel
  by_cases hlt : k < l.length
  ·have hb := byte_lt l[k]
   go_wp2
   all_goals first
    | (go_round
       case rel => exact ⟨k + 1, by omega, by go_num, Lib.hid (hex_next hlt H.out (hexc_yes (by first | omega | (simp only [Bool.not_eq_eq_eq_not, Bool.not_false, Bool.not_true, decide_eq_true_eq, decide_eq_false_iff_not] at *; omega))))⟩
       case measure => simp [intOf]; omega)
    | (go_ret
       exact ⟨ret_bool (hexOk_bad hlt (hexc_no (by first | omega | (simp only [Bool.not_eq_eq_eq_not, Bool.not_false, Bool.not_true, decide_eq_true_eq, decide_eq_false_iff_not] at *; omega)))).symm, rfl⟩)
  ·have HN := Lib.hid (hexOk_of (l := l) (by have h := H.out; rw [List.take_of_length_le (by omega)] at h; exact h))
   go_wp2
   all_goals
     go_ret
     exact ⟨ret_bool (by rw [HN.out, Bool.eq_iff_iff]; simp; try omega), rfl⟩
theorem digits_any (l : Bs) (w : World) (hl : l.length ≤ 2147483648) :
 Calls Tryz.prog 104 #[.string ⟨l.toArray⟩] w fun e w' => e = .returned (.bool (hexOk l)) ∧ w = w' := by
 go_enter Tryz.func104, Tryz.ntmps104
 go_wp2
 go_loop [6] (fun i => ∃ k : Nat, k ≤ l.length ∧ i = .int .i64 k ∧ Hid ((l.take k).all hexc = true)) (fun i => l.length - (intOf i).toNat)
 case atStart => exact ⟨0, Nat.zero_le _, rfl, Lib.hid rfl⟩
 case round =>
  obtain ⟨k, hk, rfl, H⟩ := hrel
  by_cases hlt : k < l.length
  ·have hb := byte_lt l[k]
   go_wp2
   all_goals first
    | (go_round
       case rel => exact ⟨k + 1, by omega, by go_num, Lib.hid (hex_next hlt H.out (hexc_yes (by first | omega | (simp only [Bool.not_eq_eq_eq_not, Bool.not_false, Bool.not_true, decide_eq_true_eq, decide_eq_false_iff_not] at *; omega))))⟩
       case measure => simp [intOf]; omega)
    | (go_ret
       exact ⟨ret_bool (hexOk_bad hlt (hexc_no (by first | omega | (simp only [Bool.not_eq_eq_eq_not, Bool.not_false, Bool.not_true, decide_eq_true_eq, decide_eq_false_iff_not] at *; omega)))).symm, rfl⟩)
  ·have HN := Lib.hid (hexOk_of (l := l) (by have h := H.out; rw [List.take_of_length_le (by omega)] at h; exact h))
   go_wp2
   all_goals
     go_ret
     exact ⟨ret_bool (by rw [HN.out, Bool.eq_iff_iff]; simp; try omega), rfl⟩
@[reducible] def cutV (p s : Bs) : Value := .tuple #[.string ⟨((cutP p s).getD []).toArray⟩, .bool (cutP p s).isSome]
@[reducible] def cutV2 (p s : Bs) : Value := .tuple #[.string ⟨((cutP p s).getD s).toArray⟩, .bool (cutP p s).isSome]
theorem cut_iff {p s : Bs} : cutP p s = if p.length ≤ s.length ∧ s.take p.length = p then some (s.drop p.length) else none := by
 unfold cutP
 have h9 : (p.isPrefixOf s = true) ↔ (p.length ≤ s.length ∧ s.take p.length = p) := by
  rw [List.isPrefixOf_iff_prefix, List.prefix_iff_eq_take]
  constructor
  ·intro h; exact ⟨by have := congrArg List.length h; rw [List.length_take] at this; omega, h.symm⟩
  ·intro h; exact h.2.symm
 by_cases h : p.isPrefixOf s = true
 ·rw [if_pos h, if_pos (h9.1 h)]
 ·rw [if_neg h, if_neg (fun e => h (h9.2 e))]
theorem drop_all (s p : Bs) : (s.drop p.length).take (s.length - p.length) = s.drop p.length := List.take_of_length_le (by rw [List.length_drop]; omega)
theorem value_any (s p : Bs) (w : World) (hs : s.length ≤ 134217728) (hp : p.length ≤ 134217728) :
 Calls Tryz.prog 102 #[.string ⟨s.toArray⟩, .string ⟨p.toArray⟩] w fun e w' => e = .returned (cutV p s) ∧ w = w' := by
 by_cases hl : p.length ≤ s.length
 ·have hli : ¬ (s.length : Int) < (p.length : Int) := by omega
  by_cases ht : s.take p.length = p
  ·have HC := Lib.hid (show cutP p s = some (s.drop p.length) by rw [cut_iff, if_pos ⟨hl, ht⟩])
   have hte : (s.take p.length == p) = true := beq_iff_eq.2 ht
   have hdr := drop_all s p
   clear ht
   go_enter Tryz.func102, Tryz.ntmps102
   go_wp2
   go_ret2
   exact ⟨by rw [cutV, HC.out]; rfl, rfl⟩
  ·have HC := Lib.hid (show cutP p s = none by rw [cut_iff, if_neg (fun h => ht h.2)])
   have hte : (s.take p.length == p) = false := beq_eq_false_iff_ne.2 ht
   clear ht
   go_enter Tryz.func102, Tryz.ntmps102
   go_wp2
   go_ret2
   exact ⟨by rw [cutV, HC.out]; rfl, rfl⟩
 ·have hli : (s.length : Int) < (p.length : Int) := by omega
  have HC := Lib.hid (show cutP p s = none by rw [cut_iff, if_neg (fun h => hl h.1)])
  go_enter Tryz.func102, Tryz.ntmps102
  go_wp2
  go_ret2
  exact ⟨by rw [cutV, HC.out]; rfl, rfl⟩
theorem liteHas_any (s p : Bs) (w : World) (hs : s.length ≤ 134217728) (hp : p.length ≤ 134217728) :
 Calls Tryz.prog 127 #[.string ⟨s.toArray⟩, .string ⟨p.toArray⟩] w fun e w' => e = .returned (.bool (cutP p s).isSome) ∧ w = w' := by
 by_cases hl : p.length ≤ s.length
 ·have hli : (p.length : Int) ≤ (s.length : Int) := by omega
  by_cases ht : s.take p.length = p
  ·have HC := Lib.hid (show cutP p s = some (s.drop p.length) by rw [cut_iff, if_pos ⟨hl, ht⟩])
   have hte : (s.take p.length == p) = true := beq_iff_eq.2 ht
   have hdr := drop_all s p
   clear ht
   go_enter Tryz.func127, Tryz.ntmps127
   go_wp2
   go_ret
   exact ⟨by rw [HC.out]; rfl, rfl⟩
  ·have HC := Lib.hid (show cutP p s = none by rw [cut_iff, if_neg (fun h => ht h.2)])
   have hte : (s.take p.length == p) = false := beq_eq_false_iff_ne.2 ht
   clear ht
   go_enter Tryz.func127, Tryz.ntmps127
   go_wp2
   go_ret
   exact ⟨by rw [HC.out]; rfl, rfl⟩
 ·have hli : ¬ (p.length : Int) ≤ (s.length : Int) := by omega
  have HC := Lib.hid (show cutP p s = none by rw [cut_iff, if_neg (fun h => hl h.1)])
  go_enter Tryz.func127, Tryz.ntmps127
  go_wp2
  go_ret
  exact ⟨by rw [HC.out]; rfl, rfl⟩
theorem liteCut_any (s p : Bs) (w : World) (hs : s.length ≤ 134217728) (hp : p.length ≤ 134217728) :
 Calls Tryz.prog 91 #[.string ⟨s.toArray⟩, .string ⟨p.toArray⟩] w fun e w' => e = .returned (cutV2 p s) ∧ w = w' := by
 by_cases hl : p.length ≤ s.length ∧ s.take p.length = p
 ·have HC := Lib.hid (show cutP p s = some (s.drop p.length) by rw [cut_iff, if_pos hl])
  have hli : (p.length : Int) ≤ (s.length : Int) := by omega
  have hln := hl.1
  have hdr := drop_all s p
  clear hl
  go_enter Tryz.func91, Tryz.ntmps91
  go_wp2_with (go_at_call 127; refine (liteHas_any s p _ hs hp).mono ?_; rw [HC.out]; rintro e w' ⟨rfl, rfl⟩)
  go_ret2
  exact ⟨by rw [cutV2, HC.out]; rfl, rfl⟩
 ·have HC := Lib.hid (show cutP p s = none by rw [cut_iff, if_neg hl])
  clear hl
  go_enter Tryz.func91, Tryz.ntmps91
  go_wp2_with (go_at_call 127; refine (liteHas_any s p _ hs hp).mono ?_; rw [HC.out]; rintro e w' ⟨rfl, rfl⟩)
  go_ret2
  exact ⟨by rw [cutV2, HC.out]; rfl, rfl⟩
theorem cutPrefix_any (s p : Bs) (w : World) (hs : s.length ≤ 134217728) (hp : p.length ≤ 134217728) :
 Calls Tryz.prog 56 #[.string ⟨s.toArray⟩, .string ⟨p.toArray⟩] w fun e w' => e = .returned (cutV2 p s) ∧ w = w' := by
 go_enter Tryz.func56, Tryz.ntmps56
 go_wp2_with (go_at_call 91; refine (liteCut_any s p _ hs hp).mono ?_; rintro e w' ⟨rfl, rfl⟩)
 go_ret2
 exact ⟨rfl, rfl⟩
end Sg
end Go.Proofs.YtpkhbhdidkkebaaGreatDoor
end

section
namespace Go.Proofs.YtpkhbhdidkkebaaGreatDoor
open Go.RowKit Pl Ad
attribute [local go_sem] ba_get conv_one conv_one_drewN ba_append ba_extract
set_option maxRecDepth 100000
set_option maxHeartbeats 4000000
set_option linter.unusedVariables false
namespace A1

theorem ref_any (a : Adr) (w : World) : Calls Tryz.prog 32 #[adV a] w fun e w' => e = .returned (adV a) ∧ Below w.heap.size w w' := by
 obtain ⟨h, p, q, b⟩ := a
 go_enter Tryz.func32, Tryz.ntmps32
 go_wp2
 refine bodyPost_ret (v := adV ⟨h, p, q, b⟩) (by simp [results, Tryz.results32, go_sem]) rfl ⟨rfl, ?_⟩
 exact ((Below.refl _ _).alloc (Nat.le_refl _) _).alloc (by simp) _
theorem of_any (a : Adr) (w : World) : Calls Tryz.prog 29 #[adV a] w fun e w' => e = .returned (adV a) ∧ Below w.heap.size w w' := by
 obtain ⟨h, p, q, b⟩ := a
 go_enter Tryz.func29, Tryz.ntmps29
 go_wp2
 refine bodyPost_ret (v := adV ⟨h, p, q, b⟩) (by simp [results, Tryz.results29, go_sem]) rfl ⟨rfl, ?_⟩
 exact ((Below.refl _ _).alloc (Nat.le_refl _) _).alloc (by simp) _

end A1
end Go.Proofs.YtpkhbhdidkkebaaGreatDoor
end

section
section
namespace Go.Proofs.YtpkhbhdidkkebaaGreatDoor
open Go.RowKit Pl
namespace A1
/-- A value holds these strings. -/
def StrsV (w : World) (v : Value) (xs : List Bs) : Prop :=
 (xs = [] ∧ (v = .slice none 0 0 ∨ ∃ a c, v = .slice (some a) 0 c)) ∨ ∃ b o c : Nat, v = .slice (some ⟨b, o, none⟩) xs.length c ∧ xs.length ≤ c ∧ b < w.heap.size ∧ CellsAt w b o xs
theorem StrsV.below {w w' : World} {v : Value} {xs : List Bs} (h : StrsV w v xs) (hb : Below w.heap.size w w') : StrsV w' v xs := by
 rcases h with h | ⟨b, o, c, h1, h2, h3, h4⟩
 ·exact .inl h
 ·exact .inr ⟨b, o, c, h1, h2, Nat.lt_of_lt_of_le h3 hb.size, h4.below hb h3⟩
theorem StrsV.drewN {w : World} {v : Value} {xs : List Bs} (h : StrsV w v xs) (q : Nat) : StrsV (w.drewN q) v xs :=
 h.below (below_drewN (Below.refl _ _) q)
theorem CellsAt.one {w : World} {b o k : Nat} {xs : List Bs} (h : CellsAt w b o xs) (hk : k < xs.length) : w.cell? ⟨b, o + k, none⟩ = some (.string ⟨(xs[k]).toArray⟩) := h k xs[k] (by simp [hk])
theorem StrsV.form {w : World} {v : Value} {xs : List Bs} (h : StrsV w v xs) : ∃ a c, v = .slice a xs.length c := by
 rcases h with ⟨rfl, rfl | ⟨a, c, rfl⟩⟩ | ⟨b, o, c, rfl, _⟩
 ·exact ⟨_, _, rfl⟩
 ·exact ⟨_, _, rfl⟩
 ·exact ⟨_, _, rfl⟩
end A1
end Go.Proofs.YtpkhbhdidkkebaaGreatDoor
end

section
namespace Go.Proofs.YtpkhbhdidkkebaaGreatDoor
open Go.RowKit Pl
namespace A1

end A1
end Go.Proofs.YtpkhbhdidkkebaaGreatDoor
end
end

section
namespace Go.Proofs.YtpkhbhdidkkebaaGreatDoor
open Go.RowKit Pl Ad
attribute [local go_sem] ba_get conv_one conv_one_drewN ba_append ba_extract_end ba_extract_zero ba_extract
set_option maxRecDepth 100000
set_option maxHeartbeats 4000000
set_option linter.unusedVariables false
namespace A1

theorem argL_off (q n : Bs) : argL q n false = none := rfl
theorem argL_on (q n : Bs) : argL q n true = argFind n (splitOn 38 q) := rfl
theorem argFind_end {n : Bs} {xs : List Bs} {k : Nat} (h : argFind n xs = argFind n (xs.drop k)) (hk : xs.length ≤ k) : argFind n xs = none := by
 rw [h, List.drop_of_length_le hk]; rfl
/-- What a search yields. -/
def argV (r : Option Bs) : Value := .tuple #[.string ⟨(r.getD []).toArray⟩, .bool r.isSome]
theorem argIs_len {n x : Bs} (h : argIs n x = true) : n.length + 1 ≤ x.length := by
 simp only [argIs, List.isPrefixOf_iff_prefix] at h
 obtain ⟨t, rfl⟩ := h
 simp <;> omega

theorem refArg_any (h p q n : Bs) (b : Bool) (w : World) (hq : q.length ≤ 2147483648) (hn : n.length ≤ 2147483648) :
 Calls Tryz.prog 97 #[.agg #[.string ⟨h.toArray⟩, .string ⟨p.toArray⟩, .string ⟨q.toArray⟩, .bool b], .string ⟨n.toArray⟩] w fun e w' => e = .returned (argV (argL q n b)) ∧ Below w.heap.size w w' := by
 have HBZ := Lib.hid ((Below.refl w.heap.size w).alloc (Nat.le_refl _) (.cells #[.string ⟨h.toArray⟩, .string ⟨p.toArray⟩, .string ⟨q.toArray⟩, .bool b] 63))
 cases b
 ·go_enter Tryz.func97, Tryz.ntmps97
  go_wp2_with fail
  go_ret2
  exact ⟨rfl, HBZ.out⟩
 ·have HLN := Lib.hid (splitOn_count 38 q)
  have HA := Lib.hid (argL_on q n)
  go_enter Tryz.func97, Tryz.ntmps97
  go_wp2_with fail
  refine (refCut_any q 38 _ (by omega)).mono ?_
  rintro e w1 ⟨bb, c, rfl, hcap, hwb, hbw, hcells, hb1⟩
  have HB1 := Lib.hid (HBZ.out.trans (hb1.mono (by simp)))
  clear hb1
  generalize hxs : splitOn 38 q = xs at hcells hcap
  have HXS := Lib.hid hxs
  clear hxs
  have hln : xs.length ≤ q.length + 1 := by rw [← HXS.out]; exact HLN.out
  go_wp2_with fail
  go_loop [16] (fun i => ∃ k : Nat, k ≤ xs.length ∧ i = .int .i64 k ∧ Hid (argFind n xs = argFind n (xs.drop k))) (fun i => xs.length - (intOf i).toNat)
  case atStart => exact ⟨0, Nat.zero_le _, rfl, rfl⟩
  case round =>
   obtain ⟨k, hk, rfl, H⟩ := hrel
   by_cases hlt : k < xs.length
   ·have hc0 := hcells k xs[k] (by simp [hlt])
    rw [Nat.zero_add] at hc0
    have HD := Lib.hid (drop_cons hlt)
    generalize hx : xs[k] = x at hc0 HD
    clear hx
    have HT := Lib.hid (argIs_take n x)
    cases ha : argIs n x with
    | true =>
      have hnl := argIs_len ha
      have HF := Lib.hid (show argL q n true = some ((x.drop (n.length + 1)).take (x.length - (n.length + 1))) by rw [HA.out, HXS.out, H.out, HD.out, argFind_hit _ ha, List.take_of_length_le (by simp)])
      have h4 := HT.out
      rw [ha] at h4
      simp only [Bool.true_eq, Bool.and_eq_true, decide_eq_true_eq, List.getD_eq_getElem?_getD] at h4
      obtain ⟨⟨h5, h6⟩, h7⟩ := h4
      have h8 : (x[n.length].toNat : Int) = 61 := by
       rw [List.getElem?_eq_getElem h5] at h7
       simp at h7; rw [h7]; rfl
      have hb8 : ((x[n.length].toNat : Int) == 61) = true := beq_iff_eq.2 h8
      clear ha h7 h8
      have z1 : ((n.length : Int) + 1).toNat = n.length + 1 := by omega
      go_wp2_with fail
      go_ret2
      exact ⟨by rw [HF.out]; rfl, HB1.out⟩
    | false =>
      have HF := Lib.hid (argFind_miss (xs.drop (k + 1)) ha)
      have h4 := HT.out
      rw [ha] at h4
      clear ha
      by_cases h5 : n.length < x.length
      ·by_cases h6 : (x.take n.length == n) = true
       ·have hb8 : ((x[n.length].toNat : Int) == 61) = false := by
         rw [h6] at h4
         simp only [Bool.false_eq, Bool.and_true, Bool.and_eq_false_iff, decide_eq_false_iff_not, List.getD_eq_getElem?_getD, List.getElem?_eq_getElem h5, Option.getD_some] at h4
         refine beq_eq_false_iff_ne.2 fun h9 => ?_
         rcases h4 with h4 | h4
         ·exact h4 h5
         ·exact h4 (UInt8.toNat_inj.1 (show x[n.length].toNat = 61 by omega))
        clear h4
        go_wp2_with fail
        go_round
        case rel => exact ⟨k + 1, by omega, by go_num, by show argFind _ _ = _; rw [H.out, HD.out, HF.out]⟩
        case measure => simp [intOf]; omega
       ·have h6' : (x.take n.length == n) = false := by simpa using h6
        clear h4 h6
        go_wp2_with fail
        go_round
        case rel => exact ⟨k + 1, by omega, by go_num, by show argFind _ _ = _; rw [H.out, HD.out, HF.out]⟩
        case measure => simp [intOf]; omega
      ·clear h4
       go_wp2_with fail
       go_round
       case rel => exact ⟨k + 1, by omega, by go_num, by show argFind _ _ = _; rw [H.out, HD.out, HF.out]⟩
       case measure => simp [intOf]; omega
   ·have HF := Lib.hid (show argL q n true = none by rw [HA.out, HXS.out]; exact argFind_end H.out (by omega))
    go_wp2_with fail
    go_ret2
    exact ⟨by rw [HF.out]; rfl, HB1.out⟩

end A1
end Go.Proofs.YtpkhbhdidkkebaaGreatDoor
end

