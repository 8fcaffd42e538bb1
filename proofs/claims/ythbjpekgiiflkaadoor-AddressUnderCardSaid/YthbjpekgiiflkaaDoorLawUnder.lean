/- PROVED: AddressUnder returns true for every input and leaves its arguments as they were. No condition beyond the statement's own (the listed tables of package unicode/utf8 read as the program's text lays them, which the card ties). -/
import Derived.Test.YthbjpekgiiflkaaDoorFrame
import Derived.Test.YthbjpekgiiflkaaDoorAddrF
import Derived.Deep.RegionHeld3
namespace Go.Proofs.YthbjpekgiiflkaaDoor.lawUnder
open Go.ChangeShapes Go.WideShapes Go.ChangeAt Go.RowKit Pl Ad A1
open Go.ChangeMaps (open_string shut_string)
attribute [local go_sem] ba_get conv_one conv_one_drewN ba_append ba_extract
set_option maxRecDepth 100000
set_option maxHeartbeats 4000000
set_option linter.unusedVariables false


/-- Two addresses' cells, and the world below them as it was. -/
structure TwoBox (w : World) (h p q : Bs) (b : Bool) (h2 p2 q2 : Bs) (b2 : Bool) (w' : World) : Prop where
  bel : Below w.heap.size w w'
  size : w.heap.size + 1 < w'.heap.size
  box1 : Box w' w.heap.size 43 (.string ⟨h.toArray⟩) (.string ⟨p.toArray⟩) (.string ⟨q.toArray⟩) (.bool b)
  box2 : Box w' (w.heap.size + 1) 43 (.string ⟨h2.toArray⟩) (.string ⟨p2.toArray⟩) (.string ⟨q2.toArray⟩) (.bool b2)
theorem TwoBox.keep {w : World} {h p q : Bs} {b : Bool} {h2 p2 q2 : Bs} {b2 : Bool} {w1 w2 : World} (s : TwoBox w h p q b h2 p2 q2 b2 w1) (hb : Below w1.heap.size w1 w2) : TwoBox w h p q b h2 p2 q2 b2 w2 :=
  ⟨s.bel.trans (hb.mono s.bel.size), Nat.lt_of_lt_of_le s.size hb.size, s.box1.below hb (by have := s.size; omega), s.box2.below hb s.size⟩
theorem TwoBox.keep' {w : World} {h p q : Bs} {b : Bool} {h2 p2 q2 : Bs} {b2 : Bool} {w1 w2 : World} {B : Nat} (hb : Below B w1 w2) (hB : B = w1.heap.size) (s : TwoBox w h p q b h2 p2 q2 b2 w1) : TwoBox w h p q b h2 p2 q2 b2 w2 := s.keep (hB ▸ hb)
theorem TwoBox.drew {w : World} {h p q : Bs} {b : Bool} {h2 p2 q2 : Bs} {b2 : Bool} {w1 : World} (s : TwoBox w h p q b h2 p2 q2 b2 w1) : TwoBox w h p q b h2 p2 q2 b2 w1.drew := ⟨s.bel.drew, s.size, s.box1, s.box2⟩
theorem TwoBox.of {w : World} {h p q : Bs} {b : Bool} {h2 p2 q2 : Bs} {b2 : Bool} {w' : World} (s : w'.cell? ⟨w.heap.size, 0, none⟩ = some (.string ⟨h.toArray⟩) ∧ w'.cell? ⟨w.heap.size, 1, none⟩ = some (.string ⟨p.toArray⟩) ∧ w'.cell? ⟨w.heap.size, 2, none⟩ = some (.string ⟨q.toArray⟩) ∧ w'.cell? ⟨w.heap.size, 3, none⟩ = some (.bool b) ∧ w'.cell? ⟨w.heap.size + 1, 0, none⟩ = some (.string ⟨h2.toArray⟩) ∧ w'.cell? ⟨w.heap.size + 1, 1, none⟩ = some (.string ⟨p2.toArray⟩) ∧ w'.cell? ⟨w.heap.size + 1, 2, none⟩ = some (.string ⟨q2.toArray⟩) ∧ w'.cell? ⟨w.heap.size + 1, 3, none⟩ = some (.bool b2) ∧ TwoBox w h p q b h2 p2 q2 b2 w') : TwoBox w h p q b h2 p2 q2 b2 w' := s.2.2.2.2.2.2.2.2
theorem TwoBox.all {w : World} {h p q : Bs} {b : Bool} {h2 p2 q2 : Bs} {b2 : Bool} {w' : World} (s : TwoBox w h p q b h2 p2 q2 b2 w') : w'.cell? ⟨w.heap.size, 0, none⟩ = some (.string ⟨h.toArray⟩) ∧ w'.cell? ⟨w.heap.size, 1, none⟩ = some (.string ⟨p.toArray⟩) ∧ w'.cell? ⟨w.heap.size, 2, none⟩ = some (.string ⟨q.toArray⟩) ∧ w'.cell? ⟨w.heap.size, 3, none⟩ = some (.bool b) ∧ w'.cell? ⟨w.heap.size + 1, 0, none⟩ = some (.string ⟨h2.toArray⟩) ∧ w'.cell? ⟨w.heap.size + 1, 1, none⟩ = some (.string ⟨p2.toArray⟩) ∧ w'.cell? ⟨w.heap.size + 1, 2, none⟩ = some (.string ⟨q2.toArray⟩) ∧ w'.cell? ⟨w.heap.size + 1, 3, none⟩ = some (.bool b2) ∧ TwoBox w h p q b h2 p2 q2 b2 w' := by
  obtain ⟨⟨a0, a1, a2, a3⟩, _⟩ := s.box1.facts
  obtain ⟨⟨b0, b1, b2, b3⟩, _⟩ := s.box2.facts
  exact ⟨a0, a1, a2, a3, b0, b1, b2, b3, s⟩

theorem under_self (h p q : Bs) (b : Bool) (w : World) (hp : p.length ≤ 9223372036854775807) :
    Calls Tryd.prog 26 #[.agg #[.string ⟨h.toArray⟩, .string ⟨p.toArray⟩, .string ⟨q.toArray⟩, .bool b], .agg #[.string ⟨h.toArray⟩, .string ⟨p.toArray⟩, .string ⟨q.toArray⟩, .bool b]] w fun e w' => e = .returned (.bool true) ∧ Below w.heap.size w w' :=
  (under_any h p q h p q b b w hp hp).mono fun e w' hx => ⟨by rw [hx.1, underB_self]; simp, hx.2⟩

theorem walk_main (h p q : Bs) (b : Bool) (h2 p2 q2 : Bs) (b2 : Bool) (w : World) (hr : Ready w) (hl : p.length + p2.length ≤ 1500) :
    Calls Tryd.prog 7 #[.agg #[.string ⟨h.toArray⟩, .string ⟨p.toArray⟩, .string ⟨q.toArray⟩, .bool b], .agg #[.string ⟨h2.toArray⟩, .string ⟨p2.toArray⟩, .string ⟨q2.toArray⟩, .bool b2]] w fun e w' => e = .returned (.bool true) ∧ Below w.heap.size w w' := by
  have hbz := ((Below.refl w.heap.size w).alloc (Nat.le_refl _) (.cells #[.string ⟨h.toArray⟩, .string ⟨p.toArray⟩, .string ⟨q.toArray⟩, .bool b] 43)).alloc (by simp) (.cells #[.string ⟨h2.toArray⟩, .string ⟨p2.toArray⟩, .string ⟨q2.toArray⟩, .bool b2] 43)
  have HRD := Lib.hid (hr.below hbz)
  have hb2 := box_new (w.alloc (.cells #[.string ⟨h.toArray⟩, .string ⟨p.toArray⟩, .string ⟨q.toArray⟩, .bool b] 43)) 43 (.string ⟨h2.toArray⟩) (.string ⟨p2.toArray⟩) (.string ⟨q2.toArray⟩) (.bool b2)
  have hb1 := (box_new w 43 (.string ⟨h.toArray⟩) (.string ⟨p.toArray⟩) (.string ⟨q.toArray⟩) (.bool b)).below ((Below.refl (w.heap.size + 1) (w.alloc (.cells #[.string ⟨h.toArray⟩, .string ⟨p.toArray⟩, .string ⟨q.toArray⟩, .bool b] 43))).alloc (by simp) (.cells #[.string ⟨h2.toArray⟩, .string ⟨p2.toArray⟩, .string ⟨q2.toArray⟩, .bool b2] 43)) (by omega)
  have HS0 : TwoBox w h p q b h2 p2 q2 b2 _ := ⟨hbz, by simp, hb1, by simpa using hb2⟩
  have HS := Lib.hid HS0
  clear hr hbz hb1 hb2 HS0
  have hd : decide ((1500 : Int) < (p.length : Int) + (p2.length : Int)) = false := decide_eq_false (by omega)
  have hp : p.length ≤ 9223372036854775807 := by omega
  have hp2 : p2.length ≤ 9223372036854775807 := by omega
  have HU1 := Lib.hid (underB_self p)
  have HU2 := Lib.hid (underB_self p2)
  go_enter Tryd.func7, Tryd.ntmps7
  go_wp2_with fail
  refine (awake_any _ HRD.out).mono ?_
  rintro e w1 ⟨rfl, hb1⟩
  have hS1 := HS.out.keep hb1
  obtain ⟨⟨c0, c1, c2, c3⟩, _⟩ := hS1.box1.facts
  obtain ⟨⟨d0, d1, d2, d3⟩, _⟩ := hS1.box2.facts
  clear hb1
  go_wp2_with fail
  clear HS HRD
  have hsz := hS1.size
  clear c0 c1 c2 c3 d0 d1 d2 d3
  go_region_held3 (fun w' => w'.cell? ⟨w.heap.size, 0, none⟩ = some (.string ⟨h.toArray⟩) ∧ w'.cell? ⟨w.heap.size, 1, none⟩ = some (.string ⟨p.toArray⟩) ∧ w'.cell? ⟨w.heap.size, 2, none⟩ = some (.string ⟨q.toArray⟩) ∧ w'.cell? ⟨w.heap.size, 3, none⟩ = some (.bool b) ∧ w'.cell? ⟨w.heap.size + 1, 0, none⟩ = some (.string ⟨h2.toArray⟩) ∧ w'.cell? ⟨w.heap.size + 1, 1, none⟩ = some (.string ⟨p2.toArray⟩) ∧ w'.cell? ⟨w.heap.size + 1, 2, none⟩ = some (.string ⟨q2.toArray⟩) ∧ w'.cell? ⟨w.heap.size + 1, 3, none⟩ = some (.bool b2) ∧ TwoBox w h p q b h2 p2 q2 b2 w') ((refine TwoBox.all ?_; first | assumption | (refine TwoBox.drew ?_; assumption) | (refine TwoBox.of ?_; assumption) | (refine TwoBox.drew (TwoBox.of ?_); assumption) | (refine TwoBox.keep' hb9 rfl ?_; first | assumption | (refine TwoBox.drew ?_; assumption) | (refine TwoBox.of ?_; assumption) | (refine TwoBox.drew (TwoBox.of ?_); assumption))))
    ((first | (go_at_call 24; with_reducible refine (of_any ⟨_, _, _, _⟩ _).mono ?_; rintro e w9 ⟨rfl, hb9⟩) | (go_at_call 26; with_reducible refine (under_self _ _ _ _ _ ?_).mono ?_; assumption; rintro e w9 ⟨rfl, hb9⟩) | (go_at_call 26; refine (under_any _ _ _ _ _ _ _ _ _ (by assumption) (by assumption)).mono ?_; rintro e w9 ⟨rfl, hb9⟩) | (go_at_call 27; refine (refUnder_any _ _ _ _ _ _ _ _ _ (by assumption) (by assumption)).mono ?_; rintro e w9 ⟨rfl, hb9⟩)))
  go_wp2
  go_ret
  refine ⟨rfl, TwoBox.bel (h := h) (p := p) (q := q) (b := b) (h2 := h2) (p2 := p2) (q2 := q2) (b2 := b2) ?_⟩
  first | assumption | (refine TwoBox.of ?_; assumption) | (refine TwoBox.keep' hb9 rfl ?_; first | assumption | (refine TwoBox.drew ?_; assumption) | (refine TwoBox.of ?_; assumption) | (refine TwoBox.drew (TwoBox.of ?_); assumption))

theorem walk_large (h p q : Bs) (b : Bool) (h2 p2 q2 : Bs) (b2 : Bool) (w : World) (hr : Ready w) (hp : p.length ≤ 140737488351232) (hp2 : p2.length ≤ 140737488351232) (hl : ¬ p.length + p2.length ≤ 1500) :
    Calls Tryd.prog 7 #[.agg #[.string ⟨h.toArray⟩, .string ⟨p.toArray⟩, .string ⟨q.toArray⟩, .bool b], .agg #[.string ⟨h2.toArray⟩, .string ⟨p2.toArray⟩, .string ⟨q2.toArray⟩, .bool b2]] w fun e w' => e = .returned (.bool true) ∧ Below w.heap.size w w' := by
  have hbz := ((Below.refl w.heap.size w).alloc (Nat.le_refl _) (.cells #[.string ⟨h.toArray⟩, .string ⟨p.toArray⟩, .string ⟨q.toArray⟩, .bool b] 43)).alloc (by simp) (.cells #[.string ⟨h2.toArray⟩, .string ⟨p2.toArray⟩, .string ⟨q2.toArray⟩, .bool b2] 43)
  have HRD := Lib.hid (hr.below hbz)
  have hb2 := box_new (w.alloc (.cells #[.string ⟨h.toArray⟩, .string ⟨p.toArray⟩, .string ⟨q.toArray⟩, .bool b] 43)) 43 (.string ⟨h2.toArray⟩) (.string ⟨p2.toArray⟩) (.string ⟨q2.toArray⟩) (.bool b2)
  have hb1 := (box_new w 43 (.string ⟨h.toArray⟩) (.string ⟨p.toArray⟩) (.string ⟨q.toArray⟩) (.bool b)).below ((Below.refl (w.heap.size + 1) (w.alloc (.cells #[.string ⟨h.toArray⟩, .string ⟨p.toArray⟩, .string ⟨q.toArray⟩, .bool b] 43))).alloc (by simp) (.cells #[.string ⟨h2.toArray⟩, .string ⟨p2.toArray⟩, .string ⟨q2.toArray⟩, .bool b2] 43)) (by omega)
  have HS0 : TwoBox w h p q b h2 p2 q2 b2 _ := ⟨hbz, by simp, hb1, by simpa using hb2⟩
  have HS := Lib.hid HS0
  have HBZ := Lib.hid hbz
  clear hr hbz hb1 hb2 HS0
  have hd : decide ((1500 : Int) < (p.length : Int) + (p2.length : Int)) = true := decide_eq_true (by omega)
  go_enter Tryd.func7, Tryd.ntmps7
  go_wp2_with fail
  refine (awake_any _ HRD.out).mono ?_
  rintro e w1 ⟨rfl, hb1⟩
  have hS1 := HS.out.keep hb1
  obtain ⟨⟨c0, c1, c2, c3⟩, _⟩ := hS1.box1.facts
  obtain ⟨⟨d0, d1, d2, d3⟩, _⟩ := hS1.box2.facts
  have HR1 := Lib.hid (HRD.out.below hb1)
  have HB1 := Lib.hid hS1.bel
  clear hb1
  go_wp2_with fail
  refine (awake_any _ HR1.out).mono ?_
  rintro e w2 ⟨rfl, hb2⟩
  go_wp2_with fail
  go_ret
  exact ⟨rfl, HB1.out.trans (hb2.mono HB1.out.size)⟩

theorem walk (h p q : Bs) (b : Bool) (h2 p2 q2 : Bs) (b2 : Bool) (w : World) (hr : Ready w) (_ : h.length ≤ 140737488351232) (hp : p.length ≤ 140737488351232) (_ : q.length ≤ 140737488351232) (_ : h2.length ≤ 140737488351232) (hp2 : p2.length ≤ 140737488351232) (_ : q2.length ≤ 140737488351232) :
    Calls Tryd.prog 7 #[.agg #[.string ⟨h.toArray⟩, .string ⟨p.toArray⟩, .string ⟨q.toArray⟩, .bool b], .agg #[.string ⟨h2.toArray⟩, .string ⟨p2.toArray⟩, .string ⟨q2.toArray⟩, .bool b2]] w fun e w' => e = .returned (.bool true) ∧ Below w.heap.size w w' := by
  by_cases hl : p.length + p2.length ≤ 1500
  · exact walk_main h p q b h2 p2 q2 b2 w hr hl
  · exact walk_large h p q b h2 p2 q2 b2 w hr hp hp2 hl

/-- What the walk gives, for every argument. -/
theorem contract (H : Type) (enc : TypeId × Value → H) (W : World) (base : Nat) (args : Array Value) (ds gs : List (DataW H)) (before : List MemPlace)
    (hval : ∀ (j : Nat) t v, Tryd.f7.params[j]? = some t → args[j]? = some v → Value.okWide Tryd.prog W .any base t v)
    (hW : DataW.Whole enc Tryd.prog Tryd.f7.params.toList Rows.addressUnderSpec.vars false W args.toList ds gs before) (hsz : (DataW.weightsEach Tryd.prog Tryd.f7.params.toList (ds ++ gs)).all (· ≤ reachBytes) = true) (hr : Ready W) :
    Calls Tryd.prog 7 args W fun e W' => ∃ v, e = .returned v ∧ Rows.addressUnderSpec.post enc Tryd.prog Tryd.f7 false true false false W args v W' := by
  have hW' := hW
  have hlt := fun p hp => hW.lt p hp
  obtain ⟨p, q, hA0, hV, rfl, hfz, hnd⟩ := hW
  have hA : DataW.TrodAll enc Tryd.prog W 0 (fun _ => true) true Tryd.f7.params.toList args.toList ds p := hA0
  have hA1 := hA
  obtain ⟨rfl, rfl⟩ := trodVars_none hV
  rw [Tryd.params7] at hA hval
  obtain ⟨v0, vs0, d0, ds0, p0, q0, hargs, rfl, rfl, h0, r0⟩ := trodAll_cons hA
  obtain ⟨v1, vs1, d1, ds1, p1, q1, rfl, rfl, rfl, h1, r1⟩ := trodAll_cons r0
  obtain ⟨rfl, rfl, rfl⟩ := trodAll_nil r1
  obtain rfl : args = #[v0, v1] := by cases args; simp_all
  have fin : ∀ W', Below W.heap.size W W' → Rows.addressUnderSpec.post enc Tryd.prog Tryd.f7 false true false false W #[v0, v1] (.bool true) W' := fun W' hb => by
    simp only [List.append_nil] at hA1 hW' hlt
    exact ⟨_, _, _, [], _, [], hW', trodAll_cons_mk (shut_bool Tryd.underlying4 _) trodAll_mk0, Fr.trodAll_below (by kernel_rfl) _ (by kernel_rfl) hA1 hb hlt, rfl, hb.frame _, fun h => by cases h⟩
  clear hW' hA0 hA1 hlt
  rw [Tryd.params7, List.append_nil] at hsz
  obtain ⟨c0, c1, c2, c3, y0, y1, y2, y3, m, rfl, rfl, rfl, hy0, hy1, hy2, hy3⟩ := Go.Joins.open_agg4 Tryd.underlying43 (by kernel_rfl) (show Tryd.prog.cellsOf 43 = 4 by kernel_rfl) (hval 0 43 v0 rfl rfl) h0
  obtain ⟨s0_0, e0, rfl, hs0_0⟩ := DataW.trod_string Tryd.underlying9 hy0
  obtain ⟨s0_1, e1, rfl, hs0_1⟩ := DataW.trod_string Tryd.underlying9 hy1
  obtain ⟨s0_2, e2, rfl, hs0_2⟩ := DataW.trod_string Tryd.underlying9 hy2
  obtain ⟨b0, e3, rfl⟩ := DataW.trod_bool Tryd.underlying4 hy3
  simp only [List.cons.injEq, and_true] at e0 e1 e2 e3
  subst e0 e1 e2 e3
  obtain ⟨⟨l0_0⟩⟩ := s0_0
  obtain ⟨⟨l0_1⟩⟩ := s0_1
  obtain ⟨⟨l0_2⟩⟩ := s0_2
  have z0 : l0_0.length ≤ 140737488351232 ∧ l0_1.length ≤ 140737488351232 ∧ l0_2.length ≤ 140737488351232 := Fr.sized_adr hsz (j := 0) rfl rfl Tryd.underlying43
  obtain ⟨c0, c1, c2, c3, y0, y1, y2, y3, m, rfl, rfl, rfl, hy0, hy1, hy2, hy3⟩ := Go.Joins.open_agg4 Tryd.underlying43 (by kernel_rfl) (show Tryd.prog.cellsOf 43 = 4 by kernel_rfl) (hval 1 43 v1 rfl rfl) h1
  obtain ⟨s1_0, e0, rfl, hs1_0⟩ := DataW.trod_string Tryd.underlying9 hy0
  obtain ⟨s1_1, e1, rfl, hs1_1⟩ := DataW.trod_string Tryd.underlying9 hy1
  obtain ⟨s1_2, e2, rfl, hs1_2⟩ := DataW.trod_string Tryd.underlying9 hy2
  obtain ⟨b1, e3, rfl⟩ := DataW.trod_bool Tryd.underlying4 hy3
  simp only [List.cons.injEq, and_true] at e0 e1 e2 e3
  subst e0 e1 e2 e3
  obtain ⟨⟨l1_0⟩⟩ := s1_0
  obtain ⟨⟨l1_1⟩⟩ := s1_1
  obtain ⟨⟨l1_2⟩⟩ := s1_2
  have z1 : l1_0.length ≤ 140737488351232 ∧ l1_1.length ≤ 140737488351232 ∧ l1_2.length ≤ 140737488351232 := Fr.sized_adr hsz (j := 1) rfl rfl Tryd.underlying43
  refine (walk l0_0 l0_1 l0_2 b0 l1_0 l1_1 l1_2 b1 W hr z0.1 z0.2.1 z0.2.2 z1.1 z1.2.1 z1.2.2).mono fun e W' ⟨he, hb⟩ => ?_
  subst he
  exact ⟨_, rfl, fin W' hb⟩

theorem laid_met (os : Os) : laidMet Tryd.prog Rows.addressUnderRow.laid ((Fr.laidWorld os).forCall (fun _ _ => 0) ⟨#[], #[.agg #[.string ⟨#[]⟩, .string ⟨#[]⟩, .string ⟨#[]⟩, .bool false], .agg #[.string ⟨#[]⟩, .string ⟨#[]⟩, .string ⟨#[]⟩, .bool false]], []⟩).memory :=
  laidMet_of_run' 8 (by kernel_rfl) (by kernel_rfl)
theorem reads (os : Os) {H : Type} (enc : TypeId × Value → H) : ∃ places, DataW.whole enc Tryd.prog ((Fr.laidWorld os).forCall (fun _ _ => 0) ⟨#[], #[.agg #[.string ⟨#[]⟩, .string ⟨#[]⟩, .string ⟨#[]⟩, .bool false], .agg #[.string ⟨#[]⟩, .string ⟨#[]⟩, .string ⟨#[]⟩, .bool false]], []⟩).memory Tryd.f7.params.toList Rows.addressUnderSpec.vars false (#[.agg #[.string ⟨#[]⟩, .string ⟨#[]⟩, .string ⟨#[]⟩, .bool false], .agg #[.string ⟨#[]⟩, .string ⟨#[]⟩, .string ⟨#[]⟩, .bool false]] : Array Value).toList 8 = some ([.agg [.lit (.string []), .lit (.string []), .lit (.string []), .lit (.bool false)], .agg [.lit (.string []), .lit (.string []), .lit (.string []), .lit (.bool false)]], [], places) :=
  ⟨[], by kernel_rfl⟩

theorem lifted (os : Os) (started : os.Started) (H : Type) (enc : TypeId × Value → H) (F : Stop.Interp) :
    ReturnsInHanded {} Tryd.checked os 7 .any ((OpenSpec.ofChange Rows.addressUnderSpec).preRow enc Tryd.prog Tryd.f7 Rows.addressUnderRow.domain false Rows.addressUnderRow.laid) (((OpenSpec.ofChange Rows.addressUnderSpec).at F).post enc Tryd.prog Tryd.f7 false true false false) := by
  obtain ⟨places, hx⟩ := reads os enc
  refine returnsInHanded_of_row (C := Tryd.checked) (s := OpenSpec.ofChange Rows.addressUnderSpec) Fr.own started (by kernel_rfl) Tryd.func7
    (witness_row_at (enc := enc) (C := Tryd.checked) false (Fr.laidWorld os) #[.agg #[.string ⟨#[]⟩, .string ⟨#[]⟩, .string ⟨#[]⟩, .bool false], .agg #[.string ⟨#[]⟩, .string ⟨#[]⟩, .string ⟨#[]⟩, .bool false]] rfl (by kernel_rfl) (by kernel_rfl) (by kernel_rfl)
      (OpenSpec.preRow_of_cond 8 hx (by kernel_rfl) (fun k hk => by cases hk) (by kernel_rfl) (laid_met os))) ?_
  intro W base args ds gs before hval hW _ _ hsz _ hsh _
  exact contract H enc W base args ds gs before hval hW (by have h9 : (DataW.weightsEach Tryd.prog (Tryd.f7.params.toList ++ []) (ds ++ gs)).all (· ≤ reachBytes) = true := hsz; rw [List.append_nil] at h9; exact h9) (Fr.ready hsh)

theorem said : Rows.AddressUnderSaid :=
  OpenClaim.holds_of_cond 7 Tryd.f7 rfl rfl rfl rfl rfl rfl rfl ⟨rfl, rfl, rfl, rfl, rfl⟩ rfl rfl rfl rfl rfl (by kernel_rfl) Tryd.func7 (by kernel_rfl)
    (of_decide_eq_true (by kernel_rfl)) (by unfold Func.isWrapper; first | (rw [if_pos (by decide +kernel)]; kernel_rfl) | (rw [if_neg (by decide +kernel)]; exact ⟨rfl, rfl⟩))
    (fun os started H enc _ F => by rw [OpenClaim.pre_eq_preRow]; exact lifted os started H enc F)

theorem plain (f : FuncId) (fn : Func) (hf : Tryd.pinned.checked.prog.funcNamed "quayside/quaysidelaw03.AddressUnder" = some f) (hfn : Tryd.pinned.checked.prog.funcs[f]? = some fn) :
    true = Tryd.pinned.checked.prog.looks [] ∧ ∀ (j : Nat) t, fn.params[j]? = some t → Tryd.pinned.checked.prog.wantsStandIn t = false := by
  obtain rfl : f = 7 := Option.some.inj ((show Tryd.prog.funcNamed "quayside/quaysidelaw03.AddressUnder" = some 7 by kernel_rfl).symm.trans hf) |>.symm
  obtain rfl : fn = Tryd.f7 := (Option.some.inj (Tryd.func7.symm.trans hfn)).symm
  refine ⟨by kernel_rfl, fun j t ht => ?_⟩
  rw [Tryd.params7] at ht
  have hm : t ∈ [43] := by simpa using Array.mem_of_getElem? ht
  have hall : ([43].all fun u => !Tryd.prog.wantsStandIn u) = true := by kernel_rfl
  exact (show Tryd.prog.wantsStandIn t = false by simpa using List.all_eq_true.1 hall t hm)

theorem proved : Rows.AddressUnderCardSaid :=
  Claim7.holds_tied_plain_at .later [] _ _ _ _ said (fun _ h => by cases h) (by kernel_rfl) (fun _ h => by cases h) addressUnder_row_tie rfl ⟨rfl, rfl⟩ (by kernel_rfl) rfl plain (by kernel_rfl)
#print axioms proved
end Go.Proofs.YthbjpekgiiflkaaDoor.lawUnder
