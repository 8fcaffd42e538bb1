/- PROVED: AddressParses returns true for every input and leaves its arguments as they were. No condition beyond the statement's own (the listed tables of package unicode/utf8 read as the program's text lays them, which the card ties). -/
import Derived.Test.YthbjpekgiiflkaaDoorFrame
import Derived.Test.YthbjpekgiiflkaaDoorAddrD
import Derived.Test.YthbjpekgiiflkaaDoorAddrE
import Derived.Deep.RegionHeld3
import Derived.Test.YthbjpekgiiflkaaDoorAddrJ
namespace Go.Proofs.YthbjpekgiiflkaaDoor.lawParses
open Go.ChangeShapes Go.WideShapes Go.ChangeAt Go.RowKit Pl Ad A1
open Go.ChangeMaps (open_string shut_string)
attribute [local go_sem] ba_get conv_one conv_one_drewN ba_append ba_extract
set_option maxRecDepth 100000
set_option maxHeartbeats 4000000
set_option linter.unusedVariables false


/-- Two variables that hold one address, and the world below them as it was. -/
structure PBox (w : World) (A B : Nat) (ah ap aq : Bs) (ab : Bool) (w' : World) : Prop where
  bel : Below w.heap.size w w'
  sa : A < w'.heap.size
  sb : B < w'.heap.size
  boxA : Box w' A 38 (.string ⟨ah.toArray⟩) (.string ⟨ap.toArray⟩) (.string ⟨aq.toArray⟩) (.bool ab)
  boxB : Box w' B 43 (.string ⟨ah.toArray⟩) (.string ⟨ap.toArray⟩) (.string ⟨aq.toArray⟩) (.bool ab)
theorem PBox.keep {w : World} {A B : Nat} {ah ap aq : Bs} {ab : Bool} {w1 w2 : World} {N : Nat} (hb : Below N w1 w2) (hN : N = w1.heap.size) (s : PBox w A B ah ap aq ab w1) : PBox w A B ah ap aq ab w2 := by
  subst hN
  exact ⟨s.bel.trans (hb.mono s.bel.size), Nat.lt_of_lt_of_le s.sa hb.size, Nat.lt_of_lt_of_le s.sb hb.size, s.boxA.below hb s.sa, s.boxB.below hb s.sb⟩
theorem PBox.drew {w : World} {A B : Nat} {ah ap aq : Bs} {ab : Bool} {w1 : World} (s : PBox w A B ah ap aq ab w1) : PBox w A B ah ap aq ab w1.drew := ⟨s.bel.drew, s.sa, s.sb, s.boxA, s.boxB⟩
theorem PBox.of {w : World} {A B : Nat} {ah ap aq : Bs} {ab : Bool} {w' : World} (s : w'.cell? ⟨A, 0, none⟩ = some (.string ⟨ah.toArray⟩) ∧ w'.cell? ⟨A, 1, none⟩ = some (.string ⟨ap.toArray⟩) ∧ w'.cell? ⟨A, 2, none⟩ = some (.string ⟨aq.toArray⟩) ∧ w'.cell? ⟨A, 3, none⟩ = some (.bool ab) ∧ w'.cell? ⟨B, 0, none⟩ = some (.string ⟨ah.toArray⟩) ∧ w'.cell? ⟨B, 1, none⟩ = some (.string ⟨ap.toArray⟩) ∧ w'.cell? ⟨B, 2, none⟩ = some (.string ⟨aq.toArray⟩) ∧ w'.cell? ⟨B, 3, none⟩ = some (.bool ab) ∧ PBox w A B ah ap aq ab w') : PBox w A B ah ap aq ab w' := s.2.2.2.2.2.2.2.2
theorem PBox.all {w : World} {A B : Nat} {ah ap aq : Bs} {ab : Bool} {w' : World} (s : PBox w A B ah ap aq ab w') : w'.cell? ⟨A, 0, none⟩ = some (.string ⟨ah.toArray⟩) ∧ w'.cell? ⟨A, 1, none⟩ = some (.string ⟨ap.toArray⟩) ∧ w'.cell? ⟨A, 2, none⟩ = some (.string ⟨aq.toArray⟩) ∧ w'.cell? ⟨A, 3, none⟩ = some (.bool ab) ∧ w'.cell? ⟨B, 0, none⟩ = some (.string ⟨ah.toArray⟩) ∧ w'.cell? ⟨B, 1, none⟩ = some (.string ⟨ap.toArray⟩) ∧ w'.cell? ⟨B, 2, none⟩ = some (.string ⟨aq.toArray⟩) ∧ w'.cell? ⟨B, 3, none⟩ = some (.bool ab) ∧ PBox w A B ah ap aq ab w' := by
  obtain ⟨⟨a0, a1, a2, a3⟩, _⟩ := s.boxA.facts
  obtain ⟨⟨b0, b1, b2, b3⟩, _⟩ := s.boxB.facts
  exact ⟨a0, a1, a2, a3, b0, b1, b2, b3, s⟩

theorem walk_large (h t : Bs) (w : World) (hr : Ready w) (h1 : h.length ≤ 140737488351232) (h2 : t.length ≤ 140737488351232) (hl : ¬ h.length + t.length ≤ 1500) :
    Calls Tryd.prog 5 #[.string ⟨h.toArray⟩, .string ⟨t.toArray⟩] w fun e w' => e = .returned (.bool true) ∧ Below w.heap.size w w' := by
  go_enter Tryd.func5, Tryd.ntmps5
  go_wp2_with fail
  refine (awake_any _ hr).mono ?_
  rintro e w1 ⟨rfl, hb1⟩
  go_wp2_with fail
  refine (awake_any _ (hr.below hb1)).mono ?_
  rintro e w2 ⟨rfl, hb2⟩
  go_wp2_with fail
  go_ret
  exact ⟨rfl, hb1.trans (hb2.mono hb1.size)⟩

theorem walk_ok (h t ah ap aq : Bs) (ab : Bool) (w : World) (hr : Ready w) (hl : h.length + t.length ≤ 1500) (hp : parse h t = .ok ⟨ah, ap, aq, ab⟩) :
    Calls Tryd.prog 5 #[.string ⟨h.toArray⟩, .string ⟨t.toArray⟩] w fun e w' => e = .returned (.bool true) ∧ Below w.heap.size w w' := by
  have HP := Lib.hid hp
  have HV := Lib.hid (parse_valid hp)
  have HL := Lib.hid (parse_lens hp)
  clear hp
  go_enter Tryd.func5, Tryd.ntmps5
  go_wp2_with fail
  refine (awake_any _ hr).mono ?_
  rintro e w1 ⟨rfl, hb1⟩
  have hr1 := Lib.hid (hr.below hb1)
  go_wp2_with fail
  refine (parse_ok _ (by omega) (by omega) hr1.out HP.out).mono ?_
  rintro e w2 ⟨rfl, hb2⟩
  have HB2 := Lib.hid (hb1.trans (hb2.mono hb1.size))
  have HR2 := Lib.hid (hr1.out.below hb2)
  clear hb1 hb2
  go_wp2_with fail
  refine (refParse_any h t _ (by omega) (by omega)).mono ?_
  rintro e w3 ⟨rfl, hb3⟩
  rw [HP.out, codeOf_ok, parseV_ok]
  have hA := ((box_new w2 38 (.string ⟨ah.toArray⟩) (.string ⟨ap.toArray⟩) (.string ⟨aq.toArray⟩) (.bool ab)).below hb3 (by simp))
  have hz := hb3.size
  have hPB : PBox w w2.heap.size w3.heap.size ah ap aq ab (w3.alloc (.cells #[.string ⟨ah.toArray⟩, .string ⟨ap.toArray⟩, .string ⟨aq.toArray⟩, .bool ab] 43)) := by
    have hz2 : w2.heap.size < w3.heap.size := by have h9 := hb3.size; simp at h9; omega
    refine ⟨(HB2.out.trans (((Below.refl w2.heap.size w2).alloc (Nat.le_refl _) (.cells #[.string ⟨ah.toArray⟩, .string ⟨ap.toArray⟩, .string ⟨aq.toArray⟩, .bool ab] 38)).trans (hb3.mono (by simp)) |>.mono HB2.out.size)).alloc (by have := HB2.out.size; omega) _, by simp; omega, by simp, hA.below ((Below.refl w3.heap.size w3).alloc (Nat.le_refl _) _) hz2, box_new w3 43 (.string ⟨ah.toArray⟩) (.string ⟨ap.toArray⟩) (.string ⟨aq.toArray⟩) (.bool ab)⟩
  obtain ⟨l1, l2, l3⟩ := HL.out
  clear hA hz hb3
  have HR3 : Hid (∀ w', Below w.heap.size w w' → Ready w') := fun w' hb => hr.below hb
  go_wp2_with fail
  go_region_held3 (fun w' => w'.cell? ⟨w2.heap.size, 0, none⟩ = some (.string ⟨ah.toArray⟩) ∧ w'.cell? ⟨w2.heap.size, 1, none⟩ = some (.string ⟨ap.toArray⟩) ∧ w'.cell? ⟨w2.heap.size, 2, none⟩ = some (.string ⟨aq.toArray⟩) ∧ w'.cell? ⟨w2.heap.size, 3, none⟩ = some (.bool ab) ∧ w'.cell? ⟨w3.heap.size, 0, none⟩ = some (.string ⟨ah.toArray⟩) ∧ w'.cell? ⟨w3.heap.size, 1, none⟩ = some (.string ⟨ap.toArray⟩) ∧ w'.cell? ⟨w3.heap.size, 2, none⟩ = some (.string ⟨aq.toArray⟩) ∧ w'.cell? ⟨w3.heap.size, 3, none⟩ = some (.bool ab) ∧ PBox w w2.heap.size w3.heap.size ah ap aq ab w') ((refine PBox.all ?_; first | assumption | (refine PBox.drew ?_; assumption) | (refine PBox.keep hb9 rfl ?_; first | assumption | (refine PBox.drew ?_; assumption) | (refine PBox.of ?_; assumption) | (refine PBox.drew (PBox.of ?_); assumption)) | (refine PBox.of ?_; assumption) | (refine PBox.drew (PBox.of ?_); assumption)))
    ((first | (go_at_call 18; refine (num_nil _).mono ?_; rintro e w9 ⟨rfl, rfl⟩) | (go_at_call 20; refine (ref_any ⟨_, _, _, _⟩ _).mono ?_; rintro e w9 ⟨rfl, hb9⟩) | (go_at_call 21; with_reducible refine (valid_any ⟨_, _, _, _⟩ _ ?_ ?_ ?_ ?_).mono ?_; exact HR3.out _ (PBox.bel (A := w2.heap.size) (B := w3.heap.size) (ah := ah) (ap := ap) (aq := aq) (ab := ab) (by first | assumption | (refine PBox.of ?_; assumption) | (refine PBox.drew ?_; assumption) | (refine PBox.drew (PBox.of ?_); assumption))); (simp; omega); (simp; omega); (simp; omega); rintro e w9 ⟨rfl, hb9⟩; rw [HV.out])))
  all_goals
    go_wp2_with fail
    go_ret
    refine ⟨ret_bool (by simp), PBox.bel (A := w2.heap.size) (B := w3.heap.size) (ah := ah) (ap := ap) (aq := aq) (ab := ab) ?_⟩
    first | assumption | (refine PBox.of ?_; assumption) | (refine PBox.keep hb9 rfl ?_; first | assumption | (refine PBox.drew ?_; assumption) | (refine PBox.of ?_; assumption) | (refine PBox.drew (PBox.of ?_); assumption))

theorem parse_codes {h t : Bs} {n : Int} (hp : parse h t = .error n) : n = 8 ∨ n = 27 ∨ n = 5 := by
  rcases parse_ways h t with ⟨_, e⟩ | ⟨_, _, e⟩ | ⟨_, _, _, _, _, _, e⟩ | ⟨_, _, _, _, u, _, _, _, _, e⟩
  · rw [e] at hp; cases hp; decide
  · rw [e] at hp; cases hp; decide
  · rw [e] at hp; cases hp; decide
  · rw [e] at hp
    cases hd : dotsL (splitOn 47 u) [] with
    | none => rw [hd] at hp; cases hp; decide
    | some left =>
      rw [hd] at hp
      simp only at hp
      split at hp <;> cases hp
      decide

theorem walk_err_8 (h t : Bs) (w : World) (hr : Ready w) (hl : h.length + t.length ≤ 1500) (hp : parse h t = .error 8) :
    Calls Tryd.prog 5 #[.string ⟨h.toArray⟩, .string ⟨t.toArray⟩] w fun e w' => e = .returned (.bool true) ∧ Below w.heap.size w w' := by
  have HP := Lib.hid hp
  clear hp
  go_enter Tryd.func5, Tryd.ntmps5
  go_wp2_with fail
  refine (awake_any _ hr).mono ?_
  rintro e w1 ⟨rfl, hb1⟩
  have hr1 := Lib.hid (hr.below hb1)
  go_wp2_with fail
  refine (parse_err _ (by omega) (by omega) hr1.out HP.out).mono ?_
  rintro e w2 ⟨rfl, hb2⟩
  have HB2 := Lib.hid (hb1.trans (hb2.mono hb1.size))
  clear hb1 hb2
  go_wp2_with fail
  refine (refParse_any h t _ (by omega) (by omega)).mono ?_
  rintro e w3 ⟨rfl, hb3⟩
  rw [HP.out, codeOf_err, parseV_err]
  have hA := ((box_new w2 38 (.string ⟨#[]⟩) (.string ⟨#[]⟩) (.string ⟨#[]⟩) (.bool false)).below hb3 (by simp))
  have hPB : PBox w w2.heap.size w3.heap.size [] [] [] false (w3.alloc (.cells #[.string ⟨#[]⟩, .string ⟨#[]⟩, .string ⟨#[]⟩, .bool false] 43)) := by
    have hz2 : w2.heap.size < w3.heap.size := by have h9 := hb3.size; simp at h9; omega
    refine ⟨(HB2.out.trans (((Below.refl w2.heap.size w2).alloc (Nat.le_refl _) (.cells #[.string ⟨#[]⟩, .string ⟨#[]⟩, .string ⟨#[]⟩, .bool false] 38)).trans (hb3.mono (by simp)) |>.mono HB2.out.size)).alloc (by have := HB2.out.size; omega) _, by simp; omega, by simp, hA.below ((Below.refl w3.heap.size w3).alloc (Nat.le_refl _) _) hz2, box_new w3 43 (.string ⟨#[]⟩) (.string ⟨#[]⟩) (.string ⟨#[]⟩) (.bool false)⟩
  clear hA hb3
  go_wp2_with fail
  have hbel := Lib.hid hPB.bel
  obtain ⟨⟨a0, a1, a2, a3⟩, _, za⟩ := hPB.boxA.facts
  obtain ⟨⟨b0, b1, b2, b3⟩, _, zb⟩ := hPB.boxB.facts
  go_region_with (first
    | (go_at_call 18; refine (num_err 8 _).mono ?_; rintro e w9 ⟨rfl, rfl⟩)
    | (go_at_call 20; refine (ref_any ⟨[], [], [], false⟩ _).mono ?_; rintro e w9 ⟨rfl, hb9⟩; have hP9 := PBox.keep hb9 rfl (PBox.drew hPB); obtain ⟨⟨c0, c1, c2, c3⟩, _⟩ := hP9.boxA.facts; obtain ⟨⟨d0, d1, d2, d3⟩, _⟩ := hP9.boxB.facts))
  all_goals
    go_wp2_with fail
    go_ret
    exact ⟨ret_bool (by simp), hP9.bel⟩

theorem walk_err_27 (h t : Bs) (w : World) (hr : Ready w) (hl : h.length + t.length ≤ 1500) (hp : parse h t = .error 27) :
    Calls Tryd.prog 5 #[.string ⟨h.toArray⟩, .string ⟨t.toArray⟩] w fun e w' => e = .returned (.bool true) ∧ Below w.heap.size w w' := by
  have HP := Lib.hid hp
  clear hp
  go_enter Tryd.func5, Tryd.ntmps5
  go_wp2_with fail
  refine (awake_any _ hr).mono ?_
  rintro e w1 ⟨rfl, hb1⟩
  have hr1 := Lib.hid (hr.below hb1)
  go_wp2_with fail
  refine (parse_err _ (by omega) (by omega) hr1.out HP.out).mono ?_
  rintro e w2 ⟨rfl, hb2⟩
  have HB2 := Lib.hid (hb1.trans (hb2.mono hb1.size))
  clear hb1 hb2
  go_wp2_with fail
  refine (refParse_any h t _ (by omega) (by omega)).mono ?_
  rintro e w3 ⟨rfl, hb3⟩
  rw [HP.out, codeOf_err, parseV_err]
  have hA := ((box_new w2 38 (.string ⟨#[]⟩) (.string ⟨#[]⟩) (.string ⟨#[]⟩) (.bool false)).below hb3 (by simp))
  have hPB : PBox w w2.heap.size w3.heap.size [] [] [] false (w3.alloc (.cells #[.string ⟨#[]⟩, .string ⟨#[]⟩, .string ⟨#[]⟩, .bool false] 43)) := by
    have hz2 : w2.heap.size < w3.heap.size := by have h9 := hb3.size; simp at h9; omega
    refine ⟨(HB2.out.trans (((Below.refl w2.heap.size w2).alloc (Nat.le_refl _) (.cells #[.string ⟨#[]⟩, .string ⟨#[]⟩, .string ⟨#[]⟩, .bool false] 38)).trans (hb3.mono (by simp)) |>.mono HB2.out.size)).alloc (by have := HB2.out.size; omega) _, by simp; omega, by simp, hA.below ((Below.refl w3.heap.size w3).alloc (Nat.le_refl _) _) hz2, box_new w3 43 (.string ⟨#[]⟩) (.string ⟨#[]⟩) (.string ⟨#[]⟩) (.bool false)⟩
  clear hA hb3
  go_wp2_with fail
  have hbel := Lib.hid hPB.bel
  obtain ⟨⟨a0, a1, a2, a3⟩, _, za⟩ := hPB.boxA.facts
  obtain ⟨⟨b0, b1, b2, b3⟩, _, zb⟩ := hPB.boxB.facts
  go_region_with (first
    | (go_at_call 18; refine (num_err 27 _).mono ?_; rintro e w9 ⟨rfl, rfl⟩)
    | (go_at_call 20; refine (ref_any ⟨[], [], [], false⟩ _).mono ?_; rintro e w9 ⟨rfl, hb9⟩; have hP9 := PBox.keep hb9 rfl (PBox.drew hPB); obtain ⟨⟨c0, c1, c2, c3⟩, _⟩ := hP9.boxA.facts; obtain ⟨⟨d0, d1, d2, d3⟩, _⟩ := hP9.boxB.facts))
  all_goals
    go_wp2_with fail
    go_ret
    exact ⟨ret_bool (by simp), hP9.bel⟩

theorem walk_err_5 (h t : Bs) (w : World) (hr : Ready w) (hl : h.length + t.length ≤ 1500) (hp : parse h t = .error 5) :
    Calls Tryd.prog 5 #[.string ⟨h.toArray⟩, .string ⟨t.toArray⟩] w fun e w' => e = .returned (.bool true) ∧ Below w.heap.size w w' := by
  have HP := Lib.hid hp
  clear hp
  go_enter Tryd.func5, Tryd.ntmps5
  go_wp2_with fail
  refine (awake_any _ hr).mono ?_
  rintro e w1 ⟨rfl, hb1⟩
  have hr1 := Lib.hid (hr.below hb1)
  go_wp2_with fail
  refine (parse_err _ (by omega) (by omega) hr1.out HP.out).mono ?_
  rintro e w2 ⟨rfl, hb2⟩
  have HB2 := Lib.hid (hb1.trans (hb2.mono hb1.size))
  clear hb1 hb2
  go_wp2_with fail
  refine (refParse_any h t _ (by omega) (by omega)).mono ?_
  rintro e w3 ⟨rfl, hb3⟩
  rw [HP.out, codeOf_err, parseV_err]
  have hA := ((box_new w2 38 (.string ⟨#[]⟩) (.string ⟨#[]⟩) (.string ⟨#[]⟩) (.bool false)).below hb3 (by simp))
  have hPB : PBox w w2.heap.size w3.heap.size [] [] [] false (w3.alloc (.cells #[.string ⟨#[]⟩, .string ⟨#[]⟩, .string ⟨#[]⟩, .bool false] 43)) := by
    have hz2 : w2.heap.size < w3.heap.size := by have h9 := hb3.size; simp at h9; omega
    refine ⟨(HB2.out.trans (((Below.refl w2.heap.size w2).alloc (Nat.le_refl _) (.cells #[.string ⟨#[]⟩, .string ⟨#[]⟩, .string ⟨#[]⟩, .bool false] 38)).trans (hb3.mono (by simp)) |>.mono HB2.out.size)).alloc (by have := HB2.out.size; omega) _, by simp; omega, by simp, hA.below ((Below.refl w3.heap.size w3).alloc (Nat.le_refl _) _) hz2, box_new w3 43 (.string ⟨#[]⟩) (.string ⟨#[]⟩) (.string ⟨#[]⟩) (.bool false)⟩
  clear hA hb3
  go_wp2_with fail
  have hbel := Lib.hid hPB.bel
  obtain ⟨⟨a0, a1, a2, a3⟩, _, za⟩ := hPB.boxA.facts
  obtain ⟨⟨b0, b1, b2, b3⟩, _, zb⟩ := hPB.boxB.facts
  go_region_with (first
    | (go_at_call 18; refine (num_err 5 _).mono ?_; rintro e w9 ⟨rfl, rfl⟩)
    | (go_at_call 20; refine (ref_any ⟨[], [], [], false⟩ _).mono ?_; rintro e w9 ⟨rfl, hb9⟩; have hP9 := PBox.keep hb9 rfl (PBox.drew hPB); obtain ⟨⟨c0, c1, c2, c3⟩, _⟩ := hP9.boxA.facts; obtain ⟨⟨d0, d1, d2, d3⟩, _⟩ := hP9.boxB.facts))
  all_goals
    go_wp2_with fail
    go_ret
    exact ⟨ret_bool (by simp), hP9.bel⟩

theorem walk (h t : Bs) (w : World) (hr : Ready w) (h1 : h.length ≤ 140737488351232) (h2 : t.length ≤ 140737488351232) :
    Calls Tryd.prog 5 #[.string ⟨h.toArray⟩, .string ⟨t.toArray⟩] w fun e w' => e = .returned (.bool true) ∧ Below w.heap.size w w' := by
  by_cases hl : h.length + t.length ≤ 1500
  · cases hp : parse h t with
    | error n =>
      rcases parse_codes hp with rfl | rfl | rfl
      · exact walk_err_8 h t w hr hl hp
      · exact walk_err_27 h t w hr hl hp
      · exact walk_err_5 h t w hr hl hp
    | ok a =>
      obtain ⟨ah, ap, aq, ab⟩ := a
      exact walk_ok h t ah ap aq ab w hr hl hp
  · exact walk_large h t w hr h1 h2 hl

/-- What the walk gives, for every argument. -/
theorem contract (H : Type) (enc : TypeId × Value → H) (W : World) (base : Nat) (args : Array Value) (ds gs : List (DataW H)) (before : List MemPlace)
    (hval : ∀ (j : Nat) t v, Tryd.f5.params[j]? = some t → args[j]? = some v → Value.okWide Tryd.prog W .any base t v)
    (hW : DataW.Whole enc Tryd.prog Tryd.f5.params.toList Rows.addressParsesSpec.vars false W args.toList ds gs before) (hsz : (DataW.weightsEach Tryd.prog Tryd.f5.params.toList (ds ++ gs)).all (· ≤ reachBytes) = true) (hr : Ready W) :
    Calls Tryd.prog 5 args W fun e W' => ∃ v, e = .returned v ∧ Rows.addressParsesSpec.post enc Tryd.prog Tryd.f5 false true false false W args v W' := by
  have hW' := hW
  have hlt := fun p hp => hW.lt p hp
  obtain ⟨p, q, hA0, hV, rfl, hfz, hnd⟩ := hW
  have hA : DataW.TrodAll enc Tryd.prog W 0 (fun _ => true) true Tryd.f5.params.toList args.toList ds p := hA0
  have hA1 := hA
  obtain ⟨rfl, rfl⟩ := trodVars_none hV
  rw [Tryd.params5] at hA hval
  obtain ⟨v0, vs0, d0, ds0, p0, q0, hargs, rfl, rfl, h0, r0⟩ := trodAll_cons hA
  obtain ⟨v1, vs1, d1, ds1, p1, q1, rfl, rfl, rfl, h1, r1⟩ := trodAll_cons r0
  obtain ⟨rfl, rfl, rfl⟩ := trodAll_nil r1
  obtain rfl : args = #[v0, v1] := by cases args; simp_all
  have fin : ∀ W', Below W.heap.size W W' → Rows.addressParsesSpec.post enc Tryd.prog Tryd.f5 false true false false W #[v0, v1] (.bool true) W' := fun W' hb => by
    simp only [List.append_nil] at hA1 hW' hlt
    exact ⟨_, _, _, [], _, [], hW', trodAll_cons_mk (shut_bool Tryd.underlying4 _) trodAll_mk0, Fr.trodAll_below (by kernel_rfl) _ (by kernel_rfl) hA1 hb hlt, rfl, hb.frame _, fun h => by cases h⟩
  clear hW' hA0 hA1 hlt
  rw [Tryd.params5, List.append_nil] at hsz
  obtain ⟨s0, rfl, rfl, rfl, hs0⟩ := open_string Tryd.underlying9 (hval 0 9 v0 rfl rfl) h0
  obtain ⟨⟨l0⟩⟩ := s0
  have z0 : l0.length ≤ 140737488351232 := sized_string hsz (j := 0) rfl rfl
  obtain ⟨s1, rfl, rfl, rfl, hs1⟩ := open_string Tryd.underlying9 (hval 1 9 v1 rfl rfl) h1
  obtain ⟨⟨l1⟩⟩ := s1
  have z1 : l1.length ≤ 140737488351232 := sized_string hsz (j := 1) rfl rfl
  refine (walk l0 l1 W hr z0 z1).mono fun e W' ⟨he, hb⟩ => ?_
  subst he
  exact ⟨_, rfl, fin W' hb⟩

theorem laid_met (os : Os) : laidMet Tryd.prog Rows.addressParsesRow.laid ((Fr.laidWorld os).forCall (fun _ _ => 0) ⟨#[], #[.string ⟨#[]⟩, .string ⟨#[]⟩], []⟩).memory :=
  laidMet_of_run' 8 (by kernel_rfl) (by kernel_rfl)
theorem reads (os : Os) {H : Type} (enc : TypeId × Value → H) : ∃ places, DataW.whole enc Tryd.prog ((Fr.laidWorld os).forCall (fun _ _ => 0) ⟨#[], #[.string ⟨#[]⟩, .string ⟨#[]⟩], []⟩).memory Tryd.f5.params.toList Rows.addressParsesSpec.vars false (#[.string ⟨#[]⟩, .string ⟨#[]⟩] : Array Value).toList 8 = some ([.lit (.string []), .lit (.string [])], [], places) :=
  ⟨[], by kernel_rfl⟩

theorem lifted (os : Os) (started : os.Started) (H : Type) (enc : TypeId × Value → H) (F : Stop.Interp) :
    ReturnsInHanded {} Tryd.checked os 5 .any ((OpenSpec.ofChange Rows.addressParsesSpec).preRow enc Tryd.prog Tryd.f5 Rows.addressParsesRow.domain false Rows.addressParsesRow.laid) (((OpenSpec.ofChange Rows.addressParsesSpec).at F).post enc Tryd.prog Tryd.f5 false true false false) := by
  obtain ⟨places, hx⟩ := reads os enc
  refine returnsInHanded_of_row (C := Tryd.checked) (s := OpenSpec.ofChange Rows.addressParsesSpec) Fr.own started (by kernel_rfl) Tryd.func5
    (witness_row_at (enc := enc) (C := Tryd.checked) false (Fr.laidWorld os) #[.string ⟨#[]⟩, .string ⟨#[]⟩] rfl (by kernel_rfl) (by kernel_rfl) (by kernel_rfl)
      (OpenSpec.preRow_of_cond 8 hx (by kernel_rfl) (fun k hk => by cases hk) (by kernel_rfl) (laid_met os))) ?_
  intro W base args ds gs before hval hW _ hcond hsz _ hsh _
  exact contract H enc W base args ds gs before hval hW (by have h9 : (DataW.weightsEach Tryd.prog (Tryd.f5.params.toList ++ []) (ds ++ gs)).all (· ≤ reachBytes) = true := hsz; rw [List.append_nil] at h9; exact h9) (Fr.ready hsh)

theorem said : Rows.AddressParsesSaid :=
  OpenClaim.holds_of_cond 5 Tryd.f5 rfl rfl rfl rfl rfl rfl rfl ⟨rfl, rfl, rfl, rfl, rfl⟩ rfl rfl rfl rfl rfl (by kernel_rfl) Tryd.func5 (by kernel_rfl)
    (of_decide_eq_true (by kernel_rfl)) (by unfold Func.isWrapper; first | (rw [if_pos (by decide +kernel)]; kernel_rfl) | (rw [if_neg (by decide +kernel)]; exact ⟨rfl, rfl⟩))
    (fun os started H enc _ F => by rw [OpenClaim.pre_eq_preRow]; exact lifted os started H enc F)

theorem plain (f : FuncId) (fn : Func) (hf : Tryd.pinned.checked.prog.funcNamed "quayside/quaysidelaw03.AddressParses" = some f) (hfn : Tryd.pinned.checked.prog.funcs[f]? = some fn) :
    true = Tryd.pinned.checked.prog.looks [] ∧ ∀ (j : Nat) t, fn.params[j]? = some t → Tryd.pinned.checked.prog.wantsStandIn t = false := by
  obtain rfl : f = 5 := Option.some.inj ((show Tryd.prog.funcNamed "quayside/quaysidelaw03.AddressParses" = some 5 by kernel_rfl).symm.trans hf) |>.symm
  obtain rfl : fn = Tryd.f5 := (Option.some.inj (Tryd.func5.symm.trans hfn)).symm
  refine ⟨by kernel_rfl, fun j t ht => ?_⟩
  rw [Tryd.params5] at ht
  have hm : t ∈ [9] := by simpa using Array.mem_of_getElem? ht
  have hall : ([9].all fun u => !Tryd.prog.wantsStandIn u) = true := by kernel_rfl
  exact (show Tryd.prog.wantsStandIn t = false by simpa using List.all_eq_true.1 hall t hm)

theorem proved : Rows.AddressParsesCardSaid :=
  Claim7.holds_tied_plain_at .later [] _ _ _ _ said (fun _ h => by cases h) (by kernel_rfl) (fun _ h => by cases h) addressParses_row_tie rfl ⟨rfl, rfl⟩ (by kernel_rfl) rfl plain (by kernel_rfl)
#print axioms proved
end Go.Proofs.YthbjpekgiiflkaaDoor.lawParses
