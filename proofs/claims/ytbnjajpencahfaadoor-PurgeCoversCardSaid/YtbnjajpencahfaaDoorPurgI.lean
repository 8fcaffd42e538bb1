/- Contract: the law's fits (36). No condition but the length of a list of tags (below 2^63). -/
import Derived.Test.YtbnjajpencahfaaDoorPurg7
namespace Go.Proofs.YtbnjajpencahfaaDoor
open Go.RowKit Pl Ad
attribute [local go_sem] ba_get ba_append ba_extract_end ba_extract_zero ba_extract
set_option maxRecDepth 100000
set_option maxHeartbeats 4000000
set_option linter.unusedVariables false
namespace A1

/-- Is an item small? -/
def fitsB (a : Bs) (tags : List Bs) : Bool := tags.all (fun x => decide (x.length ≤ 1500)) && (decide (tags.length ≤ 40) && decide (a.length ≤ 1500))
theorem fitsB_bad {a : Bs} {tags : List Bs} {x : Bs} (hm : x ∈ tags) (h : ¬ x.length ≤ 1500) : fitsB a tags = false := by
  unfold fitsB
  rw [Bool.and_eq_false_iff]
  refine .inl ?_
  rw [Bool.eq_false_iff]
  intro h2
  exact h (by simpa using List.all_eq_true.1 h2 x hm)
theorem fitsB_good {a : Bs} {tags : List Bs} (h : ∀ x ∈ tags, x.length ≤ 1500) : fitsB a tags = (decide (tags.length ≤ 40) && decide (a.length ≤ 1500)) := by
  unfold fitsB
  rw [show tags.all (fun x => decide (x.length ≤ 1500)) = true from List.all_eq_true.2 fun x hx => decide_eq_true (h x hx)]
  rfl
theorem fitsB_true {a : Bs} {tags : List Bs} (h : fitsB a tags = true) : (∀ x ∈ tags, x.length ≤ 1500) ∧ tags.length ≤ 40 ∧ a.length ≤ 1500 := by
  unfold fitsB at h
  rw [Bool.and_eq_true, Bool.and_eq_true, decide_eq_true_eq, decide_eq_true_eq] at h
  exact ⟨fun x hx => by simpa using List.all_eq_true.1 h.1 x hx, h.2⟩

theorem fits_some (t : Int) (a : Bs) (b o c : Nat) (tags : List Bs) (w : World) (hc : CellsAt w b o tags) (hb : b < w.heap.size) (hl : tags.length ≤ 9223372036854775807) :
    Calls Tryd.prog 7 #[itV t a (.slice (some ⟨b, o, none⟩) tags.length c)] w fun e w' => e = .returned (.bool (fitsB a tags)) ∧ Below w.heap.size w w' := by
  have HX := Lib.hid (box3_new w 26 (.int .i64 t) (.string ⟨a.toArray⟩) (.slice (some ⟨b, o, none⟩) tags.length c))
  have HB := Lib.hid ((Below.refl w.heap.size w).alloc (Nat.le_refl _) (.cells #[.int .i64 t, .string ⟨a.toArray⟩, .slice (some ⟨b, o, none⟩) tags.length c] 26))
  have HC := Lib.hid (hc.below HB.out hb)
  obtain ⟨⟨c0, c1, c2⟩, _, _⟩ := HX.out.facts
  clear hc
  go_enter Tryd.func7, Tryd.ntmps7
  go_wp2
  go_loop [3] (fun i => ∃ k : Nat, k ≤ tags.length ∧ i = .int .i64 k ∧ Hid (∀ x ∈ tags.take k, x.length ≤ 1500)) (fun i => tags.length - (intOf i).toNat)
  case atStart => exact ⟨0, Nat.zero_le _, rfl, fun x hx => by simp at hx⟩
  case round =>
    obtain ⟨k, hk, rfl, H⟩ := hrel
    by_cases hlt : k < tags.length
    · have hcell := HC.out k tags[k] (by simp [hlt])
      have H2 := Lib.hid (take_snoc hlt)
      have HM := Lib.hid (List.getElem_mem hlt)
      generalize hx : tags[k] = y at H2 HM hcell
      clear hx
      by_cases hy : y.length ≤ 1500
      · have HN := Lib.hid (show ∀ z ∈ tags.take (k + 1), z.length ≤ 1500 by
          rw [H2.out]
          intro z hz
          rcases List.mem_append.1 hz with hz | hz
          · exact H.out z hz
          · rw [List.mem_singleton.1 hz]; exact hy)
        have HD := Lib.hid (decide_eq_true hy)
        clear hy
        go_wp2_with (go_at_call 6; refine (small_any y _).mono ?_; rintro e w2 ⟨rfl, rfl⟩; rw [HD.out])
        go_round
        case rel => exact ⟨k + 1, by omega, by go_num, HN.out⟩
        case measure => simp [intOf]; omega
      · have HN := Lib.hid (fitsB_bad (a := a) HM.out hy)
        have HD := Lib.hid (decide_eq_false hy)
        clear hy
        go_wp2_with (go_at_call 6; refine (small_any y _).mono ?_; rintro e w2 ⟨rfl, rfl⟩; rw [HD.out])
        go_ret
        exact ⟨ret_bool' HN.out.symm, HB.out⟩
    · have HN := Lib.hid (fitsB_good (a := a) (tags := tags) (by have h := H.out; rw [List.take_of_length_le (by omega)] at h; exact h))
      by_cases h4 : tags.length ≤ 40
      · have h5 : decide ((tags.length : Int) ≤ 40) = true := decide_eq_true (by omega)
        have HE := Lib.hid (show decide (tags.length ≤ 40) = true from decide_eq_true h4)
        go_wp2_with (go_at_call 6; refine (small_any a _).mono ?_; rintro e w2 ⟨rfl, rfl⟩)
        go_ret
        exact ⟨ret_bool' (by rw [HN.out, HE.out]; simp), HB.out⟩
      · have h5 : decide ((tags.length : Int) ≤ 40) = false := decide_eq_false (by omega)
        have HE := Lib.hid (show decide (tags.length ≤ 40) = false from decide_eq_false h4)
        go_wp2_with (go_at_call 6; refine (small_any a _).mono ?_; rintro e w2 ⟨rfl, rfl⟩)
        go_ret
        exact ⟨ret_bool' (by rw [HN.out, HE.out]; simp), HB.out⟩

theorem fits_none (t : Int) (a : Bs) (ua : Option Addr) (uc : Nat) (w : World) :
    Calls Tryd.prog 7 #[itV t a (.slice ua 0 uc)] w fun e w' => e = .returned (.bool (fitsB a [])) ∧ Below w.heap.size w w' := by
  have HX := Lib.hid (box3_new w 26 (.int .i64 t) (.string ⟨a.toArray⟩) (.slice ua 0 uc))
  have HB := Lib.hid ((Below.refl w.heap.size w).alloc (Nat.le_refl _) (.cells #[.int .i64 t, .string ⟨a.toArray⟩, .slice ua 0 uc] 26))
  obtain ⟨⟨c0, c1, c2⟩, _, _⟩ := HX.out.facts
  go_enter Tryd.func7, Tryd.ntmps7
  go_wp2
  go_loop [3] (fun i => i = .int .i64 0) (fun _ => 0)
  case atStart => rfl
  case round =>
    subst hrel
    go_wp2_with (go_at_call 6; refine (small_any a _).mono ?_; rintro e w2 ⟨rfl, rfl⟩)
    go_ret
    exact ⟨ret_bool' (by simp [fitsB]), HB.out⟩

theorem fits_any (t : Int) (a : Bs) (u : Value) (tags : List Bs) (w : World) (hu : StrsV w u tags) (hl : tags.length ≤ 9223372036854775807) :
    Calls Tryd.prog 7 #[itV t a u] w fun e w' => e = .returned (.bool (fitsB a tags)) ∧ Below w.heap.size w w' := by
  obtain ⟨a0, c0, hv0⟩ := hu.form
  rcases hu with ⟨rfl, _⟩ | ⟨b, o, c, rfl, _, hb, hc⟩
  · subst hv0
    exact fits_none t a a0 c0 w
  · exact fits_some t a b o c tags w hc hb hl
end A1
end Go.Proofs.YtbnjajpencahfaaDoor
