/- Contracts: strconv.Atoi at every text, slices.Index on the variable words, purge.Parse. Conditions: texts of at most 2^27 bytes; the variables words, strconv.ErrSyntax and strconv.ErrRange as the program's text lays them. -/
import Derived.Test.YtbnjajpencahfaaGreatDoorPurg6
import Derived.Test.YtbnjajpencahfaaGreatDoorPurg7
import Derived.Test.YtbnjajpencahfaaGreatDoorParsP
import Derived.Test.YtbnjajpencahfaaGreatDoorShelf3
import Derived.Stop.LaidErr
namespace Go.Proofs.YtbnjajpencahfaaGreatDoor
open Go.RowKit Pl Ad Go.Shelf
attribute [local go_sem] ba_get ba_append ba_extract_end ba_extract_zero ba_extract
set_option maxRecDepth 100000
set_option maxHeartbeats 4000000
set_option linter.unusedVariables false
namespace A1

theorem var_below {P : Program} {w w' : World} {n : String} {cs : Array Value} (h : w.var? P n = some cs) (hb : Below w.heap.size w w') : w'.var? P n = some cs := by
  unfold World.var? at h ⊢
  cases hg : P.globalNamed n with
  | none => simp [hg] at h
  | some g =>
    simp only [hg, Option.bind_some] at h ⊢
    have hlt : g < w.heap.size := by
      rcases Nat.lt_or_ge g w.heap.size with h' | h'
      · exact h'
      · simp [Array.getElem?_eq_none h'] at h
    rw [hb.block g hlt]
    exact h
/-- The variables that Parse reads. -/
structure ParseAt (w : World) : Prop where
  words : WordsAt w
  c0 : w.cell? ⟨0, 0, none⟩ = some (.string ⟨([] : Bs).toArray⟩)
  stx : ∃ tp p, w.var? Tryz.prog "strconv.ErrSyntax" = some #[.iface tp p]
  rng : ∃ tp p, w.var? Tryz.prog "strconv.ErrRange" = some #[.iface tp p]
theorem ParseAt.below {w w' : World} (h : ParseAt w) (hb : Below w.heap.size w w') : ParseAt w' :=
  ⟨h.words.below hb, (hb.cell (p := ⟨0, 0, none⟩) h.words.lt).trans h.c0, by obtain ⟨tp, p, h1⟩ := h.stx; exact ⟨tp, p, var_below h1 hb⟩, by obtain ⟨tp, p, h1⟩ := h.rng; exact ⟨tp, p, var_below h1 hb⟩⟩

/-- An error of Atoi. -/
def AtoiNo (e : Ending) : Prop := ∃ n p, e = .returned (.tuple #[.int .i64 n, .iface 93 p])
theorem atoi_yes (s : Bs) (n : Int) (w : World) (h : Lib.atoiAll s = .ok n) (hl : s.length ≤ 134217728) :
    Calls Tryz.prog 29 #[.string ⟨s.toArray⟩] w fun e w' => e = .returned (.tuple #[.int .i64 n, .nilIface]) ∧ Below w.heap.size w w' :=
  (Tryz.strconv_Atoi_ok ⟨s.toArray⟩ (by rw [size_str]; omega) n h w).mono fun e w' hx => by
    obtain ⟨rfl, rfl | ⟨t, rfl⟩⟩ := hx
    · exact ⟨rfl, Below.refl _ _⟩
    · exact ⟨rfl, Lib.bytesWorld_below _ _ _⟩
theorem atoi_no (s : Bs) (w : World) (h : ∀ n, Lib.atoiAll s ≠ .ok n) (hp : ParseAt w) (hl : s.length ≤ 134217728) :
    Calls Tryz.prog 29 #[.string ⟨s.toArray⟩] w fun e w' => AtoiNo e ∧ Below w.heap.size w w' := by
  cases ha : Lib.atoiAll s
  · exact absurd ha (h _)
  · obtain ⟨tp, p, hv⟩ := hp.stx
    exact (Any.strconv_Atoi_syntax_var Tryz.laysC172 ⟨s.toArray⟩ (by rw [size_str]; omega) ha tp p w hv).mono fun e w' hx => by
      obtain ⟨N, rfl, _, _, hb⟩ := hx
      exact ⟨⟨_, _, rfl⟩, hb⟩
  · obtain ⟨tp, p, hv⟩ := hp.rng
    exact (Tryz.strconv_Atoi_range_var ⟨s.toArray⟩ (by rw [size_str]; omega) ha tp p w hv).mono fun e w' hx => by
      obtain ⟨N, rfl, _, _, hb⟩ := hx
      exact ⟨⟨_, _, rfl⟩, hb⟩
theorem index_any (x : Bs) (w : World) (h : ParseAt w) :
    Calls Tryz.prog 30 #[.slice (some ⟨0, 0, none⟩) 4 4, .string ⟨x.toArray⟩] w fun e w' => e = .returned (.int .i64 (kindOf x)) ∧ w = w' :=
  (Tryz.slices_Index_string 0 0 4 4 wordsL ⟨x.toArray⟩ w (by decide) (by decide) (fun j hj => by
    have hj4 : j < 4 := hj
    have c : j = 0 ∨ j = 1 ∨ j = 2 ∨ j = 3 := by omega
    rcases c with rfl | rfl | rfl | rfl
    · exact h.c0
    · exact h.words.c1
    · exact h.words.c2
    · exact h.words.c3)).mono fun e w' hx => ⟨by rw [hx.1]; rfl, hx.2.symm⟩

/-- What Parse answers. -/
def parV (r : Option Pg) : Value := match r with
  | some p => .tuple #[pgV p, .nilIface]
  | none => .tuple #[.agg #[.int .i64 0, .int .i64 0, .string ⟨#[]⟩], .iface 43 (.int .i64 2)]
theorem ret_par {r r' : Option Pg} (h : r = r') : Ending.returned (parV r) = Ending.returned (parV r') := by rw [h]

theorem parse_noatoi (s : Bs) (w : World) (hr : Ready w) (hp : ParseAt w) (hl : s.length ≤ 134217728) (h : ∀ n, Lib.atoiAll (cutAt 32 (restOf s)).1 ≠ .ok n) :
    Calls Tryz.prog 16 #[.string ⟨s.toArray⟩] w fun e w' => e = .returned (parV (parseO s)) ∧ Below w.heap.size w w' := by
  have HPO := Lib.hid (parseO_no1 h)
  have HNO := Lib.hid h
  have HX := Lib.hid (box3_new w 31 (.int .i64 0) (.int .i64 0) (.string ⟨#[]⟩))
  have HB := Lib.hid ((Below.refl w.heap.size w).alloc (Nat.le_refl _) (.cells #[.int .i64 0, .int .i64 0, .string ⟨#[]⟩] 31))
  have hr1 := restOf_len s
  have hr2 := cutAt_len 32 (restOf s)
  have HR := Lib.hid (hr.below HB.out)
  have HP := Lib.hid (hp.below HB.out)
  clear h hp
  go_enter Tryz.func16, Tryz.ntmps16
  go_wp2_with fail
  refine (cut_any s 32 _ (by omega) HR.out).mono ?_
  rintro e w1 ⟨rfl, hb1⟩
  rw [show (cutAt 32 s).2.1 = restOf s from rfl]
  have HR1 := Lib.hid (HR.out.below hb1)
  have HP1 := Lib.hid (HP.out.below hb1)
  have HX1 := Lib.hid (HX.out.older hb1)
  have HB1 := Lib.hid (HB.out.trans (hb1.mono (by simp)))
  clear hb1
  go_wp2_with fail
  refine (cut_any (restOf s) 32 _ (by omega) HR1.out).mono ?_
  rintro e w2 ⟨rfl, hb2⟩
  have HP2 := Lib.hid (HP1.out.below hb2)
  have HX2 := Lib.hid (HX1.out.older hb2)
  have HB2 := Lib.hid (HB1.out.trans (hb2.mono HB1.out.size))
  clear hb2
  go_wp2_with fail
  refine (atoi_no _ _ HNO.out HP2.out (by omega)).mono ?_
  rintro e w3 ⟨⟨n, p, rfl⟩, hb3⟩
  have hX3 := HX2.out.older hb3
  have HB3 := Lib.hid (HB2.out.trans (hb3.mono HB2.out.size))
  obtain ⟨⟨c0, c1, c2⟩, ⟨f0, f1, f2⟩, hz⟩ := hX3.facts
  clear hb3 hX3
  go_wp2_with fail
  refine bodyPost_ret (v := parV none) (by simp [results, Tryz.results16, go_sem, parV, c0, c1, c2]) rfl ⟨ret_par HPO.out.symm, below_set3 HB3.out (Nat.le_refl _) _ _ _⟩

theorem parse_bad (s : Bs) (n : Int) (w : World) (hr : Ready w) (hp : ParseAt w) (hl : s.length ≤ 134217728) (hn : Lib.atoiAll (cutAt 32 (restOf s)).1 = .ok n) (hc : ¬ checkN (tryP s n) = 0) :
    Calls Tryz.prog 16 #[.string ⟨s.toArray⟩] w fun e w' => e = .returned (parV (parseO s)) ∧ Below w.heap.size w w' := by
  have HPO := Lib.hid (parseO_no2 hn hc)
  have HN := Lib.hid hn
  have HC := Lib.hid hc
  have HTR := Lib.hid (show tryP s n = ⟨kindOf (cutAt 32 s).1, n, (cutAt 32 (restOf s)).2.1⟩ from rfl)
  have HX := Lib.hid (box3_new w 31 (.int .i64 0) (.int .i64 0) (.string ⟨#[]⟩))
  have HB := Lib.hid ((Below.refl w.heap.size w).alloc (Nat.le_refl _) (.cells #[.int .i64 0, .int .i64 0, .string ⟨#[]⟩] 31))
  have hr1 := restOf_len s
  have hr2 := cutAt_len 32 (restOf s)
  have HR := Lib.hid (hr.below HB.out)
  have HP := Lib.hid (hp.below HB.out)
  clear hn hp hc
  go_enter Tryz.func16, Tryz.ntmps16
  go_wp2_with fail
  refine (cut_any s 32 _ (by omega) HR.out).mono ?_
  rintro e w1 ⟨rfl, hb1⟩
  rw [show (cutAt 32 s).2.1 = restOf s from rfl]
  have HR1 := Lib.hid (HR.out.below hb1)
  have HP1 := Lib.hid (HP.out.below hb1)
  have HX1 := Lib.hid (HX.out.older hb1)
  have HB1 := Lib.hid (HB.out.trans (hb1.mono (by simp)))
  clear hb1
  go_wp2_with fail
  refine (cut_any (restOf s) 32 _ (by omega) HR1.out).mono ?_
  rintro e w2 ⟨rfl, hb2⟩
  have HR2 := Lib.hid (HR1.out.below hb2)
  have HP2 := Lib.hid (HP1.out.below hb2)
  have HX2 := Lib.hid (HX1.out.older hb2)
  have HB2 := Lib.hid (HB1.out.trans (hb2.mono HB1.out.size))
  clear hb2
  go_wp2_with fail
  refine (atoi_yes _ n _ HN.out (by omega)).mono ?_
  rintro e w3 ⟨rfl, hb3⟩
  have HR3 := Lib.hid (HR2.out.below hb3)
  have HP3 := Lib.hid (HP2.out.below hb3)
  have HX3 := Lib.hid (HX2.out.older hb3)
  have HB3 := Lib.hid (HB2.out.trans (hb3.mono HB2.out.size))
  clear hb3
  have hvl : ((cutAt 32 (restOf s)).2.1).length ≤ 134217728 := by omega
  generalize hw9 : (cutAt 32 s).1 = word at HTR
  generalize hv9 : (cutAt 32 (restOf s)).2.1 = val at HTR hvl
  have HW9 := Lib.hid hw9
  have HV9 := Lib.hid hv9
  clear hw9 hv9 hr1 hr2
  have HY := Lib.hid (box3_new w3 31 (.int .i64 (kindOf word)) (.int .i64 n) (.string ⟨val.toArray⟩))
  have hA : Below w3.heap.size w3 (w3.alloc (.cells #[.int .i64 (kindOf word), .int .i64 n, .string ⟨val.toArray⟩] 31)) := (Below.refl _ _).alloc (Nat.le_refl _) _
  have HR4 := Lib.hid (HR3.out.below hA)
  have HP4 := Lib.hid (HP3.out.below hA)
  have HX4 := Lib.hid (HX3.out.older hA)
  have HB4 := Lib.hid (HB3.out.trans (hA.mono HB3.out.size))
  clear hA
  go_wp2_with (go_at_call 30; with_reducible refine (index_any word _ HP3.out).mono ?_; rintro e w9 ⟨rfl, rfl⟩)
  refine (format_err ⟨kindOf word, n, val⟩ _ HR4.out hvl (by rw [← HTR.out]; exact HC.out)).mono ?_
  rintro e w5 ⟨rfl, hb5⟩
  have hX5 := HX4.out.older hb5
  have HB5 := Lib.hid (HB4.out.trans (hb5.mono HB4.out.size))
  obtain ⟨⟨c0, c1, c2⟩, ⟨f0, f1, f2⟩, hz⟩ := hX5.facts
  clear hb5 hX5
  go_wp2_with fail
  exact bodyPost_ret (v := parV none) (by simp [results, Tryz.results16, go_sem, parV, c0, c1, c2]) rfl ⟨ret_par HPO.out.symm, below_set3 HB5.out (Nat.le_refl _) _ _ _⟩

theorem parse_other (s : Bs) (n : Int) (w : World) (hr : Ready w) (hp : ParseAt w) (hl : s.length ≤ 134217728) (hn : Lib.atoiAll (cutAt 32 (restOf s)).1 = .ok n) (hc : checkN (tryP s n) = 0) (hf : ¬ fmtT (tryP s n) = s) :
    Calls Tryz.prog 16 #[.string ⟨s.toArray⟩] w fun e w' => e = .returned (parV (parseO s)) ∧ Below w.heap.size w w' := by
  have HPO := Lib.hid (parseO_no3 hn hf)
  have HN := Lib.hid hn
  have HC := Lib.hid hc
  have HF := Lib.hid hf
  have HTR := Lib.hid (show tryP s n = ⟨kindOf (cutAt 32 s).1, n, (cutAt 32 (restOf s)).2.1⟩ from rfl)
  have HX := Lib.hid (box3_new w 31 (.int .i64 0) (.int .i64 0) (.string ⟨#[]⟩))
  have HB := Lib.hid ((Below.refl w.heap.size w).alloc (Nat.le_refl _) (.cells #[.int .i64 0, .int .i64 0, .string ⟨#[]⟩] 31))
  have hr1 := restOf_len s
  have hr2 := cutAt_len 32 (restOf s)
  have HR := Lib.hid (hr.below HB.out)
  have HP := Lib.hid (hp.below HB.out)
  clear hn hp hc hf
  go_enter Tryz.func16, Tryz.ntmps16
  go_wp2_with fail
  refine (cut_any s 32 _ (by omega) HR.out).mono ?_
  rintro e w1 ⟨rfl, hb1⟩
  rw [show (cutAt 32 s).2.1 = restOf s from rfl]
  have HR1 := Lib.hid (HR.out.below hb1)
  have HP1 := Lib.hid (HP.out.below hb1)
  have HX1 := Lib.hid (HX.out.older hb1)
  have HB1 := Lib.hid (HB.out.trans (hb1.mono (by simp)))
  clear hb1
  go_wp2_with fail
  refine (cut_any (restOf s) 32 _ (by omega) HR1.out).mono ?_
  rintro e w2 ⟨rfl, hb2⟩
  have HR2 := Lib.hid (HR1.out.below hb2)
  have HP2 := Lib.hid (HP1.out.below hb2)
  have HX2 := Lib.hid (HX1.out.older hb2)
  have HB2 := Lib.hid (HB1.out.trans (hb2.mono HB1.out.size))
  clear hb2
  go_wp2_with fail
  refine (atoi_yes _ n _ HN.out (by omega)).mono ?_
  rintro e w3 ⟨rfl, hb3⟩
  have HR3 := Lib.hid (HR2.out.below hb3)
  have HP3 := Lib.hid (HP2.out.below hb3)
  have HX3 := Lib.hid (HX2.out.older hb3)
  have HB3 := Lib.hid (HB2.out.trans (hb3.mono HB2.out.size))
  clear hb3
  have hvl : ((cutAt 32 (restOf s)).2.1).length ≤ 134217728 := by omega
  generalize hw9 : (cutAt 32 s).1 = word at HTR
  generalize hv9 : (cutAt 32 (restOf s)).2.1 = val at HTR hvl
  have HW9 := Lib.hid hw9
  have HV9 := Lib.hid hv9
  clear hw9 hv9 hr1 hr2
  have HY := Lib.hid (box3_new w3 31 (.int .i64 (kindOf word)) (.int .i64 n) (.string ⟨val.toArray⟩))
  have hA : Below w3.heap.size w3 (w3.alloc (.cells #[.int .i64 (kindOf word), .int .i64 n, .string ⟨val.toArray⟩] 31)) := (Below.refl _ _).alloc (Nat.le_refl _) _
  have HR4 := Lib.hid (HR3.out.below hA)
  have HP4 := Lib.hid (HP3.out.below hA)
  have HX4 := Lib.hid (HX3.out.older hA)
  have HB4 := Lib.hid (HB3.out.trans (hA.mono HB3.out.size))
  clear hA
  go_wp2_with (go_at_call 30; with_reducible refine (index_any word _ HP3.out).mono ?_; rintro e w9 ⟨rfl, rfl⟩)
  refine (format_ok ⟨kindOf word, n, val⟩ _ HR4.out HP4.out.words hvl (by rw [← HTR.out]; exact HC.out)).mono ?_
  rintro e w5 ⟨rfl, hb5⟩
  rw [← HTR.out]
  have hX5 := HX4.out.older hb5
  have hY5 := HY.out.older hb5
  have HB5 := Lib.hid (HB4.out.trans (hb5.mono HB4.out.size))
  obtain ⟨⟨c0, c1, c2⟩, ⟨f0, f1, f2⟩, hz⟩ := hX5.facts
  obtain ⟨⟨d0, d1, d2⟩, _, hz2⟩ := hY5.facts
  clear hb5 hX5 hY5
  generalize hg : fmtT (tryP s n) = txt at HF
  have HG := Lib.hid hg
  clear hg
  obtain hF := HF.out
  have hq : (!(txt == s)) = true := by rw [beq_eq_false_iff_ne.2 hF]; rfl
  clear hF
  go_wp2_with fail
  exact bodyPost_ret (v := parV none) (by simp [results, Tryz.results16, go_sem, parV, c0, c1, c2]) rfl ⟨ret_par HPO.out.symm, below_set3 HB5.out (Nat.le_refl _) _ _ _⟩

theorem parse_same (s : Bs) (n : Int) (w : World) (hr : Ready w) (hp : ParseAt w) (hl : s.length ≤ 134217728) (hn : Lib.atoiAll (cutAt 32 (restOf s)).1 = .ok n) (hc : checkN (tryP s n) = 0) (hf : fmtT (tryP s n) = s) :
    Calls Tryz.prog 16 #[.string ⟨s.toArray⟩] w fun e w' => e = .returned (parV (parseO s)) ∧ Below w.heap.size w w' := by
  have HPO := Lib.hid (parseO_yes hn hc hf)
  have HN := Lib.hid hn
  have HC := Lib.hid hc
  have HF := Lib.hid hf
  have HTR := Lib.hid (show tryP s n = ⟨kindOf (cutAt 32 s).1, n, (cutAt 32 (restOf s)).2.1⟩ from rfl)
  have HX := Lib.hid (box3_new w 31 (.int .i64 0) (.int .i64 0) (.string ⟨#[]⟩))
  have HB := Lib.hid ((Below.refl w.heap.size w).alloc (Nat.le_refl _) (.cells #[.int .i64 0, .int .i64 0, .string ⟨#[]⟩] 31))
  have hr1 := restOf_len s
  have hr2 := cutAt_len 32 (restOf s)
  have HR := Lib.hid (hr.below HB.out)
  have HP := Lib.hid (hp.below HB.out)
  clear hn hp hc hf
  go_enter Tryz.func16, Tryz.ntmps16
  go_wp2_with fail
  refine (cut_any s 32 _ (by omega) HR.out).mono ?_
  rintro e w1 ⟨rfl, hb1⟩
  rw [show (cutAt 32 s).2.1 = restOf s from rfl]
  have HR1 := Lib.hid (HR.out.below hb1)
  have HP1 := Lib.hid (HP.out.below hb1)
  have HX1 := Lib.hid (HX.out.older hb1)
  have HB1 := Lib.hid (HB.out.trans (hb1.mono (by simp)))
  clear hb1
  go_wp2_with fail
  refine (cut_any (restOf s) 32 _ (by omega) HR1.out).mono ?_
  rintro e w2 ⟨rfl, hb2⟩
  have HR2 := Lib.hid (HR1.out.below hb2)
  have HP2 := Lib.hid (HP1.out.below hb2)
  have HX2 := Lib.hid (HX1.out.older hb2)
  have HB2 := Lib.hid (HB1.out.trans (hb2.mono HB1.out.size))
  clear hb2
  go_wp2_with fail
  refine (atoi_yes _ n _ HN.out (by omega)).mono ?_
  rintro e w3 ⟨rfl, hb3⟩
  have HR3 := Lib.hid (HR2.out.below hb3)
  have HP3 := Lib.hid (HP2.out.below hb3)
  have HX3 := Lib.hid (HX2.out.older hb3)
  have HB3 := Lib.hid (HB2.out.trans (hb3.mono HB2.out.size))
  clear hb3
  have hvl : ((cutAt 32 (restOf s)).2.1).length ≤ 134217728 := by omega
  generalize hw9 : (cutAt 32 s).1 = word at HTR
  generalize hv9 : (cutAt 32 (restOf s)).2.1 = val at HTR hvl
  have HW9 := Lib.hid hw9
  have HV9 := Lib.hid hv9
  clear hw9 hv9 hr1 hr2
  have HY := Lib.hid (box3_new w3 31 (.int .i64 (kindOf word)) (.int .i64 n) (.string ⟨val.toArray⟩))
  have hA : Below w3.heap.size w3 (w3.alloc (.cells #[.int .i64 (kindOf word), .int .i64 n, .string ⟨val.toArray⟩] 31)) := (Below.refl _ _).alloc (Nat.le_refl _) _
  have HR4 := Lib.hid (HR3.out.below hA)
  have HP4 := Lib.hid (HP3.out.below hA)
  have HX4 := Lib.hid (HX3.out.older hA)
  have HB4 := Lib.hid (HB3.out.trans (hA.mono HB3.out.size))
  clear hA
  go_wp2_with (go_at_call 30; with_reducible refine (index_any word _ HP3.out).mono ?_; rintro e w9 ⟨rfl, rfl⟩)
  refine (format_ok ⟨kindOf word, n, val⟩ _ HR4.out HP4.out.words hvl (by rw [← HTR.out]; exact HC.out)).mono ?_
  rintro e w5 ⟨rfl, hb5⟩
  rw [← HTR.out]
  have hX5 := HX4.out.older hb5
  have hY5 := HY.out.older hb5
  have HB5 := Lib.hid (HB4.out.trans (hb5.mono HB4.out.size))
  obtain ⟨⟨c0, c1, c2⟩, ⟨f0, f1, f2⟩, hz⟩ := hX5.facts
  obtain ⟨⟨d0, d1, d2⟩, _, hz2⟩ := hY5.facts
  clear hb5 hX5 hY5
  generalize hg : fmtT (tryP s n) = txt at HF
  have HG := Lib.hid hg
  clear hg
  obtain hF := HF.out
  have hq : (!(txt == s)) = false := by rw [beq_iff_eq.2 hF]; rfl
  clear hF
  go_wp2_with fail
  exact bodyPost_ret (v := parV (some ⟨kindOf word, n, val⟩)) (by simp [results, Tryz.results16, go_sem, parV, c0, c1, c2]) rfl ⟨ret_par (by rw [HPO.out, HTR.out]), below_set3 HB5.out (Nat.le_refl _) _ _ _⟩

theorem pparse_any (s : Bs) (w : World) (hr : Ready w) (hp : ParseAt w) (hl : s.length ≤ 134217728) :
    Calls Tryz.prog 16 #[.string ⟨s.toArray⟩] w fun e w' => e = .returned (parV (parseO s)) ∧ Below w.heap.size w w' := by
  by_cases h : ∃ n, Lib.atoiAll (cutAt 32 (restOf s)).1 = .ok n
  · obtain ⟨n, hn⟩ := h
    by_cases hc : checkN (tryP s n) = 0
    · by_cases hf : fmtT (tryP s n) = s
      · exact parse_same s n w hr hp hl hn hc hf
      · exact parse_other s n w hr hp hl hn hc hf
    · exact parse_bad s n w hr hp hl hn hc
  · exact parse_noatoi s w hr hp hl (fun n hn => h ⟨n, hn⟩)
end A1
end Go.Proofs.YtbnjajpencahfaaGreatDoor
