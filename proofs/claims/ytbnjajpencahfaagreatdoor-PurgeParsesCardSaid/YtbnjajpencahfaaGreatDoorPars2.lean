/- Contracts: the reference's sample, Format, Parse (36). Conditions: texts of at most 2^27 bytes. -/
import Derived.Test.YtbnjajpencahfaaGreatDoorPars1
import Derived.RegionTactic
import Derived.Deep.RegionHeld3
import Derived.BigQuiet
namespace Go.Proofs.YtbnjajpencahfaaGreatDoor
open Go.RowKit Pl Ad
attribute [local go_sem] ba_get ba_append ba_extract_end ba_extract_zero ba_extract conv_one conv_one_drewN
set_option maxRecDepth 100000
set_option maxHeartbeats 4000000
set_option linter.unusedVariables false
namespace A1

theorem ret_str {a b : Bs} (h : a = b) : Ending.returned (.string ⟨a.toArray⟩) = Ending.returned (.string ⟨b.toArray⟩) := by rw [h]
theorem ret_str2 {a b : Bs} {c : Bool} (h : a = b) : Ending.returned (.tuple #[.string ⟨a.toArray⟩, .bool c]) = Ending.returned (.tuple #[.string ⟨b.toArray⟩, .bool c]) := by rw [h]

theorem sample_any (k : Int) (w : World) : Calls Tryz.prog 31 #[.int .i64 k] w fun e w' => e = .returned (.string ⟨(smp k).toArray⟩) ∧ w = w' := by
  by_cases h : k = 3
  · have HS := Lib.hid (show smp k = [97] from if_pos h)
    subst h
    go_enter Tryz.func31, Tryz.ntmps31
    go_wp2
    go_ret
    exact ⟨ret_str (by rw [HS.out]), rfl⟩
  · have HS := Lib.hid (show smp k = [97, 47] from if_neg h)
    have hq : (k == 3) = false := beq_eq_false_iff_ne.2 h
    clear h
    go_enter Tryz.func31, Tryz.ntmps31
    go_wp2
    go_ret
    exact ⟨ret_str (by rw [HS.out]), rfl⟩

theorem decOf_small {n : Nat} (h : n < 10) : decOf (n : Int) = [UInt8.ofNat (48 + n)] := by unfold decOf; rw [if_pos (by omega)]; rfl
theorem decOf_great {n : Nat} (h : 10 ≤ n) : decOf (n : Int) = [49, UInt8.ofNat (48 + (n - 10))] := by unfold decOf; rw [if_neg (by omega), show 48 + (n - 10) = 38 + n by omega]; rfl

theorem refFormat_bad (p : Pg) (w : World) (hl : p.value.length ≤ 134217728) (hc : ¬ checkN p = 0) :
    Calls Tryz.prog 14 #[pgV p] w fun e w' => e = .returned (.tuple #[.string ⟨#[]⟩, .bool false]) ∧ Below w.heap.size w w' := by
  have hq : ∃ n : Int, checkN p = n ∧ (n = 1 ∨ n = 2) := ⟨_, rfl, by have := checkN_cases p; omega⟩
  obtain ⟨n, hn, hn2⟩ := hq
  have HC := Lib.hid hn
  clear hc hn
  obtain ⟨k, t, v⟩ := p
  simp only at hl
  have HB := Lib.hid ((Below.refl w.heap.size w).alloc (Nat.le_refl _) (.cells #[.int .i64 k, .int .i64 t, .string ⟨v.toArray⟩] 23))
  rcases hn2 with rfl | rfl
  all_goals
    go_enter Tryz.func14, Tryz.ntmps14
    go_wp2_with (go_at_call 23; with_reducible refine (refCheck_any ⟨k, t, v⟩ _ hl).mono ?_; rintro e w2 ⟨rfl, hb2⟩; rw [HC.out])
    go_ret2
    exact ⟨rfl, HB.out.trans (hb2.mono (by simp))⟩

theorem refFormat_1a (n : Nat) (v : Bs) (w : World) (hl : v.length ≤ 134217728) (hn : n < 16) (hs : n < 10) (hc : checkN ⟨1, n, v⟩ = 0) :
    Calls Tryz.prog 14 #[.agg #[.int .i64 1, .int .i64 n, .string ⟨v.toArray⟩]] w fun e w' => e = .returned (.tuple #[.string ⟨(fmtT ⟨1, n, v⟩).toArray⟩, .bool true]) ∧ Below w.heap.size w w' := by
  have HC := Lib.hid hc
  have HF := Lib.hid (show fmtT ⟨1, n, v⟩ = [101, 120, 97, 99, 116] ++ 32 :: (decOf (n : Int) ++ 32 :: v) from rfl)
  have HD := Lib.hid (decOf_small hs)
  have HX := Lib.hid (box3_new w 23 (.int .i64 1) (.int .i64 n) (.string ⟨v.toArray⟩))
  have HB := Lib.hid ((Below.refl w.heap.size w).alloc (Nat.le_refl _) (.cells #[.int .i64 1, .int .i64 n, .string ⟨v.toArray⟩] 23))
  have hm : (n : Int) % 10 = n := by omega
  clear hc
  go_enter Tryz.func14, Tryz.ntmps14
  go_wp2_with (go_at_call 23; with_reducible refine (refCheck_any ⟨1, n, v⟩ _ hl).mono ?_; rintro e w2 ⟨rfl, hb2⟩; rw [HC.out]; have HX2 := Lib.hid (HX.out.older hb2); have HB2 := Lib.hid (HB.out.trans (hb2.mono HB.out.size)); obtain ⟨⟨c0, c1, c2⟩, _, hz⟩ := HX2.out.facts; clear hb2)
  go_region
  all_goals
    go_wp2
    go_ret2
    exact ⟨ret_str2 (by rw [HF.out, HD.out]; simp), by repeat (first | exact HB2.out | (refine Below.drew ?_) | (refine Below.alloc ?_ (by have := HB2.out.size; simp; omega) _) | (refine below_drewN ?_ _))⟩

theorem refFormat_1b (n : Nat) (v : Bs) (w : World) (hl : v.length ≤ 134217728) (hn : n < 16) (hs : 10 ≤ n) (hc : checkN ⟨1, n, v⟩ = 0) :
    Calls Tryz.prog 14 #[.agg #[.int .i64 1, .int .i64 n, .string ⟨v.toArray⟩]] w fun e w' => e = .returned (.tuple #[.string ⟨(fmtT ⟨1, n, v⟩).toArray⟩, .bool true]) ∧ Below w.heap.size w w' := by
  have HC := Lib.hid hc
  have HF := Lib.hid (show fmtT ⟨1, n, v⟩ = [101, 120, 97, 99, 116] ++ 32 :: (decOf (n : Int) ++ 32 :: v) from rfl)
  have HD := Lib.hid (decOf_great hs)
  have HX := Lib.hid (box3_new w 23 (.int .i64 1) (.int .i64 n) (.string ⟨v.toArray⟩))
  have HB := Lib.hid ((Below.refl w.heap.size w).alloc (Nat.le_refl _) (.cells #[.int .i64 1, .int .i64 n, .string ⟨v.toArray⟩] 23))
  have hm : (n : Int) % 10 = n - 10 := by omega
  clear hc
  go_enter Tryz.func14, Tryz.ntmps14
  go_wp2_with (go_at_call 23; with_reducible refine (refCheck_any ⟨1, n, v⟩ _ hl).mono ?_; rintro e w2 ⟨rfl, hb2⟩; rw [HC.out]; have HX2 := Lib.hid (HX.out.older hb2); have HB2 := Lib.hid (HB.out.trans (hb2.mono HB.out.size)); obtain ⟨⟨c0, c1, c2⟩, _, hz⟩ := HX2.out.facts; clear hb2)
  go_region
  all_goals
    go_wp2
    go_ret2
    exact ⟨ret_str2 (by rw [HF.out, HD.out]; simp), by repeat (first | exact HB2.out | (refine Below.drew ?_) | (refine Below.alloc ?_ (by have := HB2.out.size; simp; omega) _) | (refine below_drewN ?_ _))⟩

theorem refFormat_2a (n : Nat) (v : Bs) (w : World) (hl : v.length ≤ 134217728) (hn : n < 16) (hs : n < 10) (hc : checkN ⟨2, n, v⟩ = 0) :
    Calls Tryz.prog 14 #[.agg #[.int .i64 2, .int .i64 n, .string ⟨v.toArray⟩]] w fun e w' => e = .returned (.tuple #[.string ⟨(fmtT ⟨2, n, v⟩).toArray⟩, .bool true]) ∧ Below w.heap.size w w' := by
  have HC := Lib.hid hc
  have HF := Lib.hid (show fmtT ⟨2, n, v⟩ = [112, 114, 101, 102, 105, 120] ++ 32 :: (decOf (n : Int) ++ 32 :: v) from rfl)
  have HD := Lib.hid (decOf_small hs)
  have HX := Lib.hid (box3_new w 23 (.int .i64 2) (.int .i64 n) (.string ⟨v.toArray⟩))
  have HB := Lib.hid ((Below.refl w.heap.size w).alloc (Nat.le_refl _) (.cells #[.int .i64 2, .int .i64 n, .string ⟨v.toArray⟩] 23))
  have hm : (n : Int) % 10 = n := by omega
  clear hc
  go_enter Tryz.func14, Tryz.ntmps14
  go_wp2_with (go_at_call 23; with_reducible refine (refCheck_any ⟨2, n, v⟩ _ hl).mono ?_; rintro e w2 ⟨rfl, hb2⟩; rw [HC.out]; have HX2 := Lib.hid (HX.out.older hb2); have HB2 := Lib.hid (HB.out.trans (hb2.mono HB.out.size)); obtain ⟨⟨c0, c1, c2⟩, _, hz⟩ := HX2.out.facts; clear hb2)
  go_region
  all_goals
    go_wp2
    go_ret2
    exact ⟨ret_str2 (by rw [HF.out, HD.out]; simp), by repeat (first | exact HB2.out | (refine Below.drew ?_) | (refine Below.alloc ?_ (by have := HB2.out.size; simp; omega) _) | (refine below_drewN ?_ _))⟩

theorem refFormat_2b (n : Nat) (v : Bs) (w : World) (hl : v.length ≤ 134217728) (hn : n < 16) (hs : 10 ≤ n) (hc : checkN ⟨2, n, v⟩ = 0) :
    Calls Tryz.prog 14 #[.agg #[.int .i64 2, .int .i64 n, .string ⟨v.toArray⟩]] w fun e w' => e = .returned (.tuple #[.string ⟨(fmtT ⟨2, n, v⟩).toArray⟩, .bool true]) ∧ Below w.heap.size w w' := by
  have HC := Lib.hid hc
  have HF := Lib.hid (show fmtT ⟨2, n, v⟩ = [112, 114, 101, 102, 105, 120] ++ 32 :: (decOf (n : Int) ++ 32 :: v) from rfl)
  have HD := Lib.hid (decOf_great hs)
  have HX := Lib.hid (box3_new w 23 (.int .i64 2) (.int .i64 n) (.string ⟨v.toArray⟩))
  have HB := Lib.hid ((Below.refl w.heap.size w).alloc (Nat.le_refl _) (.cells #[.int .i64 2, .int .i64 n, .string ⟨v.toArray⟩] 23))
  have hm : (n : Int) % 10 = n - 10 := by omega
  clear hc
  go_enter Tryz.func14, Tryz.ntmps14
  go_wp2_with (go_at_call 23; with_reducible refine (refCheck_any ⟨2, n, v⟩ _ hl).mono ?_; rintro e w2 ⟨rfl, hb2⟩; rw [HC.out]; have HX2 := Lib.hid (HX.out.older hb2); have HB2 := Lib.hid (HB.out.trans (hb2.mono HB.out.size)); obtain ⟨⟨c0, c1, c2⟩, _, hz⟩ := HX2.out.facts; clear hb2)
  go_region
  all_goals
    go_wp2
    go_ret2
    exact ⟨ret_str2 (by rw [HF.out, HD.out]; simp), by repeat (first | exact HB2.out | (refine Below.drew ?_) | (refine Below.alloc ?_ (by have := HB2.out.size; simp; omega) _) | (refine below_drewN ?_ _))⟩

theorem refFormat_3a (n : Nat) (v : Bs) (w : World) (hl : v.length ≤ 134217728) (hn : n < 16) (hs : n < 10) (hc : checkN ⟨3, n, v⟩ = 0) :
    Calls Tryz.prog 14 #[.agg #[.int .i64 3, .int .i64 n, .string ⟨v.toArray⟩]] w fun e w' => e = .returned (.tuple #[.string ⟨(fmtT ⟨3, n, v⟩).toArray⟩, .bool true]) ∧ Below w.heap.size w w' := by
  have HC := Lib.hid hc
  have HF := Lib.hid (show fmtT ⟨3, n, v⟩ = [116, 97, 103] ++ 32 :: (decOf (n : Int) ++ 32 :: v) from rfl)
  have HD := Lib.hid (decOf_small hs)
  have HX := Lib.hid (box3_new w 23 (.int .i64 3) (.int .i64 n) (.string ⟨v.toArray⟩))
  have HB := Lib.hid ((Below.refl w.heap.size w).alloc (Nat.le_refl _) (.cells #[.int .i64 3, .int .i64 n, .string ⟨v.toArray⟩] 23))
  have hm : (n : Int) % 10 = n := by omega
  clear hc
  go_enter Tryz.func14, Tryz.ntmps14
  go_wp2_with (go_at_call 23; with_reducible refine (refCheck_any ⟨3, n, v⟩ _ hl).mono ?_; rintro e w2 ⟨rfl, hb2⟩; rw [HC.out]; have HX2 := Lib.hid (HX.out.older hb2); have HB2 := Lib.hid (HB.out.trans (hb2.mono HB.out.size)); obtain ⟨⟨c0, c1, c2⟩, _, hz⟩ := HX2.out.facts; clear hb2)
  go_region
  all_goals
    go_wp2
    go_ret2
    exact ⟨ret_str2 (by rw [HF.out, HD.out]; simp), by repeat (first | exact HB2.out | (refine Below.drew ?_) | (refine Below.alloc ?_ (by have := HB2.out.size; simp; omega) _) | (refine below_drewN ?_ _))⟩

theorem refFormat_3b (n : Nat) (v : Bs) (w : World) (hl : v.length ≤ 134217728) (hn : n < 16) (hs : 10 ≤ n) (hc : checkN ⟨3, n, v⟩ = 0) :
    Calls Tryz.prog 14 #[.agg #[.int .i64 3, .int .i64 n, .string ⟨v.toArray⟩]] w fun e w' => e = .returned (.tuple #[.string ⟨(fmtT ⟨3, n, v⟩).toArray⟩, .bool true]) ∧ Below w.heap.size w w' := by
  have HC := Lib.hid hc
  have HF := Lib.hid (show fmtT ⟨3, n, v⟩ = [116, 97, 103] ++ 32 :: (decOf (n : Int) ++ 32 :: v) from rfl)
  have HD := Lib.hid (decOf_great hs)
  have HX := Lib.hid (box3_new w 23 (.int .i64 3) (.int .i64 n) (.string ⟨v.toArray⟩))
  have HB := Lib.hid ((Below.refl w.heap.size w).alloc (Nat.le_refl _) (.cells #[.int .i64 3, .int .i64 n, .string ⟨v.toArray⟩] 23))
  have hm : (n : Int) % 10 = n - 10 := by omega
  clear hc
  go_enter Tryz.func14, Tryz.ntmps14
  go_wp2_with (go_at_call 23; with_reducible refine (refCheck_any ⟨3, n, v⟩ _ hl).mono ?_; rintro e w2 ⟨rfl, hb2⟩; rw [HC.out]; have HX2 := Lib.hid (HX.out.older hb2); have HB2 := Lib.hid (HB.out.trans (hb2.mono HB.out.size)); obtain ⟨⟨c0, c1, c2⟩, _, hz⟩ := HX2.out.facts; clear hb2)
  go_region
  all_goals
    go_wp2
    go_ret2
    exact ⟨ret_str2 (by rw [HF.out, HD.out]; simp), by repeat (first | exact HB2.out | (refine Below.drew ?_) | (refine Below.alloc ?_ (by have := HB2.out.size; simp; omega) _) | (refine below_drewN ?_ _))⟩

theorem refFormat_ok (p : Pg) (w : World) (hl : p.value.length ≤ 134217728) (hc : checkN p = 0) :
    Calls Tryz.prog 14 #[pgV p] w fun e w' => e = .returned (.tuple #[.string ⟨(fmtT p).toArray⟩, .bool true]) ∧ Below w.heap.size w w' := by
  obtain ⟨hk, ht, _⟩ := checkN_ok hc
  obtain ⟨k, t, v⟩ := p
  simp only at hk ht hl
  obtain ⟨n, rfl⟩ := Int.eq_ofNat_of_zero_le ht.1
  have hn : n < 16 := by omega
  have c : k = 1 ∨ k = 2 ∨ k = 3 := by omega
  by_cases hs : n < 10
  · rcases c with rfl | rfl | rfl
    · exact refFormat_1a n v w hl hn hs hc
    · exact refFormat_2a n v w hl hn hs hc
    · exact refFormat_3a n v w hl hn hs hc
  · rcases c with rfl | rfl | rfl
    · exact refFormat_1b n v w hl hn (by omega) hc
    · exact refFormat_2b n v w hl hn (by omega) hc
    · exact refFormat_3b n v w hl hn (by omega) hc

/-- What the reference's Parse answers. -/
def refParV (r : Option Pg) : Value := match r with
  | some p => .tuple #[pgV p, .bool true]
  | none => .tuple #[.agg #[.int .i64 0, .int .i64 0, .string ⟨#[]⟩], .bool false]
theorem ret_refPar {r r' : Option Pg} (h : r = r') : Ending.returned (refParV r) = Ending.returned (refParV r') := by rw [h]
/-- The purge of a text begins with kind k and tenant t: what is left. -/
theorem no_short {s hd : Bs} {k t : Int} (hh : headT k t = hd) (h : ¬ hd.length < s.length) : ¬ ∃ v, checkN ⟨k, t, v⟩ = 0 ∧ s = headT k t ++ v := by
  rintro ⟨v, hc, rfl⟩
  rw [hh] at h
  cases v with
  | nil => exact checkN_nil k t hc
  | cons a r => simp at h
theorem no_head {s hd : Bs} {k t : Int} (hh : headT k t = hd) (h : ¬ s.take hd.length = hd) : ¬ ∃ v, checkN ⟨k, t, v⟩ = 0 ∧ s = headT k t ++ v := by
  rintro ⟨v, hc, rfl⟩
  rw [hh] at h
  exact h (by simp)
theorem no_check {s hd : Bs} {k t : Int} (hh : headT k t = hd) (h : ¬ checkN ⟨k, t, s.drop hd.length⟩ = 0) : ¬ ∃ v, checkN ⟨k, t, v⟩ = 0 ∧ s = headT k t ++ v := by
  rintro ⟨v, hc, rfl⟩
  rw [hh] at h
  exact h (by simpa using hc)
theorem yes_head {s hd : Bs} {k t : Int} (hh : headT k t = hd) (h : s.take hd.length = hd) : s = headT k t ++ s.drop hd.length := by
  rw [hh]
  conv => lhs; rw [← List.take_append_drop hd.length s, h]

/-- The result's variable is as it was made, and the world below as it was. -/
structure Held3 (w w' : World) : Prop where
  box : Box3 w' w.heap.size 23 (.int .i64 0) (.int .i64 0) (.string ⟨#[]⟩)
  bel : Below w.heap.size w w'
theorem held_keep {w w1 w2 : World} {N : Nat} (hb : Below N w1 w2) (s : Held3 w w1) (hN : N = w1.heap.size := by rfl) : Held3 w w2 := by
  subst hN
  exact ⟨s.box.older hb, s.bel.trans (hb.mono s.bel.size)⟩
theorem held_drew {w w1 : World} (s : Held3 w w1) : Held3 w w1.drew := ⟨s.box, s.bel.drew⟩

theorem prefParse_any (s : Bs) (w : World) (hl : s.length ≤ 134217728) :
    Calls Tryz.prog 17 #[.string ⟨s.toArray⟩] w fun e w' => e = .returned (refParV (parseO s)) ∧ Below w.heap.size w w' := by
  have HX := Lib.hid (box3_new w 23 (.int .i64 0) (.int .i64 0) (.string ⟨#[]⟩))
  have HB := Lib.hid ((Below.refl w.heap.size w).alloc (Nat.le_refl _) (.cells #[.int .i64 0, .int .i64 0, .string ⟨#[]⟩] 23))
  go_enter Tryz.func17, Tryz.ntmps17
  go_wp2
  go_loopw [4] (fun c4 wr => ∃ k : Int, 1 ≤ k ∧ k ≤ 4 ∧ c4 = .int .i64 k ∧ Hid (NoneBefore s k 0) ∧ Hid (Box3 wr w.heap.size 23 (.int .i64 0) (.int .i64 0) (.string ⟨#[]⟩)) ∧ Hid (Below w.heap.size w wr)) (fun c4 _ => (4 - intOf c4).toNat)
  case atStart => exact ⟨1, by omega, by omega, rfl, noneBefore_start s, HX.out, HB.out⟩
  case round =>
    obtain ⟨k, hk1, hk4, rfl, HN, HX1, HB1⟩ := hrel
    by_cases hk : k ≤ 3
    · go_wp2
      clear HX HB
      obtain ⟨wo, rfl⟩ : ∃ wo : World, wo = wr := ⟨_, rfl⟩
      go_loopw [5] (fun c5 wr => ∃ t : Int, 0 ≤ t ∧ t ≤ 16 ∧ c5 = .int .i64 t ∧ Hid (NoneBefore s k t) ∧ Hid (Box3 wr w.heap.size 23 (.int .i64 0) (.int .i64 0) (.string ⟨#[]⟩)) ∧ Hid (Below w.heap.size w wr)) (fun c5 _ => (16 - intOf c5).toNat)
      case atStart => exact ⟨0, by omega, by omega, rfl, HN, HX1, HB1⟩
      case round =>
        clear HX1 HB1 HN
        obtain ⟨t, ht0, ht16, rfl, HN, HX1, HB1⟩ := hrel
        by_cases ht : t < 16
        · obtain ⟨hd, hdh⟩ : ∃ hd, headT k t = hd := ⟨_, rfl⟩
          obtain ⟨sm, hsm⟩ : ∃ sm, smp k = sm := ⟨_, rfl⟩
          have hdl : hd.length ≤ 10 := by rw [← hdh]; exact headT_len k t
          have sml : sm.length ≤ 2 := by rw [← hsm]; unfold smp; split <;> simp
          have HSM := Lib.hid hsm
          have HCS := Lib.hid (show checkN ⟨k, t, sm⟩ = 0 by rw [← hsm]; exact checkN_smp ⟨hk1, hk⟩ ⟨ht0, ht⟩)
          have HFS := Lib.hid (show fmtT ⟨k, t, sm⟩ = hd ++ sm by rw [← hdh, ← hsm]; exact headT_smp k t)
          have HH := Lib.hid hdh
          clear hsm hdh
          have hw1 : IntKind.i64.wrap ((hd.length : Int) + (sm.length : Int) - (sm.length : Int)) = (hd.length : Int) := by rw [show (hd.length : Int) + (sm.length : Int) - (sm.length : Int) = (hd.length : Int) by omega]; exact IntWalk.i64_in _ (by omega)
          go_wp2_with (first | (go_at_call 31; with_reducible refine (sample_any k _).mono ?_; rintro e w2 ⟨rfl, rfl⟩; rw [HSM.out]) | (go_at_call 14; with_reducible refine (refFormat_ok ⟨k, t, sm⟩ _ (by show sm.length ≤ _; omega) HCS.out).mono ?_; rintro e w2 ⟨rfl, hb2⟩; rw [HFS.out]; have HX2 := Lib.hid (HX1.out.older hb2); have HB2 := Lib.hid (HB1.out.trans (hb2.mono HB1.out.size)); clear hb2))
          by_cases h1 : hd.length < s.length
          · have g1 : decide (hd.length < s.length) = true := decide_eq_true h1
            have HTK := Lib.hid (show List.take (s.length - hd.length) (s.drop hd.length) = s.drop hd.length from List.take_of_length_le (by simp))
            by_cases h2 : s.take hd.length = hd
            · have g2 : (s.take hd.length == hd) = true := beq_iff_eq.2 h2
              have HY := Lib.hid (yes_head HH.out h2)
              have i1 : (0 : Int) ≤ (hd.length : Int) := by omega
              have i2 : (hd.length : Int) ≤ (s.length : Int) := by omega
              have i3 : (hd.length : Int) ≤ (hd.length : Int) + (sm.length : Int) := by omega
              have i5 : hd.length ≤ hd.length + sm.length := by omega
              have i4 : hd.length ≤ s.length := by omega
              clear h2
              obtain ⟨cn, hcn⟩ : ∃ cn, checkN ⟨k, t, s.drop hd.length⟩ = cn := ⟨_, rfl⟩
              have HCN := Lib.hid hcn
              by_cases h3 : cn = 0
              · have HF := Lib.hid (found (h3 ▸ hcn) HY.out)
                clear hcn
                subst h3
                clear HN HX1 HB1
                have hT2 : Held3 w _ := ⟨HX2.out, HB2.out⟩
                clear HX2 HB2
                go_region_held3 (fun w' => Held3 w w') ((repeat (first | assumption | (with_reducible refine held_drew ?_) | (with_reducible refine held_keep hb9 ?_))))
                  ((go_at_call 23; rw [HTK.out]; with_reducible refine (refCheck_any ⟨k, t, s.drop hd.length⟩ _ (by simp; omega)).mono ?_; rintro e w9 ⟨rfl, hb9⟩; rw [HCN.out]))
                all_goals
                  have hT : Held3 w w9 := by (repeat (first | assumption | (with_reducible refine held_drew ?_) | (with_reducible refine held_keep hb9 ?_)))
                  obtain ⟨⟨c0, c1, c2⟩, ⟨f0, f1, f2⟩, hz⟩ := hT.box.facts
                  go_wp2
                  exact bodyPost_ret (v := refParV (some ⟨k, t, s.drop hd.length⟩)) (by simp [results, Tryz.results17, go_sem, refParV, c0, c1, c2, HTK.out]) rfl ⟨ret_refPar HF.out.symm, below_set3 hT.bel (Nat.le_refl _) _ _ _⟩
              · have HF := Lib.hid (noneBefore_next HN.out (no_check HH.out (fun e => h3 (hcn.symm.trans e))))
                have g3 : (cn == 0) = false := beq_eq_false_iff_ne.2 h3
                clear hcn h3 HN HX1 HB1
                have hT2 : Held3 w _ := ⟨HX2.out, HB2.out⟩
                clear HX2 HB2
                go_region_held3 (fun w' => Held3 w w') ((repeat (first | assumption | (with_reducible refine held_drew ?_) | (with_reducible refine held_keep hb9 ?_))))
                  ((go_at_call 23; rw [HTK.out]; with_reducible refine (refCheck_any ⟨k, t, s.drop hd.length⟩ _ (by simp; omega)).mono ?_; rintro e w9 ⟨rfl, hb9⟩; rw [HCN.out]))
                all_goals
                  go_wp2
                  go_roundw
                  case rel => exact ⟨t + 1, by omega, by omega, by go_num, HF, (show Held3 w w9 from by (repeat (first | assumption | (with_reducible refine held_drew ?_) | (with_reducible refine held_keep hb9 ?_)))).box, (show Held3 w w9 from by (repeat (first | assumption | (with_reducible refine held_drew ?_) | (with_reducible refine held_keep hb9 ?_)))).bel⟩
                  case measure => simp [intOf]; omega
            · have g2 : (s.take hd.length == hd) = false := beq_eq_false_iff_ne.2 h2
              have HF := Lib.hid (noneBefore_next HN.out (no_head HH.out h2))
              clear h2
              go_quiet (fail)
              go_wp2
              go_roundw
              case rel => exact ⟨t + 1, by omega, by omega, by go_num, HF, HX2.out, below_drewN HB2.out _⟩
              case measure => simp [intOf]; omega
          · have g1 : decide (hd.length < s.length) = false := decide_eq_false h1
            have HF := Lib.hid (noneBefore_next HN.out (no_short HH.out h1))
            clear h1
            go_quiet (fail)
            go_wp2
            go_roundw
            case rel => exact ⟨t + 1, by omega, by omega, by go_num, HF, HX2.out, below_drewN HB2.out _⟩
            case measure => simp [intOf]; omega
        · have h16 : t = 16 := by omega
          have HN2 := Lib.hid (noneBefore_kind (h16 ▸ HN.out))
          clear h16
          go_wp2
          go_roundw
          case rel => exact ⟨k + 1, by omega, by omega, by go_num, HN2, HX1, HB1⟩
          case measure => simp [intOf]; omega
    · have h4 : k = 4 := by omega
      have HN2 := Lib.hid (noneBefore_end (h4 ▸ HN.out))
      obtain ⟨⟨c0, c1, c2⟩, ⟨f0, f1, f2⟩, hz⟩ := HX1.out.facts
      clear h4
      go_wp2
      exact bodyPost_ret (v := refParV none) (by simp [results, Tryz.results17, go_sem, refParV, c0, c1, c2]) rfl ⟨ret_refPar HN2.out.symm, below_set3 HB1.out (Nat.le_refl _) _ _ _⟩
end A1
end Go.Proofs.YtbnjajpencahfaaGreatDoor
