/- Contracts and plain facts that the statement's proof leans on (texts joined). No condition beyond those that each names. -/
import Derived.Deep.LoopGhost
import Derived.Lib.SliceRun
import Derived.Carry
import Derived.WalkLawsBesides
import Derived.StillTailTactics
import Derived.Test.YtpmhkkjecapbeaaGreatDoorPkB
import Derived.Test.YtpmhkkjecapbeaaGreatDoorPkD
import Derived.Test.YtpmhkkjecapbeaaGreatDoorPkE
import Derived.Test.YtpmhkkjecapbeaaGreatDoorPkF
import Derived.Test.YtpmhkkjecapbeaaGreatDoorPkG
import Derived.Test.YtpmhkkjecapbeaaGreatDoorPkH
section
namespace Go.Proofs.YtpmhkkjecapbeaaGreatDoor
open Go.RowKit Pl Ad Go.Shelf
attribute [local go_sem] ba_get ba_append ba_extract_end ba_extract_zero ba_extract conv_one
set_option maxRecDepth 100000
set_option maxHeartbeats 4000000
set_option linter.unusedVariables false
set_option linter.unusedSimpArgs false
namespace Sg
open Kr A1
theorem num_next {s : Bs} {k : Nat} (hk : k < s.length) : Ad.valOf (s.take (k + 1)) = 10 * Ad.valOf (s.take k) + (s[k].toNat - 48) := by
  rw [take_snoc hk, valOf_snoc]
theorem dig_next {s : Bs} {k : Nat} (hk : k < s.length) (h : (s.take k).all isDig = true) (h1 : 48 ≤ (s[k].toNat : Int)) (h2 : (s[k].toNat : Int) ≤ 57) : (s.take (k + 1)).all isDig = true := by
  rw [take_snoc hk, List.all_append, h]
  have a1 : 48 ≤ s[k].toNat := by omega
  have a2 : s[k].toNat ≤ 57 := by omega
  simp [isDig, a1, a2]
theorem numOk_bad {s : Bs} {k : Nat} (hk : k < s.length) (h : (s[k].toNat : Int) < 48 ∨ 57 < (s[k].toNat : Int) ∨ 12 < k) : numOk s = false := by
  unfold numOk
  rcases h with h | h | h
  · rw [show s.all isDig = false from Bool.eq_false_iff.2 fun e => by
      have := List.all_eq_true.1 e _ (List.getElem_mem hk)
      simp only [isDig, Bool.and_eq_true, decide_eq_true_eq] at this; omega]; rfl
  · rw [show s.all isDig = false from Bool.eq_false_iff.2 fun e => by
      have := List.all_eq_true.1 e _ (List.getElem_mem hk)
      simp only [isDig, Bool.and_eq_true, decide_eq_true_eq] at this; omega]; rfl
  · rw [decide_eq_false (by omega), Bool.and_false]
theorem num_no {s : Bs} (h : numOk s = false) : numN s = 0 ∧ numB s = false := by
  unfold numN numB
  rw [h]
  exact ⟨rfl, rfl⟩
theorem number_any (s : Bs) (w : World) (hs : s.length ≤ 134217728) :
    Calls Tryz.prog 86 #[.string ⟨s.toArray⟩] w fun e w' => e = .returned (.tuple #[.int .i64 (numN s : Int), .bool (numB s)]) ∧ Below w.heap.size w w' := by
  go_enter Tryz.func86, Tryz.ntmps86
  go_wp2
  go_loopg [8, 4] s.length (fun gq iv nv wr => ∃ k n : Nat, wr = w ∧ k ≤ s.length ∧ iv = .int .i64 k ∧ nv = .int .i64 n ∧ Hid (s.length ≤ gq + k) ∧ k ≤ 13 ∧ Hid (Ad.valOf (s.take k) = n) ∧ Hid ((s.take k).all isDig = true) ∧ n < 10000000000000 ∧ Hid (n < 10 ^ k))
  case atStart => exact ⟨0, 0, rfl, Nat.zero_le _, rfl, rfl, Lib.hid (by omega), by omega, Lib.hid rfl, Lib.hid rfl, by omega, Lib.hid (by decide)⟩
  case round =>
    obtain ⟨k, n, rfl, hk, rfl, rfl, HQ, hk13, HV, HA, hn, HP⟩ := hrel
    by_cases hlt : k < s.length
    · have hb := byte_lt s[k]
      by_cases hd : (48 ≤ (s[k].toNat : Int) ∧ (s[k].toNat : Int) ≤ 57) ∧ k ≤ 12
      · obtain ⟨⟨hd1, hd2⟩, hd3⟩ := hd
        have HV2 := Lib.hid (show Ad.valOf (s.take (k + 1)) = 10 * n + (s[k].toNat - 48) by rw [num_next hlt, HV.out])
        have HA2 := Lib.hid (dig_next hlt HA.out hd1 hd2)
        have HP2 := Lib.hid (show 10 * n + (s[k].toNat - 48) < 10 ^ (k + 1) by have := HP.out; rw [Nat.pow_succ]; omega)
        have HP3 := Lib.hid (show n < 1000000000000 from Nat.lt_of_lt_of_le HP.out (Nat.pow_le_pow_right (by omega) hd3))
        have hn12 : n < 1000000000000 := HP3.out
        go_wp2
        go_roundg (gk - 1)
        case rel => exact ⟨k + 1, 10 * n + (s[k].toNat - 48), rfl, by omega, by go_num, by go_num, Lib.hid (by have := HQ.out; omega), by omega, HV2, HA2, by have := hd2; omega, HP2⟩
        case measure => have := HQ.out; omega
      · have HN := Lib.hid (num_no (numOk_bad hlt (show (s[k].toNat : Int) < 48 ∨ 57 < (s[k].toNat : Int) ∨ 12 < k by omega)))
        by_cases h1 : 48 ≤ (s[k].toNat : Int)
        · by_cases h2 : (s[k].toNat : Int) ≤ 57
          · have h3 : (12 : Int) < (k : Int) := by omega
            clear hd
            go_wp2
            go_ret2
            exact ⟨by rw [HN.out.1, HN.out.2]; rfl, Below.refl _ _⟩
          · clear hd
            go_wp2
            go_ret2
            exact ⟨by rw [HN.out.1, HN.out.2]; rfl, Below.refl _ _⟩
        · clear hd
          go_wp2
          go_ret2
          exact ⟨by rw [HN.out.1, HN.out.2]; rfl, Below.refl _ _⟩
    · obtain rfl : k = s.length := by omega
      have HV9 := Lib.hid (show Ad.valOf s = n by rw [← HV.out, List.take_length])
      have HOK := Lib.hid (show numOk s = true by unfold numOk; have := HA.out; rw [List.take_length] at this; rw [this, decide_eq_true hk13]; rfl)
      have HNN := Lib.hid (show numN s = n by unfold numN; rw [if_pos HOK.out, HV9.out])
      by_cases he : s = []
      · subst he
        go_wp2
        go_ret2
        exact ⟨by rw [HNN.out]; rfl, Below.refl _ _⟩
      · have hq2 : s.isEmpty = false := by simpa using he
        have hq3 : (s == []) = false := by simpa using he
        obtain ⟨dd, hdd⟩ : ∃ dd, Lib.decDigits n = dd := ⟨_, rfl⟩
        have HDD := Lib.hid hdd
        have HBB := Lib.hid (show numB s = (s == dd) by unfold numB; rw [HOK.out, hq2, HV9.out, hdd]; rfl)
        clear hdd he
        go_wp2_with (go_at_call 114; refine (text09_any n _ (by omega)).mono ?_; rw [HDD.out]; rintro e w2 ⟨rfl, hb2⟩)
        go_ret2
        exact ⟨by rw [HNN.out, HBB.out]; rfl, hb2⟩
/-- The reference's parts: does a name stand there. -/
def resB (a : Adr) : Bool := a.has && !plainQ a.query
def hasN (q : Bs) (b : Bool) (n : Bs) : Bool := (argL q n b).isSome
theorem res_of (q : Bs) (b : Bool) : (b && !plainQ q) = (hasN q b [113, 107] || hasN q b [113, 102] || hasN q b [113, 117] || hasN q b [113, 115]) := by
  cases b
  · simp [hasN, argL_off]
  · rw [Bool.true_and, ← arg_tok]; rfl
/-- Within reserved. -/
structure RsS (w0 w : World) (h p q : Bs) (b : Bool) : Prop where
  bel : Below w0.heap.size w0 w
  ab : Bx w w0.heap.size 62 #[.string ⟨h.toArray⟩, .string ⟨p.toArray⟩, .string ⟨q.toArray⟩, .bool b]
  nb : Bx w (w0.heap.size + 1) 9 #[.string ⟨#[113, 107]⟩, .string ⟨#[113, 102]⟩, .string ⟨#[113, 117]⟩, .string ⟨#[113, 115]⟩]
theorem RsS.older {w0 w w' : World} {h p q : Bs} {b : Bool} (hm : RsS w0 w h p q b) (hb : Below w.heap.size w w') : RsS w0 w' h p q b :=
  ⟨hm.bel.trans (hb.mono hm.bel.size), hm.ab.older hb, hm.nb.older hb⟩
theorem reserved_any (a : Adr) (w : World) (hq : a.query.length ≤ 134217728) :
    Calls Tryz.prog 78 #[adV a] w fun e w' => e = .returned (.bool (resB a)) ∧ Below w.heap.size w w' := by
  obtain ⟨h, p, q, b⟩ := a
  simp only at hq
  have HRES := Lib.hid (show resB ⟨h, p, q, b⟩ = (hasN q b [113, 107] || hasN q b [113, 102] || hasN q b [113, 117] || hasN q b [113, 115]) from res_of q b)
  have HS0 := Lib.hid (show RsS w ((w.alloc (.cells #[.string ⟨h.toArray⟩, .string ⟨p.toArray⟩, .string ⟨q.toArray⟩, .bool b] 62)).alloc (.cells #[.string ⟨#[113, 107]⟩, .string ⟨#[113, 102]⟩, .string ⟨#[113, 117]⟩, .string ⟨#[113, 115]⟩] 9)) h p q b from
    ⟨((Below.refl _ _).alloc (Nat.le_refl _) _).alloc (by simp) _, (Bx.new w _ _).older ((Below.refl _ _).alloc (Nat.le_refl _) _),
     by have h9 := Bx.new (w.alloc (.cells #[.string ⟨h.toArray⟩, .string ⟨p.toArray⟩, .string ⟨q.toArray⟩, .bool b] 62)) 9 #[.string ⟨#[113, 107]⟩, .string ⟨#[113, 102]⟩, .string ⟨#[113, 117]⟩, .string ⟨#[113, 115]⟩]; rw [show (w.alloc (.cells #[.string ⟨h.toArray⟩, .string ⟨p.toArray⟩, .string ⟨q.toArray⟩, .bool b] 62)).heap.size = w.heap.size + 1 by simp] at h9; exact h9⟩)
  go_enter Tryz.func78, Tryz.ntmps78
  go_wp2_with fail
  go_loopg [9] 4 (fun gq iv wr => ∃ (k : Nat) (i : Int), i = k ∧ k ≤ 4 ∧ Hid (4 ≤ gq + k) ∧ iv = .int .i64 i ∧ Hid ((1 ≤ k → hasN q b [113, 107] = false) ∧ (2 ≤ k → hasN q b [113, 102] = false) ∧ (3 ≤ k → hasN q b [113, 117] = false) ∧ (4 ≤ k → hasN q b [113, 115] = false)) ∧ RsS w wr h p q b)
  case atStart => exact ⟨0, 0, rfl, Nat.zero_le _, Lib.hid (by omega), rfl, Lib.hid ⟨fun h => absurd h (by omega), fun h => absurd h (by omega), fun h => absurd h (by omega), fun h => absurd h (by omega)⟩, HS0.out⟩
  case round =>
    obtain ⟨k, i, hki, hk4, HQ, rfl, HB, hm⟩ := hrel
    clear HS0
    have HM := Lib.hid hm
    have a0 := hm.ab.cell (i := 0) rfl
    have a1 := hm.ab.cell (i := 1) rfl
    have a2 := hm.ab.cell (i := 2) rfl
    have a3 := hm.ab.cell (i := 3) rfl
    have n0 := hm.nb.cell (i := 0) rfl
    have n1 := hm.nb.cell (i := 1) rfl
    have n2 := hm.nb.cell (i := 2) rfl
    have n3 := hm.nb.cell (i := 3) rfl
    have hz := hm.nb.lt
    clear hm
    rcases (show (k = 0 ∧ i = 0) ∨ (k = 1 ∧ i = 1) ∨ (k = 2 ∧ i = 2) ∨ (k = 3 ∧ i = 3) ∨ (k = 4 ∧ i = 4) by omega) with ⟨rfl, rfl⟩ | ⟨rfl, rfl⟩ | ⟨rfl, rfl⟩ | ⟨rfl, rfl⟩ | ⟨rfl, rfl⟩
    · clear hk4 hki
      cases hf : hasN q b [113, 107] with
      | true =>
        obtain ⟨v, hv⟩ := Option.isSome_iff_exists.1 hf
        have HV := Lib.hid (show argV (argL q [113, 107] b) = .tuple #[.string ⟨v.toArray⟩, .bool true] by rw [hv]; rfl)
        have HR := Lib.hid (show resB ⟨h, p, q, b⟩ = true by rw [HRES.out, hf]; simp)
        clear hf hv
        go_wp2_with (go_at_call 113; refine (refArg_any h p q [113, 107] b _ (by omega) (by decide)).mono ?_; rw [HV.out]; rintro e w2 ⟨rfl, hb2⟩; have HM2 := Lib.hid (HM.out.older hb2); clear hb2)
        go_ret
        exact ⟨ret_bool HR.out.symm, HM2.out.bel⟩
      | false =>
        have HV := Lib.hid (show argV (argL q [113, 107] b) = .tuple #[.string ⟨#[]⟩, .bool false] by rw [show argL q [113, 107] b = none from Option.isNone_iff_eq_none.1 (by unfold hasN at hf; simpa using hf)]; rfl)
        have HF := Lib.hid hf
        clear hf
        go_wp2_with (go_at_call 113; refine (refArg_any h p q [113, 107] b _ (by omega) (by decide)).mono ?_; rw [HV.out]; rintro e w2 ⟨rfl, hb2⟩; have HM2 := Lib.hid (HM.out.older hb2); clear hb2)
        go_roundg (gk - 1)
        case rel => exact ⟨1, 1, rfl, by omega, Lib.hid (by have := HQ.out; omega), by go_num, Lib.hid ⟨fun _ => HF.out, fun h => absurd h (by omega), fun h => absurd h (by omega), fun h => absurd h (by omega)⟩, HM2.out⟩
        case measure => have := HQ.out; omega
    · clear hk4 hki
      cases hf : hasN q b [113, 102] with
      | true =>
        obtain ⟨v, hv⟩ := Option.isSome_iff_exists.1 hf
        have HV := Lib.hid (show argV (argL q [113, 102] b) = .tuple #[.string ⟨v.toArray⟩, .bool true] by rw [hv]; rfl)
        have HR := Lib.hid (show resB ⟨h, p, q, b⟩ = true by rw [HRES.out, hf]; simp)
        clear hf hv
        go_wp2_with (go_at_call 113; refine (refArg_any h p q [113, 102] b _ (by omega) (by decide)).mono ?_; rw [HV.out]; rintro e w2 ⟨rfl, hb2⟩; have HM2 := Lib.hid (HM.out.older hb2); clear hb2)
        go_ret
        exact ⟨ret_bool HR.out.symm, HM2.out.bel⟩
      | false =>
        have HV := Lib.hid (show argV (argL q [113, 102] b) = .tuple #[.string ⟨#[]⟩, .bool false] by rw [show argL q [113, 102] b = none from Option.isNone_iff_eq_none.1 (by unfold hasN at hf; simpa using hf)]; rfl)
        have HF := Lib.hid hf
        clear hf
        go_wp2_with (go_at_call 113; refine (refArg_any h p q [113, 102] b _ (by omega) (by decide)).mono ?_; rw [HV.out]; rintro e w2 ⟨rfl, hb2⟩; have HM2 := Lib.hid (HM.out.older hb2); clear hb2)
        go_roundg (gk - 1)
        case rel => exact ⟨2, 2, rfl, by omega, Lib.hid (by have := HQ.out; omega), by go_num, Lib.hid ⟨fun _ => HB.out.1 (by omega), fun _ => HF.out, fun h => absurd h (by omega), fun h => absurd h (by omega)⟩, HM2.out⟩
        case measure => have := HQ.out; omega
    · clear hk4 hki
      cases hf : hasN q b [113, 117] with
      | true =>
        obtain ⟨v, hv⟩ := Option.isSome_iff_exists.1 hf
        have HV := Lib.hid (show argV (argL q [113, 117] b) = .tuple #[.string ⟨v.toArray⟩, .bool true] by rw [hv]; rfl)
        have HR := Lib.hid (show resB ⟨h, p, q, b⟩ = true by rw [HRES.out, hf]; simp)
        clear hf hv
        go_wp2_with (go_at_call 113; refine (refArg_any h p q [113, 117] b _ (by omega) (by decide)).mono ?_; rw [HV.out]; rintro e w2 ⟨rfl, hb2⟩; have HM2 := Lib.hid (HM.out.older hb2); clear hb2)
        go_ret
        exact ⟨ret_bool HR.out.symm, HM2.out.bel⟩
      | false =>
        have HV := Lib.hid (show argV (argL q [113, 117] b) = .tuple #[.string ⟨#[]⟩, .bool false] by rw [show argL q [113, 117] b = none from Option.isNone_iff_eq_none.1 (by unfold hasN at hf; simpa using hf)]; rfl)
        have HF := Lib.hid hf
        clear hf
        go_wp2_with (go_at_call 113; refine (refArg_any h p q [113, 117] b _ (by omega) (by decide)).mono ?_; rw [HV.out]; rintro e w2 ⟨rfl, hb2⟩; have HM2 := Lib.hid (HM.out.older hb2); clear hb2)
        go_roundg (gk - 1)
        case rel => exact ⟨3, 3, rfl, by omega, Lib.hid (by have := HQ.out; omega), by go_num, Lib.hid ⟨fun _ => HB.out.1 (by omega), fun _ => HB.out.2.1 (by omega), fun _ => HF.out, fun h => absurd h (by omega)⟩, HM2.out⟩
        case measure => have := HQ.out; omega
    · clear hk4 hki
      cases hf : hasN q b [113, 115] with
      | true =>
        obtain ⟨v, hv⟩ := Option.isSome_iff_exists.1 hf
        have HV := Lib.hid (show argV (argL q [113, 115] b) = .tuple #[.string ⟨v.toArray⟩, .bool true] by rw [hv]; rfl)
        have HR := Lib.hid (show resB ⟨h, p, q, b⟩ = true by rw [HRES.out, hf]; simp)
        clear hf hv
        go_wp2_with (go_at_call 113; refine (refArg_any h p q [113, 115] b _ (by omega) (by decide)).mono ?_; rw [HV.out]; rintro e w2 ⟨rfl, hb2⟩; have HM2 := Lib.hid (HM.out.older hb2); clear hb2)
        go_ret
        exact ⟨ret_bool HR.out.symm, HM2.out.bel⟩
      | false =>
        have HV := Lib.hid (show argV (argL q [113, 115] b) = .tuple #[.string ⟨#[]⟩, .bool false] by rw [show argL q [113, 115] b = none from Option.isNone_iff_eq_none.1 (by unfold hasN at hf; simpa using hf)]; rfl)
        have HF := Lib.hid hf
        clear hf
        go_wp2_with (go_at_call 113; refine (refArg_any h p q [113, 115] b _ (by omega) (by decide)).mono ?_; rw [HV.out]; rintro e w2 ⟨rfl, hb2⟩; have HM2 := Lib.hid (HM.out.older hb2); clear hb2)
        go_roundg (gk - 1)
        case rel => exact ⟨4, 4, rfl, by omega, Lib.hid (by have := HQ.out; omega), by go_num, Lib.hid ⟨fun _ => HB.out.1 (by omega), fun _ => HB.out.2.1 (by omega), fun _ => HB.out.2.2.1 (by omega), fun _ => HF.out⟩, HM2.out⟩
        case measure => have := HQ.out; omega
    · clear hk4 hki
      have HR := Lib.hid (show resB ⟨h, p, q, b⟩ = false by rw [HRES.out, HB.out.1 (by omega), HB.out.2.1 (by omega), HB.out.2.2.1 (by omega), HB.out.2.2.2 (by omega)]; rfl)
      go_wp2_with fail
      go_ret
      exact ⟨ret_bool HR.out.symm, HM.out.bel⟩
def begs (p x : Bs) : Bool := Lib.hasPrefix x p
theorem isTok_of (x : Bs) : isTok x = (begs [113, 107, 61] x || begs [113, 102, 61] x || begs [113, 117, 61] x || begs [113, 115, 61] x) := rfl
theorem plainQ_next {xs : List Bs} {k : Nat} (hk : k < xs.length) (h : ((xs.take k).all fun x => !isTok x) = true) (h2 : isTok xs[k] = false) : ((xs.take (k + 1)).all fun x => !isTok x) = true := by
  rw [take_snoc hk, List.all_append, h]; simp [h2]
theorem plainQ_bad {xs : List Bs} {k : Nat} (hk : k < xs.length) (h2 : isTok xs[k] = true) : (xs.all fun x => !isTok x) = false :=
  Bool.eq_false_iff.2 fun e => by
    have := List.all_eq_true.1 e _ (List.getElem_mem hk)
    simp [h2] at this
/-- Within plain: the address' cells and the query's parts. -/
structure PlS (w0 w : World) (bb : Nat) (xs : List Bs) : Prop where
  bel : Below w0.heap.size w0 w
  lt : bb < w.heap.size
  cells : CellsAt w bb 0 xs
theorem PlS.older {w0 w w' : World} {bb : Nat} {xs : List Bs} (h : PlS w0 w bb xs) (hb : Below w.heap.size w w') : PlS w0 w' bb xs :=
  ⟨h.bel.trans (hb.mono h.bel.size), Nat.lt_of_lt_of_le h.lt hb.size, h.cells.below hb h.lt⟩
def pfx : Array Value := #[.string ⟨#[113, 107, 61]⟩, .string ⟨#[113, 102, 61]⟩, .string ⟨#[113, 117, 61]⟩, .string ⟨#[113, 115, 61]⟩]
theorem prefixes_any (w : World) : Calls Tryz.prog 68 #[] w fun e w' => e = .returned (.slice (some ⟨w.heap.size, 0, none⟩) 4 4) ∧ Bx w' w.heap.size 9 pfx ∧ Below w.heap.size w w' := by
  go_enter Tryz.func68, Tryz.ntmps68
  go_wp2
  go_ret
  exact ⟨rfl, Bx.new w _ _, (Below.refl _ _).alloc (Nat.le_refl _) _⟩
theorem plain_any (a : Adr) (w : World) (hr : Ready w) (hq : a.query.length ≤ 134217728) :
    Calls Tryz.prog 103 #[adV a] w fun e w' => e = .returned (.bool (plainQ a.query)) ∧ Below w.heap.size w w' := by
  obtain ⟨h, p, q, b⟩ := a
  simp only at hq
  have HBZ := Lib.hid ((Below.refl w.heap.size w).alloc (Nat.le_refl _) (.cells #[.string ⟨h.toArray⟩, .string ⟨p.toArray⟩, .string ⟨q.toArray⟩, .bool b] 27))
  have HRD := Lib.hid (hr.below HBZ.out)
  have HLN := Lib.hid (splitOn_count 38 q)
  have HPQ := Lib.hid (show plainQ q = (splitOn 38 q).all fun x => !isTok x from rfl)
  clear hr
  go_enter Tryz.func103, Tryz.ntmps103
  go_wp2_with fail
  refine (split_any q 38 _ (by omega) HRD.out).mono ?_
  rintro e w1 ⟨bb, c, rfl, hcap, hwb, hbw, hcells, hb1⟩
  generalize hxs : splitOn 38 q = xs at hcells hcap
  have HS0 := Lib.hid (show PlS w w1 bb xs from ⟨HBZ.out.trans (hb1.mono (by simp)), hbw, hcells⟩)
  have HXS := Lib.hid hxs
  clear hb1 hxs hcells hwb hbw HBZ
  have hln : xs.length ≤ q.length + 1 := by rw [← HXS.out]; exact HLN.out
  go_wp2_with fail
  go_loopg [11] xs.length (fun gq iv wr => ∃ k : Nat, k ≤ xs.length ∧ Hid (xs.length ≤ gq + k) ∧ iv = .int .i64 k ∧ Hid (((xs.take k).all fun x => !isTok x) = true) ∧ PlS w wr bb xs)
  case atStart => exact ⟨0, Nat.zero_le _, Lib.hid (by omega), rfl, Lib.hid rfl, HS0.out⟩
  case round =>
    obtain ⟨k, hk, HQ, rfl, HA, hm⟩ := hrel
    clear HS0
    have HM := Lib.hid hm
    by_cases hlt : k < xs.length
    · have hc0 := hm.cells k xs[k] (by simp [hlt])
      rw [Nat.zero_add] at hc0
      have hzb := hm.lt
      have HNX := Lib.hid (fun h => plainQ_next hlt HA.out h)
      have HBD := Lib.hid (fun h => plainQ_bad hlt h)
      generalize hx : xs[k] = x at hc0 HNX HBD
      clear hx hm
      go_wp2_with (go_at_call 68; refine (prefixes_any _).mono ?_; rintro e w2 ⟨rfl, hbx, hb2⟩; have HM2 := Lib.hid (HM.out.older hb2); have HBX := Lib.hid hbx; have n0 := hbx.cell (i := 0) rfl; have n1 := hbx.cell (i := 1) rfl; have n2 := hbx.cell (i := 2) rfl; have n3 := hbx.cell (i := 3) rfl; have hz := hbx.lt; clear hb2 hbx hc0)
      obtain ⟨gA, hgA⟩ : ∃ g, g = gk := ⟨gk, rfl⟩
      go_loopg [17] 4 (fun gp iv wq => ∃ (j : Nat) (i : Int), wq = w2 ∧ i = j ∧ j ≤ 4 ∧ Hid (4 ≤ gp + j) ∧ iv = .int .i64 i ∧ Hid ((1 ≤ j → begs [113, 107, 61] x = false) ∧ (2 ≤ j → begs [113, 102, 61] x = false) ∧ (3 ≤ j → begs [113, 117, 61] x = false) ∧ (4 ≤ j → begs [113, 115, 61] x = false)))
      case atStart => exact ⟨0, 0, rfl, rfl, Nat.zero_le _, Lib.hid (by omega), rfl, Lib.hid ⟨fun h => absurd h (by omega), fun h => absurd h (by omega), fun h => absurd h (by omega), fun h => absurd h (by omega)⟩⟩
      case round =>
        obtain ⟨j, i, rfl, hki, hk4, HP, rfl, HB⟩ := hrel
        rcases (show (j = 0 ∧ i = 0) ∨ (j = 1 ∧ i = 1) ∨ (j = 2 ∧ i = 2) ∨ (j = 3 ∧ i = 3) ∨ (j = 4 ∧ i = 4) by omega) with ⟨rfl, rfl⟩ | ⟨rfl, rfl⟩ | ⟨rfl, rfl⟩ | ⟨rfl, rfl⟩ | ⟨rfl, rfl⟩
        · clear hk4 hki
          cases hf : begs [113, 107, 61] x with
          | true =>
            have HV := Lib.hid (show Lib.hasPrefix x [113, 107, 61] = true from hf)
            have HR := Lib.hid (show plainQ q = false by rw [HPQ.out, HXS.out]; exact HBD.out (by rw [isTok_of, hf]; simp))
            clear hf
            go_wp2_with (go_at_call 136; refine (hasPrefix_any x [113, 107, 61] _).mono ?_; rw [HV.out]; rintro e w3 ⟨rfl, rfl⟩)
            go_ret
            exact ⟨ret_bool HR.out.symm, HM2.out.bel⟩
          | false =>
            have HV := Lib.hid (show Lib.hasPrefix x [113, 107, 61] = false from hf)
            have HF := Lib.hid hf
            clear hf
            go_wp2_with (go_at_call 136; refine (hasPrefix_any x [113, 107, 61] _).mono ?_; rw [HV.out]; rintro e w3 ⟨rfl, rfl⟩)
            go_roundg (gk - 1)
            case rel => exact ⟨1, 1, rfl, rfl, by omega, Lib.hid (by have := HP.out; omega), by go_num, Lib.hid ⟨fun _ => HF.out, fun h => absurd h (by omega), fun h => absurd h (by omega), fun h => absurd h (by omega)⟩⟩
            case measure => have := HP.out; omega
        · clear hk4 hki
          cases hf : begs [113, 102, 61] x with
          | true =>
            have HV := Lib.hid (show Lib.hasPrefix x [113, 102, 61] = true from hf)
            have HR := Lib.hid (show plainQ q = false by rw [HPQ.out, HXS.out]; exact HBD.out (by rw [isTok_of, hf]; simp))
            clear hf
            go_wp2_with (go_at_call 136; refine (hasPrefix_any x [113, 102, 61] _).mono ?_; rw [HV.out]; rintro e w3 ⟨rfl, rfl⟩)
            go_ret
            exact ⟨ret_bool HR.out.symm, HM2.out.bel⟩
          | false =>
            have HV := Lib.hid (show Lib.hasPrefix x [113, 102, 61] = false from hf)
            have HF := Lib.hid hf
            clear hf
            go_wp2_with (go_at_call 136; refine (hasPrefix_any x [113, 102, 61] _).mono ?_; rw [HV.out]; rintro e w3 ⟨rfl, rfl⟩)
            go_roundg (gk - 1)
            case rel => exact ⟨2, 2, rfl, rfl, by omega, Lib.hid (by have := HP.out; omega), by go_num, Lib.hid ⟨fun _ => HB.out.1 (by omega), fun _ => HF.out, fun h => absurd h (by omega), fun h => absurd h (by omega)⟩⟩
            case measure => have := HP.out; omega
        · clear hk4 hki
          cases hf : begs [113, 117, 61] x with
          | true =>
            have HV := Lib.hid (show Lib.hasPrefix x [113, 117, 61] = true from hf)
            have HR := Lib.hid (show plainQ q = false by rw [HPQ.out, HXS.out]; exact HBD.out (by rw [isTok_of, hf]; simp))
            clear hf
            go_wp2_with (go_at_call 136; refine (hasPrefix_any x [113, 117, 61] _).mono ?_; rw [HV.out]; rintro e w3 ⟨rfl, rfl⟩)
            go_ret
            exact ⟨ret_bool HR.out.symm, HM2.out.bel⟩
          | false =>
            have HV := Lib.hid (show Lib.hasPrefix x [113, 117, 61] = false from hf)
            have HF := Lib.hid hf
            clear hf
            go_wp2_with (go_at_call 136; refine (hasPrefix_any x [113, 117, 61] _).mono ?_; rw [HV.out]; rintro e w3 ⟨rfl, rfl⟩)
            go_roundg (gk - 1)
            case rel => exact ⟨3, 3, rfl, rfl, by omega, Lib.hid (by have := HP.out; omega), by go_num, Lib.hid ⟨fun _ => HB.out.1 (by omega), fun _ => HB.out.2.1 (by omega), fun _ => HF.out, fun h => absurd h (by omega)⟩⟩
            case measure => have := HP.out; omega
        · clear hk4 hki
          cases hf : begs [113, 115, 61] x with
          | true =>
            have HV := Lib.hid (show Lib.hasPrefix x [113, 115, 61] = true from hf)
            have HR := Lib.hid (show plainQ q = false by rw [HPQ.out, HXS.out]; exact HBD.out (by rw [isTok_of, hf]; simp))
            clear hf
            go_wp2_with (go_at_call 136; refine (hasPrefix_any x [113, 115, 61] _).mono ?_; rw [HV.out]; rintro e w3 ⟨rfl, rfl⟩)
            go_ret
            exact ⟨ret_bool HR.out.symm, HM2.out.bel⟩
          | false =>
            have HV := Lib.hid (show Lib.hasPrefix x [113, 115, 61] = false from hf)
            have HF := Lib.hid hf
            clear hf
            go_wp2_with (go_at_call 136; refine (hasPrefix_any x [113, 115, 61] _).mono ?_; rw [HV.out]; rintro e w3 ⟨rfl, rfl⟩)
            go_roundg (gk - 1)
            case rel => exact ⟨4, 4, rfl, rfl, by omega, Lib.hid (by have := HP.out; omega), by go_num, Lib.hid ⟨fun _ => HB.out.1 (by omega), fun _ => HB.out.2.1 (by omega), fun _ => HB.out.2.2.1 (by omega), fun _ => HF.out⟩⟩
            case measure => have := HP.out; omega
        · clear hk4 hki
          have HT := Lib.hid (show isTok x = false by rw [isTok_of, HB.out.1 (by omega), HB.out.2.1 (by omega), HB.out.2.2.1 (by omega), HB.out.2.2.2 (by omega)]; rfl)
          go_wp2_with fail
          go_roundg (gA - 1)
          case rel => exact ⟨k + 1, by omega, Lib.hid (by have := HQ.out; omega), by go_num, Lib.hid (HNX.out HT.out), HM2.out⟩
          case measure => have := HQ.out; omega
    · have HR := Lib.hid (show plainQ q = true by rw [HPQ.out, HXS.out]; have h9 := HA.out; rw [List.take_of_length_le (by omega)] at h9; exact h9)
      go_wp2_with fail
      go_ret
      exact ⟨ret_bool HR.out.symm, HM.out.bel⟩
end Sg
end Go.Proofs.YtpmhkkjecapbeaaGreatDoor
end

section
namespace Go.Proofs.YtpmhkkjecapbeaaGreatDoor
open Go.RowKit Pl Ad
attribute [local go_sem] ba_get conv_one conv_one_drewN ba_append ba_extract
set_option maxRecDepth 100000
set_option maxHeartbeats 4000000
set_option linter.unusedVariables false
namespace A1
attribute [local go_sem] parseV_ok parseV_err codeOf_ok codeOf_err
theorem valid_any (a : Adr) (w : World) (hr : Ready w) (h1 : a.host.length ≤ 134217728) (h2 : a.path.length ≤ 134217728) (h3 : a.query.length ≤ 134217728) :
    Calls Tryz.prog 66 #[adV a] w fun e w' => e = .returned (.bool (valid a)) ∧ Below w.heap.size w w' := by
  obtain ⟨h, p, q, b⟩ := a
  simp only at h1 h2 h3
  have HBX := Lib.hid (box_new w 27 (.string ⟨h.toArray⟩) (.string ⟨p.toArray⟩) (.string ⟨q.toArray⟩) (.bool b))
  have hbz := (Below.refl w.heap.size w).alloc (Nat.le_refl _) (.cells #[.string ⟨h.toArray⟩, .string ⟨p.toArray⟩, .string ⟨q.toArray⟩, .bool b] 27)
  have HRD := Lib.hid (hr.below hbz)
  have HBZ := Lib.hid hbz
  clear hr hbz
  cases b
  · by_cases hq : q = []
    · subst hq
      cases hp : parse h (p) with
      | error n =>
        have HV := Lib.hid (valid_err ⟨h, p, [], false⟩ n (by simpa [Adr.target] using hp))
        have HP := Lib.hid hp
        clear hp
        go_enter Tryz.func66, Tryz.ntmps66
        go_wp2_with fail
        refine (parse_err _ (by omega) (by first | omega | (simp; omega)) HRD.out HP.out).mono ?_
        rintro e w1 ⟨rfl, hb1⟩
        go_wp2_with fail
        go_ret
        exact ⟨ret_bool HV.out.symm, (HBZ.out.trans (hb1.mono (by simp))).alloc (by have := hb1.size; simp at this; omega) _⟩
      | ok c =>
        have HV := Lib.hid (valid_eq ⟨h, p, [], false⟩ c (.inr rfl) (by simpa [Adr.target] using hp))
        have HP := Lib.hid hp
        clear hp
        obtain ⟨h', p', q', b'⟩ := c
        go_enter Tryz.func66, Tryz.ntmps66
        go_wp2_with fail
        refine (parse_ok _ (by omega) (by first | omega | (simp; omega)) HRD.out HP.out).mono ?_
        rintro e w1 ⟨rfl, hb1⟩
        obtain ⟨⟨c0, c1, c2, c3⟩, _, hsz⟩ := (HBX.out.below hb1 (by simp)).facts
        go_wp2_with fail
        all_goals
          go_ret
          exact ⟨ret_bool (by rw [HV.out]; simp [*]), (HBZ.out.trans (hb1.mono (by simp))).alloc (by have := hb1.size; simp at this; omega) _⟩
    · have HV := Lib.hid (valid_noq ⟨h, p, q, false⟩ rfl hq)
      have hq2 : q.isEmpty = false := by simpa using hq
      have hq3 : (q == []) = false := by simpa using hq
      clear hq
      go_enter Tryz.func66, Tryz.ntmps66
      go_wp2_with fail
      go_ret
      exact ⟨ret_bool HV.out.symm, HBZ.out⟩
  · skip
    cases hp : parse h (p ++ 63 :: q) with
    | error n =>
      have HV := Lib.hid (valid_err ⟨h, p, q, true⟩ n (by simpa [Adr.target] using hp))
      have HP := Lib.hid hp
      clear hp
      go_enter Tryz.func66, Tryz.ntmps66
      go_wp2_with fail
      refine (parse_err _ (by omega) (by first | omega | (simp; omega)) HRD.out HP.out).mono ?_
      rintro e w1 ⟨rfl, hb1⟩
      go_wp2_with fail
      go_ret
      exact ⟨ret_bool HV.out.symm, (HBZ.out.trans (hb1.mono (by simp))).alloc (by have := hb1.size; simp at this; omega) _⟩
    | ok c =>
      have HV := Lib.hid (valid_eq ⟨h, p, q, true⟩ c (.inl rfl) (by simpa [Adr.target] using hp))
      have HP := Lib.hid hp
      clear hp
      obtain ⟨h', p', q', b'⟩ := c
      go_enter Tryz.func66, Tryz.ntmps66
      go_wp2_with fail
      refine (parse_ok _ (by omega) (by first | omega | (simp; omega)) HRD.out HP.out).mono ?_
      rintro e w1 ⟨rfl, hb1⟩
      obtain ⟨⟨c0, c1, c2, c3⟩, _, hsz⟩ := (HBX.out.below hb1 (by simp)).facts
      go_wp2_with fail
      all_goals
        go_ret
        exact ⟨ret_bool (by rw [HV.out]; simp [*]), (HBZ.out.trans (hb1.mono (by simp))).alloc (by have := hb1.size; simp at this; omega) _⟩

theorem refValid_any (a : Adr) (w : World) (h1 : a.host.length ≤ 134217728) (h2 : a.path.length ≤ 134217728) (h3 : a.query.length ≤ 134217728) :
    Calls Tryz.prog 77 #[adV a] w fun e w' => e = .returned (.bool (valid a)) ∧ Below w.heap.size w w' := by
  obtain ⟨h, p, q, b⟩ := a
  simp only at h1 h2 h3
  have HN : Hid (∀ (t : Bs) (n : Int), parse h t = .error n → ¬ n = 0) := fun t n hp => parse_code hp
  have HBX := Lib.hid (box_new w 62 (.string ⟨h.toArray⟩) (.string ⟨p.toArray⟩) (.string ⟨q.toArray⟩) (.bool b))
  have HBZ := Lib.hid ((Below.refl w.heap.size w).alloc (Nat.le_refl _) (.cells #[.string ⟨h.toArray⟩, .string ⟨p.toArray⟩, .string ⟨q.toArray⟩, .bool b] 62))
  cases b
  · by_cases hq : q = []
    · subst hq
      cases hp : parse h (p) with
      | error n =>
        have HV := Lib.hid (valid_err ⟨h, p, [], false⟩ n (by simpa [Adr.target] using hp))
        have HP := Lib.hid hp
        clear hp
        go_enter Tryz.func77, Tryz.ntmps77
        go_wp2_with fail
        refine (refParse_any h (p) _ (by omega) (by first | omega | (simp; omega))).mono ?_
        rintro e w1 ⟨rfl, hb1⟩
        obtain ⟨⟨c0, c1, c2, c3⟩, _, hsz⟩ := (HBX.out.below hb1 (by simp)).facts
        rw [HP.out]
        rw [codeOf_err, parseV_err]
        have hn := HN.out _ n HP.out
        have hn1 : (n == 0) = false := beq_eq_false_iff_ne.2 hn
        clear hn
        go_wp2_with fail
        go_ret
        exact ⟨ret_bool (by rw [HV.out]), (HBZ.out.trans (hb1.mono (by simp))).alloc (by have := hb1.size; simp at this; omega) _⟩
      | ok c =>
        have HV := Lib.hid (valid_eq ⟨h, p, [], false⟩ c (.inr rfl) (by simpa [Adr.target] using hp))
        have HP := Lib.hid hp
        clear hp
        obtain ⟨h', p', q', b'⟩ := c
        go_enter Tryz.func77, Tryz.ntmps77
        go_wp2_with fail
        refine (refParse_any h (p) _ (by omega) (by first | omega | (simp; omega))).mono ?_
        rintro e w1 ⟨rfl, hb1⟩
        obtain ⟨⟨c0, c1, c2, c3⟩, _, hsz⟩ := (HBX.out.below hb1 (by simp)).facts
        rw [HP.out]
        rw [codeOf_ok, parseV_ok]
        go_wp2_with fail
        all_goals
          go_ret
          exact ⟨ret_bool (by rw [HV.out]; simp [*]), (HBZ.out.trans (hb1.mono (by simp))).alloc (by have := hb1.size; simp at this; omega) _⟩
    · have HV := Lib.hid (valid_noq ⟨h, p, q, false⟩ rfl hq)
      have hq2 : q.isEmpty = false := by simpa using hq
      have hq3 : (q == []) = false := by simpa using hq
      clear hq
      go_enter Tryz.func77, Tryz.ntmps77
      go_wp2_with fail
      go_ret
      exact ⟨ret_bool HV.out.symm, HBZ.out⟩
  · skip
    cases hp : parse h (p ++ 63 :: q) with
    | error n =>
      have HV := Lib.hid (valid_err ⟨h, p, q, true⟩ n (by simpa [Adr.target] using hp))
      have HP := Lib.hid hp
      clear hp
      go_enter Tryz.func77, Tryz.ntmps77
      go_wp2_with fail
      refine (refParse_any h (p ++ 63 :: q) _ (by omega) (by first | omega | (simp; omega))).mono ?_
      rintro e w1 ⟨rfl, hb1⟩
      obtain ⟨⟨c0, c1, c2, c3⟩, _, hsz⟩ := (HBX.out.below hb1 (by simp)).facts
      rw [HP.out]
      rw [codeOf_err, parseV_err]
      have hn := HN.out _ n HP.out
      have hn1 : (n == 0) = false := beq_eq_false_iff_ne.2 hn
      clear hn
      go_wp2_with fail
      go_ret
      exact ⟨ret_bool (by rw [HV.out]), (HBZ.out.trans (hb1.mono (by simp))).alloc (by have := hb1.size; simp at this; omega) _⟩
    | ok c =>
      have HV := Lib.hid (valid_eq ⟨h, p, q, true⟩ c (.inl rfl) (by simpa [Adr.target] using hp))
      have HP := Lib.hid hp
      clear hp
      obtain ⟨h', p', q', b'⟩ := c
      go_enter Tryz.func77, Tryz.ntmps77
      go_wp2_with fail
      refine (refParse_any h (p ++ 63 :: q) _ (by omega) (by first | omega | (simp; omega))).mono ?_
      rintro e w1 ⟨rfl, hb1⟩
      obtain ⟨⟨c0, c1, c2, c3⟩, _, hsz⟩ := (HBX.out.below hb1 (by simp)).facts
      rw [HP.out]
      rw [codeOf_ok, parseV_ok]
      go_wp2_with fail
      all_goals
        go_ret
        exact ⟨ret_bool (by rw [HV.out]; simp [*]), (HBZ.out.trans (hb1.mono (by simp))).alloc (by have := hb1.size; simp at this; omega) _⟩

theorem format_yes (a : Adr) (w : World) (hr : Ready w) (h1 : a.host.length ≤ 134217728) (h2 : a.path.length ≤ 134217728) (h3 : a.query.length ≤ 134217728) (hv : valid a = true) :
    Calls Tryz.prog 25 #[adV a] w fun e w' => e = .returned (.tuple #[.string ⟨a.text.toArray⟩, .nilIface]) ∧ Below w.heap.size w w' := by
  have HV := Lib.hid hv
  have HX := Lib.hid (valid_any a)
  obtain ⟨h, p, q, b⟩ := a
  simp only at h1 h2 h3
  have HBX := Lib.hid (box_new w 27 (.string ⟨h.toArray⟩) (.string ⟨p.toArray⟩) (.string ⟨q.toArray⟩) (.bool b))
  have hbz := (Below.refl w.heap.size w).alloc (Nat.le_refl _) (.cells #[.string ⟨h.toArray⟩, .string ⟨p.toArray⟩, .string ⟨q.toArray⟩, .bool b] 27)
  have HRD := Lib.hid (hr.below hbz)
  have HBZ := Lib.hid hbz
  clear hr hbz hv
  go_enter Tryz.func25, Tryz.ntmps25
  go_wp2_with fail
  refine (HX.out _ HRD.out (by simpa using h1) (by simpa using h2) (by simpa using h3)).mono ?_
  rintro e w1 ⟨rfl, hb1⟩
  rw [HV.out]
  obtain ⟨⟨c0, c1, c2, c3⟩, _, hsz⟩ := (HBX.out.below hb1 (by simp)).facts
  go_wp2_with fail
  refine (text_any h p q b _ (by omega) (by omega) (by omega)).mono ?_
  rintro e w2 ⟨rfl, hb2⟩
  go_wp2_with fail
  go_ret2
  exact ⟨rfl, HBZ.out.trans ((hb1.trans (hb2.mono hb1.size)).mono (by simp))⟩
end A1
end Go.Proofs.YtpmhkkjecapbeaaGreatDoor
end

section
namespace Go.Proofs.YtpmhkkjecapbeaaGreatDoor
open Go.RowKit Pl Ad Go.Shelf
attribute [local go_sem] ba_get ba_append ba_extract_end ba_extract_zero ba_extract conv_one
set_option maxRecDepth 100000
set_option maxHeartbeats 4000000
set_option linter.unusedVariables false
set_option linter.unusedSimpArgs false
namespace Sg
open Kr A1
@[reducible] def errC (n : Int) : Value := if n = 0 then .nilIface else errV n
theorem errC_of {a : Adr} {t : TokM} {n : Int} (h : checkS a t = n) (hn : ¬ n = 0) : errC (checkS a t) = errV n := by rw [h]; exact if_neg hn
theorem errC_ok {a : Adr} {t : TokM} (h : checkS a t = 0) : errC (checkS a t) = .nilIface := by rw [h]; rfl
theorem begun_lens (a : Adr) (t : TokM) (h : t.frm ≤ 1099511627776) (h2 : t.til ≤ 1099511627776) : (Ad.begun a t).host = a.host ∧ (Ad.begun a t).path = a.path ∧ (Ad.begun a t).has = true ∧ (Ad.begun a t).query.length ≤ a.query.length + t.id.length + 40 := by
  have h3 := decI_len h
  have h4 := decI_len h2
  obtain ⟨x, p, q, b⟩ := a
  cases b <;> simp [Ad.begun, Adr.plus, pK, pF, pU] <;> omega
/-- Two boxes: an address and a token. -/
structure TwS (w0 w : World) (B T1 T2 : Nat) (a : Adr) (t : TokM) : Prop where
  bel : Below w0.heap.size w0 w
  ab : Bx w B T1 #[.string ⟨a.host.toArray⟩, .string ⟨a.path.toArray⟩, .string ⟨a.query.toArray⟩, .bool a.has]
  tb : Bx w (B + 1) T2 #[.string ⟨t.id.toArray⟩, .int .i64 t.frm, .int .i64 t.til]
theorem TwS.older {w0 w w' : World} {B T1 T2 : Nat} {a : Adr} {t : TokM} (h : TwS w0 w B T1 T2 a t) (hb : Below w.heap.size w w') : TwS w0 w' B T1 T2 a t :=
  ⟨h.bel.trans (hb.mono h.bel.size), h.ab.older hb, h.tb.older hb⟩
theorem twS_new (w : World) (T1 T2 : Nat) (h p q id : Bs) (b : Bool) (frm til : Int) : TwS w ((w.alloc (.cells #[.string ⟨h.toArray⟩, .string ⟨p.toArray⟩, .string ⟨q.toArray⟩, .bool b] T1)).alloc (.cells #[.string ⟨id.toArray⟩, .int .i64 frm, .int .i64 til] T2)) w.heap.size T1 T2 ⟨h, p, q, b⟩ ⟨id, frm, til⟩ :=
  ⟨((Below.refl _ _).alloc (Nat.le_refl _) _).alloc (by simp) _, (Bx.new w _ _).older ((Below.refl _ _).alloc (Nat.le_refl _) _),
   by have h9 := Bx.new (w.alloc (.cells #[.string ⟨h.toArray⟩, .string ⟨p.toArray⟩, .string ⟨q.toArray⟩, .bool b] T1)) T2 #[.string ⟨id.toArray⟩, .int .i64 frm, .int .i64 til]; rw [show (w.alloc (.cells #[.string ⟨h.toArray⟩, .string ⟨p.toArray⟩, .string ⟨q.toArray⟩, .bool b] T1)).heap.size = w.heap.size + 1 by simp] at h9; exact h9⟩
theorem TwS.facts {w0 w : World} {B T1 T2 : Nat} {a : Adr} {t : TokM} (h : TwS w0 w B T1 T2 a t) :
    (w.cell? ⟨B, 0, none⟩ = some (.string ⟨a.host.toArray⟩) ∧ w.cell? ⟨B, 1, none⟩ = some (.string ⟨a.path.toArray⟩) ∧ w.cell? ⟨B, 2, none⟩ = some (.string ⟨a.query.toArray⟩) ∧ w.cell? ⟨B, 3, none⟩ = some (.bool a.has)) ∧
    (w.cell? ⟨B + 1, 0, none⟩ = some (.string ⟨t.id.toArray⟩) ∧ w.cell? ⟨B + 1, 1, none⟩ = some (.int .i64 t.frm) ∧ w.cell? ⟨B + 1, 2, none⟩ = some (.int .i64 t.til)) ∧ B + 1 < w.heap.size :=
  ⟨⟨h.ab.cell (i := 0) rfl, h.ab.cell (i := 1) rfl, h.ab.cell (i := 2) rfl, h.ab.cell (i := 3) rfl⟩, ⟨h.tb.cell (i := 0) rfl, h.tb.cell (i := 1) rfl, h.tb.cell (i := 2) rfl⟩, h.tb.lt⟩
theorem check_any (a : Adr) (t : TokM) (w : World) (hg : SgnAt w) (h1 : a.host.length ≤ 33554432) (h2 : a.path.length ≤ 33554432) (h3 : a.query.length ≤ 33554432) (hid : t.id.length ≤ 33554432) :
    Calls Tryz.prog 60 #[adV a, tkV t] w fun e w' => e = .returned (errC (checkS a t)) ∧ Below w.heap.size w w' := by
  obtain ⟨h, p, q, b⟩ := a
  obtain ⟨id, frm, til⟩ := t
  simp only at h1 h2 h3 hid
  have HG := Lib.hid hg
  have HS0 := Lib.hid (twS_new w 27 51 h p q id b frm til)
  cases hv : valid ⟨h, p, q, b⟩ with
  | false =>
    have HVAL : Hid (∀ wz, SgnAt wz → Calls Tryz.prog 66 #[.agg #[.string ⟨h.toArray⟩, .string ⟨p.toArray⟩, .string ⟨q.toArray⟩, .bool b]] wz fun e w' => e = .returned (.bool false) ∧ Below wz.heap.size wz w') := Lib.hid (fun wz hz => by have h9 := valid_any ⟨h, p, q, b⟩ wz hz.rdy (by simp only; omega) (by simp only; omega) (by simp only; omega); rw [hv] at h9; exact h9)
    have HC := Lib.hid (errC_of (t := ⟨id, frm, til⟩) (show checkS ⟨h, p, q, b⟩ ⟨id, frm, til⟩ = 2 by unfold checkS; exact if_pos (.inl hv)) (by decide))
    clear hv
    clear hg hid
    go_enter Tryz.func60, Tryz.ntmps60
    go_wp2_with (first | (go_at_call 66; refine (HVAL.out _ (HG.out.below HS0.out.bel)).mono ?_; rintro e w1 ⟨rfl, hb1⟩; have HS1 := Lib.hid (HS0.out.older hb1); clear hb1; obtain ⟨⟨c0, c1, c2, c3⟩, ⟨d0, d1, d2⟩, hz⟩ := HS1.out.facts))
    go_ret
    exact ⟨by rw [HC.out]; rfl, HS1.out.bel⟩
  | true =>
    have HVAL : Hid (∀ wz, SgnAt wz → Calls Tryz.prog 66 #[.agg #[.string ⟨h.toArray⟩, .string ⟨p.toArray⟩, .string ⟨q.toArray⟩, .bool b]] wz fun e w' => e = .returned (.bool true) ∧ Below wz.heap.size wz w') := Lib.hid (fun wz hz => by have h9 := valid_any ⟨h, p, q, b⟩ wz hz.rdy (by simp only; omega) (by simp only; omega) (by simp only; omega); rw [hv] at h9; exact h9)
    cases hp : plainQ q with
    | false =>
      have HPLN : Hid (∀ wz, SgnAt wz → Calls Tryz.prog 103 #[.agg #[.string ⟨h.toArray⟩, .string ⟨p.toArray⟩, .string ⟨q.toArray⟩, .bool b]] wz fun e w' => e = .returned (.bool false) ∧ Below wz.heap.size wz w') := Lib.hid (fun wz hz => by have h9 := plain_any ⟨h, p, q, b⟩ wz hz.rdy (by simp only; omega); rw [show plainQ (Adr.mk h p q b).query = false from hp] at h9; exact h9)
      have HC := Lib.hid (errC_of (t := ⟨id, frm, til⟩) (show checkS ⟨h, p, q, b⟩ ⟨id, frm, til⟩ = 2 by unfold checkS; exact if_pos (.inr (.inl hp))) (by decide))
      clear hv hp
      clear hg hid
      go_enter Tryz.func60, Tryz.ntmps60
      go_wp2_with (first | (go_at_call 66; refine (HVAL.out _ (HG.out.below HS0.out.bel)).mono ?_; rintro e w1 ⟨rfl, hb1⟩; have HS1 := Lib.hid (HS0.out.older hb1); clear hb1; obtain ⟨⟨c0, c1, c2, c3⟩, ⟨d0, d1, d2⟩, hz⟩ := HS1.out.facts) | (go_at_call 103; refine (HPLN.out _ (HG.out.below HS1.out.bel)).mono ?_; rintro e w2 ⟨rfl, hb2⟩; have HS2 := Lib.hid (HS1.out.older hb2); clear hb2 c0 c1 c2 c3 d0 d1 d2 hz; obtain ⟨⟨c0, c1, c2, c3⟩, ⟨d0, d1, d2⟩, hz⟩ := HS2.out.facts))
      go_ret
      exact ⟨by rw [HC.out]; rfl, HS2.out.bel⟩
    | true =>
      have HPLN : Hid (∀ wz, SgnAt wz → Calls Tryz.prog 103 #[.agg #[.string ⟨h.toArray⟩, .string ⟨p.toArray⟩, .string ⟨q.toArray⟩, .bool b]] wz fun e w' => e = .returned (.bool true) ∧ Below wz.heap.size wz w') := Lib.hid (fun wz hz => by have h9 := plain_any ⟨h, p, q, b⟩ wz hz.rdy (by simp only; omega); rw [show plainQ (Adr.mk h p q b).query = true from hp] at h9; exact h9)
      cases hi : idOk id with
      | false =>
        have HNAM : Hid (∀ wz, Calls Tryz.prog 104 #[.string ⟨id.toArray⟩] wz fun e w' => e = .returned (.bool false) ∧ wz = w') := Lib.hid (fun wz => by have h9 := named_any id wz (by omega); rw [hi] at h9; exact h9)
        have HC := Lib.hid (errC_of (t := ⟨id, frm, til⟩) (show checkS ⟨h, p, q, b⟩ ⟨id, frm, til⟩ = 2 by unfold checkS; exact if_pos (.inr (.inr hi))) (by decide))
        clear hv hp hi
        clear hg hid
        go_enter Tryz.func60, Tryz.ntmps60
        go_wp2_with (first | (go_at_call 66; refine (HVAL.out _ (HG.out.below HS0.out.bel)).mono ?_; rintro e w1 ⟨rfl, hb1⟩; have HS1 := Lib.hid (HS0.out.older hb1); clear hb1; obtain ⟨⟨c0, c1, c2, c3⟩, ⟨d0, d1, d2⟩, hz⟩ := HS1.out.facts) | (go_at_call 103; refine (HPLN.out _ (HG.out.below HS1.out.bel)).mono ?_; rintro e w2 ⟨rfl, hb2⟩; have HS2 := Lib.hid (HS1.out.older hb2); clear hb2 c0 c1 c2 c3 d0 d1 d2 hz; obtain ⟨⟨c0, c1, c2, c3⟩, ⟨d0, d1, d2⟩, hz⟩ := HS2.out.facts) | (go_at_call 104; refine (HNAM.out _).mono ?_; rintro e w3 ⟨rfl, rfl⟩))
        go_ret
        exact ⟨by rw [HC.out]; rfl, HS2.out.bel⟩
      | true =>
        have HNAM : Hid (∀ wz, Calls Tryz.prog 104 #[.string ⟨id.toArray⟩] wz fun e w' => e = .returned (.bool true) ∧ wz = w') := Lib.hid (fun wz => by have h9 := named_any id wz (by omega); rw [hi] at h9; exact h9)
        have hno : ¬ (valid ⟨h, p, q, b⟩ = false ∨ plainQ q = false ∨ idOk id = false) := by rw [hv, hp, hi]; simp
        by_cases hft : til ≤ frm
        · have HC := Lib.hid (errC_of (t := ⟨id, frm, til⟩) (show checkS ⟨h, p, q, b⟩ ⟨id, frm, til⟩ = 7 by unfold checkS; rw [if_neg hno, if_pos hft]) (by decide))
          clear hv hp hi hno
          clear hg hid
          go_enter Tryz.func60, Tryz.ntmps60
          go_wp2_with (first | (go_at_call 66; refine (HVAL.out _ (HG.out.below HS0.out.bel)).mono ?_; rintro e w1 ⟨rfl, hb1⟩; have HS1 := Lib.hid (HS0.out.older hb1); clear hb1; obtain ⟨⟨c0, c1, c2, c3⟩, ⟨d0, d1, d2⟩, hz⟩ := HS1.out.facts) | (go_at_call 103; refine (HPLN.out _ (HG.out.below HS1.out.bel)).mono ?_; rintro e w2 ⟨rfl, hb2⟩; have HS2 := Lib.hid (HS1.out.older hb2); clear hb2 c0 c1 c2 c3 d0 d1 d2 hz; obtain ⟨⟨c0, c1, c2, c3⟩, ⟨d0, d1, d2⟩, hz⟩ := HS2.out.facts) | (go_at_call 104; refine (HNAM.out _).mono ?_; rintro e w3 ⟨rfl, rfl⟩))
          go_ret
          exact ⟨by rw [HC.out]; rfl, HS2.out.bel⟩
        · by_cases h0 : frm < 0
          · have HC := Lib.hid (errC_of (t := ⟨id, frm, til⟩) (show checkS ⟨h, p, q, b⟩ ⟨id, frm, til⟩ = 1 by unfold checkS; rw [if_neg hno, if_neg hft, if_pos (.inl h0)]) (by decide))
            clear hv hp hi hno
            clear hg hid
            go_enter Tryz.func60, Tryz.ntmps60
            go_wp2_with (first | (go_at_call 66; refine (HVAL.out _ (HG.out.below HS0.out.bel)).mono ?_; rintro e w1 ⟨rfl, hb1⟩; have HS1 := Lib.hid (HS0.out.older hb1); clear hb1; obtain ⟨⟨c0, c1, c2, c3⟩, ⟨d0, d1, d2⟩, hz⟩ := HS1.out.facts) | (go_at_call 103; refine (HPLN.out _ (HG.out.below HS1.out.bel)).mono ?_; rintro e w2 ⟨rfl, hb2⟩; have HS2 := Lib.hid (HS1.out.older hb2); clear hb2 c0 c1 c2 c3 d0 d1 d2 hz; obtain ⟨⟨c0, c1, c2, c3⟩, ⟨d0, d1, d2⟩, hz⟩ := HS2.out.facts) | (go_at_call 104; refine (HNAM.out _).mono ?_; rintro e w3 ⟨rfl, rfl⟩))
            go_ret
            exact ⟨by rw [HC.out]; rfl, HS2.out.bel⟩
          · by_cases hm : 1099511627776 < til
            · have HC := Lib.hid (errC_of (t := ⟨id, frm, til⟩) (show checkS ⟨h, p, q, b⟩ ⟨id, frm, til⟩ = 1 by unfold checkS; rw [if_neg hno, if_neg hft, if_pos (.inr hm)]) (by decide))
              clear hv hp hi hno
              clear hg hid
              go_enter Tryz.func60, Tryz.ntmps60
              go_wp2_with (first | (go_at_call 66; refine (HVAL.out _ (HG.out.below HS0.out.bel)).mono ?_; rintro e w1 ⟨rfl, hb1⟩; have HS1 := Lib.hid (HS0.out.older hb1); clear hb1; obtain ⟨⟨c0, c1, c2, c3⟩, ⟨d0, d1, d2⟩, hz⟩ := HS1.out.facts) | (go_at_call 103; refine (HPLN.out _ (HG.out.below HS1.out.bel)).mono ?_; rintro e w2 ⟨rfl, hb2⟩; have HS2 := Lib.hid (HS1.out.older hb2); clear hb2 c0 c1 c2 c3 d0 d1 d2 hz; obtain ⟨⟨c0, c1, c2, c3⟩, ⟨d0, d1, d2⟩, hz⟩ := HS2.out.facts) | (go_at_call 104; refine (HNAM.out _).mono ?_; rintro e w3 ⟨rfl, rfl⟩))
              go_ret
              exact ⟨by rw [HC.out]; rfl, HS2.out.bel⟩
            · obtain ⟨l1, l2, l3, l4⟩ := begun_lens ⟨h, p, q, b⟩ ⟨id, frm, til⟩ (by simp only; omega) (by simp only; omega)
              obtain ⟨bg, hbg⟩ : ∃ x, Ad.begun ⟨h, p, q, b⟩ ⟨id, frm, til⟩ = x := ⟨_, rfl⟩
              rw [hbg] at l1 l2 l3 l4
              simp only at l1 l2 l4
              have HBGN : Hid (∀ wz, SgnAt wz → Calls Tryz.prog 61 #[.agg #[.string ⟨h.toArray⟩, .string ⟨p.toArray⟩, .string ⟨q.toArray⟩, .bool b], .agg #[.string ⟨id.toArray⟩, .int .i64 frm, .int .i64 til]] wz fun e w' => e = .returned (adV bg) ∧ Below wz.heap.size wz w') := Lib.hid (fun wz hz => by have h9 := begun_any ⟨h, p, q, b⟩ ⟨id, frm, til⟩ wz hz (by simp only; omega) (by simp only; omega) (by simp only; omega) (by simp only; omega) (by simp only; omega) (by simp only; omega); rw [hbg] at h9; exact h9)
              have HSIZ : Hid (∀ wz, Calls Tryz.prog 105 #[adV bg] wz fun e w' => e = .returned (.int .i64 (bg.text.length : Int)) ∧ Below wz.heap.size wz w') := Lib.hid (fun wz => size_any bg wz (by rw [l1]; omega) (by rw [l2]; omega) (by omega))
              have e9 : bg.text.length = bg.host.length + bg.path.length + (1 + bg.query.length) := by rw [Adr.text, adText, l3]; simp; omega
              have hln : bg.text.length ≤ 268435456 := by rw [e9, l1, l2]; omega
              clear e9
              obtain ⟨tl, htl⟩ : ∃ x, bg.text.length = x := ⟨_, rfl⟩
              rw [htl] at HSIZ hln
              clear l1 l2 l3 l4
              by_cases hbig : 1024 < tl + 36
              · have HC := Lib.hid (errC_of (t := ⟨id, frm, til⟩) (show checkS ⟨h, p, q, b⟩ ⟨id, frm, til⟩ = 5 by unfold checkS; rw [if_neg hno, if_neg hft, if_neg (by simp only; omega), hbg, htl, if_pos hbig]) (by decide))
                clear hv hp hi hno hbg htl
                have hbi : (1024 : Int) < (tl : Int) + 36 := by omega
                clear hg hid
                go_enter Tryz.func60, Tryz.ntmps60
                go_wp2_with (first | (go_at_call 66; refine (HVAL.out _ (HG.out.below HS0.out.bel)).mono ?_; rintro e w1 ⟨rfl, hb1⟩; have HS1 := Lib.hid (HS0.out.older hb1); clear hb1; obtain ⟨⟨c0, c1, c2, c3⟩, ⟨d0, d1, d2⟩, hz⟩ := HS1.out.facts) | (go_at_call 103; refine (HPLN.out _ (HG.out.below HS1.out.bel)).mono ?_; rintro e w2 ⟨rfl, hb2⟩; have HS2 := Lib.hid (HS1.out.older hb2); clear hb2 c0 c1 c2 c3 d0 d1 d2 hz; obtain ⟨⟨c0, c1, c2, c3⟩, ⟨d0, d1, d2⟩, hz⟩ := HS2.out.facts) | (go_at_call 104; refine (HNAM.out _).mono ?_; rintro e w3 ⟨rfl, rfl⟩) | (go_at_call 61; refine (HBGN.out _ (HG.out.below HS2.out.bel)).mono ?_; rintro e w4 ⟨rfl, hb4⟩; have HS4 := Lib.hid (HS2.out.older hb4); clear hb4 c0 c1 c2 c3 d0 d1 d2 hz; obtain ⟨⟨c0, c1, c2, c3⟩, ⟨d0, d1, d2⟩, hz⟩ := HS4.out.facts) | (go_at_call 105; refine (HSIZ.out _).mono ?_; rintro e w5 ⟨rfl, hb5⟩; have HS5 := Lib.hid (HS4.out.older hb5); clear hb5 c0 c1 c2 c3 d0 d1 d2 hz; obtain ⟨⟨c0, c1, c2, c3⟩, ⟨d0, d1, d2⟩, hz⟩ := HS5.out.facts))
                go_ret
                exact ⟨by rw [HC.out]; rfl, HS5.out.bel⟩
              · have HC := Lib.hid (errC_ok (t := ⟨id, frm, til⟩) (show checkS ⟨h, p, q, b⟩ ⟨id, frm, til⟩ = 0 by unfold checkS; rw [if_neg hno, if_neg hft, if_neg (by simp only; omega), hbg, htl, if_neg hbig]))
                clear hv hp hi hno hbg htl
                have hbi : ¬ (1024 : Int) < (tl : Int) + 36 := by omega
                clear hg hid
                go_enter Tryz.func60, Tryz.ntmps60
                go_wp2_with (first | (go_at_call 66; refine (HVAL.out _ (HG.out.below HS0.out.bel)).mono ?_; rintro e w1 ⟨rfl, hb1⟩; have HS1 := Lib.hid (HS0.out.older hb1); clear hb1; obtain ⟨⟨c0, c1, c2, c3⟩, ⟨d0, d1, d2⟩, hz⟩ := HS1.out.facts) | (go_at_call 103; refine (HPLN.out _ (HG.out.below HS1.out.bel)).mono ?_; rintro e w2 ⟨rfl, hb2⟩; have HS2 := Lib.hid (HS1.out.older hb2); clear hb2 c0 c1 c2 c3 d0 d1 d2 hz; obtain ⟨⟨c0, c1, c2, c3⟩, ⟨d0, d1, d2⟩, hz⟩ := HS2.out.facts) | (go_at_call 104; refine (HNAM.out _).mono ?_; rintro e w3 ⟨rfl, rfl⟩) | (go_at_call 61; refine (HBGN.out _ (HG.out.below HS2.out.bel)).mono ?_; rintro e w4 ⟨rfl, hb4⟩; have HS4 := Lib.hid (HS2.out.older hb4); clear hb4 c0 c1 c2 c3 d0 d1 d2 hz; obtain ⟨⟨c0, c1, c2, c3⟩, ⟨d0, d1, d2⟩, hz⟩ := HS4.out.facts) | (go_at_call 105; refine (HSIZ.out _).mono ?_; rintro e w5 ⟨rfl, hb5⟩; have HS5 := Lib.hid (HS4.out.older hb5); clear hb5 c0 c1 c2 c3 d0 d1 d2 hz; obtain ⟨⟨c0, c1, c2, c3⟩, ⟨d0, d1, d2⟩, hz⟩ := HS5.out.facts))
                go_ret
                exact ⟨by rw [HC.out]; rfl, HS5.out.bel⟩
end Sg
end Go.Proofs.YtpmhkkjecapbeaaGreatDoor
end

section
namespace Go.Proofs.YtpmhkkjecapbeaaGreatDoor
open Go.RowKit Pl Ad
attribute [local go_sem] ba_get ba_append ba_extract_end ba_extract_zero ba_extract
set_option maxRecDepth 100000
set_option maxHeartbeats 4000000
set_option linter.unusedVariables false
set_option linter.unusedSimpArgs false
namespace Kr
def findE (l : List Ent) (id : Bs) : Option Ent := l.find? fun e => e.key.id == id
def ptrE : Option Ent → Value
  | none => .pointer none
  | some e => ptrK e.blk
theorem ptrE_none : ptrE none = .pointer none := rfl
theorem ptrE_some (e : Ent) : ptrE (some e) = ptrK e.blk := rfl
theorem find_hit {l : List Ent} {k : Nat} (hk : k < l.length) {id : Bs} (h : findE (l.drop k) id = findE l id) (he : (l[k].key.id == id) = true) : findE l id = some l[k] := by
  rw [← h, drop_cons hk]; unfold findE; rw [List.find?_cons, he]
theorem find_miss {l : List Ent} {k : Nat} (hk : k < l.length) {id : Bs} (h : findE (l.drop k) id = findE l id) (he : (l[k].key.id == id) = false) : findE (l.drop (k + 1)) id = findE l id := by
  rw [← h, drop_cons hk]; unfold findE; rw [List.find?_cons, he]
theorem find_end {l : List Ent} {k : Nat} (hk : ¬ k < l.length) {id : Bs} (h : findE (l.drop k) id = findE l id) : findE l id = none := by
  rw [← h, List.drop_of_length_le (by omega)]; rfl
theorem RingAt.found {w : World} {B R : Nat} {V : Nat → Value} {E : Nat → List Ent} (h : RingAt w B R V E) {t : Int} {e : Ent} (he : e ∈ tlK E t) : EntAt w B e := by
  unfold tlK at he
  split at he
  · rename_i ht
    exact h.ent t.toNat (by omega) e he
  · cases he
theorem find_any (B R : Nat) (t : Int) (id : Bs) (V : Nat → Value) (E : Nat → List Ent) (w : World) (h : RingAt w B R V E) (hl : (tlK E t).length ≤ 1000000) :
    Calls Tryz.prog 54 #[ptrK R, .int .i64 t, .string ⟨id.toArray⟩] w fun r w' => r = .returned (ptrE (findE (tlK E t) id)) ∧ w = w' := by
  obtain ⟨a, c, hv, hk⟩ := h.slot t
  have HR := Lib.hid h
  have HV := Lib.hid hv
  have HK := Lib.hid hk
  clear h hv hk
  generalize tlK E t = l at hl HV HK ⊢
  go_enter Tryz.func54, Tryz.ntmps54
  go_wp2_with (go_at_call 58; refine (of_any B R t V E _ HR.out).mono ?_; rw [HV.out]; rintro e w' ⟨rfl, rfl⟩)
  go_loop [13] (fun i => ∃ k : Nat, k ≤ l.length ∧ i = .int .i64 k ∧ Hid (findE (l.drop k) id = findE l id)) (fun i => l.length - (intOf i).toNat)
  case atStart => exact ⟨0, Nat.zero_le _, rfl, Lib.hid rfl⟩
  case round =>
    obtain ⟨k, hk, rfl, H⟩ := hrel
    by_cases hlt : k < l.length
    · obtain ⟨b, o, ha, hc, hcell, hent⟩ := HK.out k hlt
      have HF1 := Lib.hid (find_hit hlt H.out)
      have HF2 := Lib.hid (find_miss hlt H.out)
      subst ha
      generalize l[k] = x at hcell hent HF1 HF2
      obtain ⟨⟨c0, c1, c2, c3, c4⟩, _, hz⟩ := hent.facts
      clear hent
      cases he : (x.key.id == id) with
      | true =>
        have HF := Lib.hid (HF1.out he)
        go_wp2
        go_ret
        exact ⟨by rw [HF.out]; rfl, rfl⟩
      | false =>
        have HF := Lib.hid (HF2.out he)
        go_wp2
        go_round
        case rel => exact ⟨k + 1, by omega, by go_num, Lib.hid HF.out⟩
        case measure => simp [intOf]; omega
    · have HF := Lib.hid (find_end hlt H.out)
      go_wp2
      go_ret
      exact ⟨by rw [HF.out]; rfl, rfl⟩
theorem findE_some {l : List Ent} {id : Bs} {e : Ent} (h : findE l id = some e) : e ∈ l := List.mem_of_find?_eq_some h
def validE (l : List Ent) (id : Bs) (n : Int) : Bool := match findE l id with
  | none => false
  | some e => e.key.at n
theorem valid_any (B R : Nat) (t n : Int) (id : Bs) (V : Nat → Value) (E : Nat → List Ent) (w : World) (h : RingAt w B R V E) (hl : (tlK E t).length ≤ 1000000) :
    Calls Tryz.prog 23 #[ptrK R, .int .i64 t, .string ⟨id.toArray⟩, .int .i64 n] w fun r w' => r = .returned (.bool (validE (tlK E t) id n)) ∧ w = w' := by
  have HR := Lib.hid h
  clear h
  obtain ⟨o, ho⟩ : ∃ o, findE (tlK E t) id = o := ⟨_, rfl⟩
  have HO := Lib.hid ho
  cases o with
  | none =>
    have HV := Lib.hid (show validE (tlK E t) id n = false by unfold validE; rw [ho])
    clear ho
    go_enter Tryz.func23, Tryz.ntmps23
    go_wp2_with (go_at_call 54; refine (find_any B R t id V E _ HR.out hl).mono ?_; rw [HO.out, ptrE_none]; rintro e w' ⟨rfl, rfl⟩)
    go_ret
    exact ⟨ret_bool HV.out.symm, rfl⟩
  | some x =>
    have HV := Lib.hid (show validE (tlK E t) id n = x.key.at n by unfold validE; rw [ho])
    have HE := Lib.hid (HR.out.found (findE_some ho))
    clear ho
    go_enter Tryz.func23, Tryz.ntmps23
    go_wp2_with (first | (go_at_call 54; refine (find_any B R t id V E _ HR.out hl).mono ?_; rw [HO.out, ptrE_some]; rintro e w' ⟨rfl, rfl⟩) | (go_at_call 64; refine (entValid_any x B n _ HE.out).mono ?_; rintro e w' ⟨rfl, rfl⟩))
    go_ret
    exact ⟨ret_bool HV.out.symm, rfl⟩
end Kr
end Go.Proofs.YtpmhkkjecapbeaaGreatDoor
end

section
namespace Go.Proofs.YtpmhkkjecapbeaaGreatDoor
open Go.RowKit Pl Ad
attribute [local go_sem] ba_get ba_append ba_extract_end ba_extract_zero ba_extract
set_option maxRecDepth 100000
set_option maxHeartbeats 4000000
set_option linter.unusedVariables false
set_option linter.unusedSimpArgs false
namespace Kr
/-- What a call makes of a ring. -/
structure RDone (w w' : World) (B R : Nat) (V V' : Nat → Value) (E E' : Nat → List Ent) : Prop where
  ring : RingAt w' B R V' E'
  goes : RGoes w w' R V V' E E'
  sec : ∀ q, q < w.heap.size → SecOff E q → SecOff E' q
theorem RDone.same {w w' : World} {B R : Nat} {V : Nat → Value} {E : Nat → List Ent} (h : RingAt w B R V E) (hb : Below w.heap.size w w') : RDone w w' B R V V E E :=
  ⟨h.older hb, RGoes.of_below hb, fun q _ hq => hq⟩
theorem RDone.trans {w w1 w2 : World} {B R : Nat} {V V1 V2 : Nat → Value} {E E1 E2 : Nat → List Ent} (h : RDone w w1 B R V V1 E E1) (k : RDone w1 w2 B R V1 V2 E1 E2) : RDone w w2 B R V V2 E E2 :=
  ⟨k.ring, h.goes.trans k.goes, fun q hq hs => k.sec q (Nat.lt_of_lt_of_le hq h.goes.touch.size) (h.sec q hq hs)⟩
theorem RDone.older {w w1 w2 : World} {B R : Nat} {V V1 : Nat → Value} {E E1 : Nat → List Ent} (h : RDone w w1 B R V V1 E E1) (hb : Below w1.heap.size w1 w2) : RDone w w2 B R V V1 E E1 :=
  h.trans (RDone.same h.ring hb)
end Kr
end Go.Proofs.YtpmhkkjecapbeaaGreatDoor
end

section
namespace Go.Proofs.YtpmhkkjecapbeaaGreatDoor
open Go.RowKit Pl Ad
attribute [local go_sem] ba_get ba_append ba_extract_end ba_extract_zero ba_extract
set_option maxRecDepth 100000
set_option maxHeartbeats 4000000
set_option linter.unusedVariables false
set_option linter.unusedSimpArgs false
namespace Kr
theorem own_setB {w : World} {B e size n q T i : Nat} {u v : Value} {xs : List Value} {cs : Array Value} (h : OwnWin w B e size u n xs) (hb : Bx w q T cs) (hne : e ≠ T) : OwnWin (w.setCell ⟨q, i, none⟩ v) B e size u n xs :=
  h.touch (touch_set1 w q i v) (fun k hk hq => hb.neOwn h hne k hk hq)
end Kr
end Go.Proofs.YtpmhkkjecapbeaaGreatDoor
end

section
namespace Go.Proofs.YtpmhkkjecapbeaaGreatDoor
open Go.RowKit Pl Ad
set_option maxRecDepth 100000
set_option maxHeartbeats 4000000
set_option linter.unusedVariables false
set_option linter.unusedSimpArgs false
namespace Dg
open Kr
/-- The cells of a Hash. -/
def hashC (s : St) (v : Value) (n : Int) : Array Value := #[.int .u32 s.a, .int .u32 s.b, .int .u32 s.c, .int .u32 s.d, .int .u32 s.e, .int .u32 s.f, .int .u32 s.g, .int .u32 s.h, v, .int .i64 n]
structure HashAt (w : World) (B R : Nat) (s : St) (v : Value) (l : Bs) (n : Nat) : Prop where
  hR : B ≤ R
  box : Bx w R 174 (hashC s v (n : Int))
  own : OwnWin w B 5 1 v l.length (bvals l)
theorem HashAt.older {w w' : World} {B R n : Nat} {s : St} {v : Value} {l : Bs} (h : HashAt w B R s v l n) (hb : Below w.heap.size w w') : HashAt w' B R s v l n := ⟨h.hR, h.box.older hb, h.own.older hb⟩
theorem ConstAt.belowB {w w' : World} {B : Nat} (h : ConstAt w) (hb : Below B w w') (hB : 0 < B) : ConstAt w' :=
  ⟨Nat.lt_of_lt_of_le h.lt hb.size, fun t ht => (hb.cell (p := ⟨_, t, none⟩) hB).trans (h.cell t ht)⟩
theorem HashAt.set9 {w : World} {B R n : Nat} {s : St} {v : Value} {l : Bs} (h : HashAt w B R s v l n) (m : Nat) : HashAt (w.setCell ⟨R, 9, none⟩ (.int .i64 (m : Int))) B R s v l m :=
  ⟨h.hR, h.box.set 9 _, own_setB h.own h.box (by decide)⟩
theorem HashAt.set8 {w : World} {B R n : Nat} {s : St} {v v' : Value} {l l' : Bs} (h : HashAt w B R s v l n) (ho : OwnWin w B 5 1 v' l'.length (bvals l')) : HashAt (w.setCell ⟨R, 8, none⟩ v') B R s v' l' n :=
  ⟨h.hR, h.box.set 8 _, own_setB ho h.box (by decide)⟩
theorem setS_cells (s s' : St) (v : Value) (n : Int) : ((((((((hashC s v n).setIfInBounds 0 (.int .u32 s'.a)).setIfInBounds 1 (.int .u32 s'.b)).setIfInBounds 2 (.int .u32 s'.c)).setIfInBounds 3 (.int .u32 s'.d)).setIfInBounds 4 (.int .u32 s'.e)).setIfInBounds 5 (.int .u32 s'.f)).setIfInBounds 6 (.int .u32 s'.g)).setIfInBounds 7 (.int .u32 s'.h) = hashC s' v n := by
  simp [hashC]
/-- A box and a slice, a cell of the box written. -/
def BoxOwn (w : World) (B R : Nat) (cs : Array Value) (v : Value) (l : Bs) : Prop := Bx w R 174 cs ∧ OwnWin w B 5 1 v l.length (bvals l)
theorem BoxOwn.set {w : World} {B R : Nat} {cs : Array Value} {v : Value} {l : Bs} (h : BoxOwn w B R cs v l) (i : Nat) (u : Value) : BoxOwn (w.setCell ⟨R, i, none⟩ u) B R (cs.setIfInBounds i u) v l :=
  ⟨h.1.set i u, own_setB h.2 h.1 (by decide)⟩
theorem HashAt.setS {w : World} {B R n : Nat} {s : St} {v : Value} {l : Bs} (h : HashAt w B R s v l n) (s' : St) : HashAt ((((((((w.setCell ⟨R, 0, none⟩ (.int .u32 s'.a)).setCell ⟨R, 1, none⟩ (.int .u32 s'.b)).setCell ⟨R, 2, none⟩ (.int .u32 s'.c)).setCell ⟨R, 3, none⟩ (.int .u32 s'.d)).setCell ⟨R, 4, none⟩ (.int .u32 s'.e)).setCell ⟨R, 5, none⟩ (.int .u32 s'.f)).setCell ⟨R, 6, none⟩ (.int .u32 s'.g)).setCell ⟨R, 7, none⟩ (.int .u32 s'.h)) B R s' v l n := by
  have h0 : BoxOwn w B R (hashC s v (n : Int)) v l := ⟨h.box, h.own⟩
  have h1 := h0.set 0 (.int .u32 s'.a)
  have h2 := h1.set 1 (.int .u32 s'.b)
  have h3 := h2.set 2 (.int .u32 s'.c)
  have h4 := h3.set 3 (.int .u32 s'.d)
  have h5 := h4.set 4 (.int .u32 s'.e)
  have h6 := h5.set 5 (.int .u32 s'.f)
  have h7 := h6.set 6 (.int .u32 s'.g)
  have h8 := h7.set 7 (.int .u32 s'.h)
  rw [setS_cells] at h8
  exact ⟨h.hR, h8.1, h8.2⟩
theorem below_setS {B R : Nat} {w0 w : World} {s' : St} (h : Below B w0 w) (hR : B ≤ R) : Below B w0 ((((((((w.setCell ⟨R, 0, none⟩ (.int .u32 s'.a)).setCell ⟨R, 1, none⟩ (.int .u32 s'.b)).setCell ⟨R, 2, none⟩ (.int .u32 s'.c)).setCell ⟨R, 3, none⟩ (.int .u32 s'.d)).setCell ⟨R, 4, none⟩ (.int .u32 s'.e)).setCell ⟨R, 5, none⟩ (.int .u32 s'.f)).setCell ⟨R, 6, none⟩ (.int .u32 s'.g)).setCell ⟨R, 7, none⟩ (.int .u32 s'.h)) :=
  (((((((h.setCell (p := ⟨R, 0, none⟩) hR _).setCell (p := ⟨R, 1, none⟩) hR _).setCell (p := ⟨R, 2, none⟩) hR _).setCell (p := ⟨R, 3, none⟩) hR _).setCell (p := ⟨R, 4, none⟩) hR _).setCell (p := ⟨R, 5, none⟩) hR _).setCell (p := ⟨R, 6, none⟩) hR _).setCell (p := ⟨R, 7, none⟩) hR _
theorem hashNew_any (w : World) : Calls Tryz.prog 72 #[] w fun e w' => e = .returned (ptrK w.heap.size) ∧ w' = w.alloc (.cells (hashC initS (.slice none 0 0) 0) 174) := by
  go_enter Tryz.func72, Tryz.ntmps72
  go_wp2
  go_ret
  exact ⟨rfl, rfl⟩
theorem hashAt_new (w : World) : HashAt (w.alloc (.cells (hashC initS (.slice none 0 0) 0) 174)) w.heap.size w.heap.size initS (.slice none 0 0) [] 0 :=
  ⟨Nat.le_refl _, Bx.new w _ _, OwnWin.nil _ _ _ _⟩
/-- A slice's first 64 bytes, as a block. -/
theorem own_blk {w : World} {B n : Nat} {g o c : Nat} {l : Bs} (h : OwnWin w B 5 1 (.slice (some ⟨g, o, none⟩) n c) n (bvals l)) (hn : n = l.length) (hl : 64 ≤ l.length) : BlkAt w (l.take 64) g o := by
  subst hn
  obtain ⟨g', o', c', e', _, _, _, hlt, hc⟩ := h.cells (by omega)
  cases e'
  refine ⟨by rw [List.length_take]; omega, hlt, fun i hi => ?_⟩
  rw [List.length_take] at hi
  have := hc i (.int .u8 ((l[i]'(by omega)).toNat : Int)) (by simp [bvals, show i < l.length by omega])
  rw [this, List.getElem_take]
theorem bvals_drop (l : Bs) (k : Nat) : (bvals l).drop k = bvals (l.drop k) := by simp [bvals]
theorem own_rest {w : World} {B : Nat} {g o c : Nat} {l : Bs} (h : OwnWin w B 5 1 (.slice (some ⟨g, o, none⟩) l.length c) l.length (bvals l)) (hl : 64 ≤ l.length) (hc : 64 < c) : OwnWin w B 5 1 (.slice (some ⟨g, o + 64, none⟩) (l.length - 64) (c - 64)) (l.drop 64).length (bvals (l.drop 64)) := by
  have h9 := h.drop rfl hl hc
  rw [Nat.mul_one, bvals_drop] at h9
  rw [List.length_drop]; exact h9
theorem own_rest0 {w : World} {B : Nat} {g o c : Nat} {l : Bs} (h : OwnWin w B 5 1 (.slice (some ⟨g, o, none⟩) l.length c) l.length (bvals l)) (hl : l.length = 64) : OwnWin w B 5 1 (.slice (some ⟨g, o, none⟩) 0 0) (l.drop 64).length (bvals (l.drop 64)) := by
  have h9 := h.dropAll rfl
  rw [show l.drop 64 = [] from List.drop_eq_nil_of_le (by omega)]; exact h9
theorem runL_step {mx : St → Bs → St} {s : St} {p : Bs} (h : 64 ≤ p.length) {s' : St} (hs : mx s (p.take 64) = s') : runL mx s' (p.drop 64) = runL mx s p := by
  rw [runL_go h, hs]
theorem write_any (B R : Nat) (s : St) (v sv : Value) (l m : Bs) (n : Nat) (w : World) (h : HashAt w B R s v l n) (hB : B ≤ w.heap.size) (hg : 0 < B) (hsrc : ∀ x, SrcAt (w.setCell ⟨R, 9, none⟩ x) sv m.length (bvals m)) (hsv : ∃ a c, sv = .slice a m.length c) (hc : ConstAt w) (hl : l.length ≤ 1073741824) (hm : m.length ≤ 1073741824) (hn : n ≤ 1073741824) :
    Calls Tryz.prog 73 #[ptrK R, sv] w fun e w' => e = .returned (.tuple #[]) ∧ ∃ v', HashAt w' B R (runL mixM s (l ++ m)).1 v' (runL mixM s (l ++ m)).2 (n + m.length) ∧ Below B w w' := by
  obtain ⟨sa0, sb0, sc0, sd0, se0, sf0, sg0, sh0⟩ := s
  obtain ⟨va, vc, rfl, hvc⟩ := h.own.form
  obtain ⟨ma, mc, rfl⟩ := hsv
  have HH := Lib.hid h
  have HC := Lib.hid hc
  have HSRC := Lib.hid hsrc
  have c0 : World.cell? w ⟨R, 0, none⟩ = some (.int .u32 sa0) := (h).box.cell (i := 0) rfl
  have c1 : World.cell? w ⟨R, 1, none⟩ = some (.int .u32 sb0) := (h).box.cell (i := 1) rfl
  have c2 : World.cell? w ⟨R, 2, none⟩ = some (.int .u32 sc0) := (h).box.cell (i := 2) rfl
  have c3 : World.cell? w ⟨R, 3, none⟩ = some (.int .u32 sd0) := (h).box.cell (i := 3) rfl
  have c4 : World.cell? w ⟨R, 4, none⟩ = some (.int .u32 se0) := (h).box.cell (i := 4) rfl
  have c5 : World.cell? w ⟨R, 5, none⟩ = some (.int .u32 sf0) := (h).box.cell (i := 5) rfl
  have c6 : World.cell? w ⟨R, 6, none⟩ = some (.int .u32 sg0) := (h).box.cell (i := 6) rfl
  have c7 : World.cell? w ⟨R, 7, none⟩ = some (.int .u32 sh0) := (h).box.cell (i := 7) rfl
  have c8 : World.cell? w ⟨R, 8, none⟩ = some (.slice va l.length vc) := (h).box.cell (i := 8) rfl
  have c9 : World.cell? w ⟨R, 9, none⟩ = some (.int .i64 (n : Int)) := (h).box.cell (i := 9) rfl
  have f8 := h.box.frz 8
  have f9 := h.box.frz 9
  have hz := h.box.lt
  have hR := h.hR
  have hnm : ((n : Int) + (m.length : Int)) ≤ 2147483648 := by omega
  have H1 := Lib.hid (HH.out.set9 (n + m.length))
  have HB1 := Lib.hid ((Below.refl B w).setCell (p := ⟨R, 9, none⟩) hR (.int .i64 ((n + m.length : Nat) : Int)))
  have hnc : ((n + m.length : Nat) : Int) = (n : Int) + (m.length : Int) := by omega
  rw [hnc] at H1 HB1
  have HZ1 := Lib.hid HB1.out.size
  have HZ1 := Lib.hid (Nat.le_trans hB HZ1.out)
  have HLM := Lib.hid (show (bvals m).length = m.length * 1 by rw [bvals_len]; omega)
  have HNM := Lib.hid (show l.length + m.length ≤ 1099511627776 by omega)
  clear h hc hsrc
  go_enter Tryz.func73, Tryz.ntmps73
  go_wp2_with ((at_builtin; refine wpList_appw tyBytes rfl _ _ rfl B (.slice va l.length vc) l.length (bvals l) rfl H1.out.own HZ1.out (.slice ma m.length mc) m.length (bvals m) rfl (HSRC.out _) HLM.out (bvals_one _) HNM.out ?_; intro v' w2 hown2 hgrow2 hlies2; rw [bvals_append] at hown2; obtain ⟨ua, uc, rfl, hvc2⟩ := hown2.form; have ht2 := Touch.of_grown (S := fun q => (Value.slice va l.length vc).ownBlock = some q) hgrow2 (fun k hk => hk); have hbx2 := H1.out.box.touch ht2 (fun hq => H1.out.box.neOwn H1.out.own (by decide) _ hq rfl); have HX2 := Lib.hid hbx2; have HB2 := Lib.hid (HB1.out.trans (ht2.below (B := B) HZ1.out (fun q hq => (H1.out.own.lt q hq).1))); have HO2 := Lib.hid hown2; have f8b := hbx2.frz 8; have hz2 := hbx2.lt; have c8b : World.cell? _ ⟨R, 8, none⟩ = some (.slice va l.length vc) := hbx2.cell (i := 8) rfl; clear hown2 hgrow2 hlies2 ht2 hbx2))
  have HP := Lib.hid (show HashAt (w2.setCell ⟨R, 8, none⟩ (.slice ua (l.length + m.length) uc)) B R ⟨sa0, sb0, sc0, sd0, se0, sf0, sg0, sh0⟩ (.slice ua (l.length + m.length) uc) (l ++ m) (n + m.length) from ⟨hR, by have h9 := HX2.out.set 8 (.slice ua (l.length + m.length) uc); exact h9, own_setB (by rw [List.length_append]; exact HO2.out) HX2.out (by decide)⟩)
  have HBP := Lib.hid (HB2.out.setCell (p := ⟨R, 8, none⟩) hR (.slice ua (l.length + m.length) uc))
  have HCP := Lib.hid (HC.out.belowB HBP.out hg)
  have hlm : (l ++ m).length ≤ 2147483648 := by rw [List.length_append]; omega
  clear c0 c1 c2 c3 c4 c5 c6 c7 c8 c9 f8 f9 hz f8b hz2 c8b
  go_loopg [24] (l ++ m).length (fun gq _ wr => ∃ (s' : St) (v' : Value) (l' : Bs), Hid (l'.length ≤ gq) ∧ l'.length ≤ 2147483648 ∧ HashAt wr B R s' v' l' (n + m.length) ∧ Hid (runL mixM s' l' = runL mixM ⟨sa0, sb0, sc0, sd0, se0, sf0, sg0, sh0⟩ (l ++ m)) ∧ Below B w wr)
  case atStart => exact ⟨⟨sa0, sb0, sc0, sd0, se0, sf0, sg0, sh0⟩, _, l ++ m, Lib.hid (Nat.le_refl _), hlm, HP.out, Lib.hid rfl, HBP.out⟩
  case round =>
    obtain ⟨s', v', l', HQ, hlen, hh, HRUN, hbel⟩ := hrel
    clear HP HBP HCP
    have HH := Lib.hid hh
    have HBW := Lib.hid hbel
    have HCW := Lib.hid (HC.out.belowB hbel hg)
    obtain ⟨ka, kc, rfl, hkc⟩ := hh.own.form
    obtain ⟨sa, sb, sc, sd, se, sf, sg, sh⟩ := s'
    have c0 : World.cell? wr ⟨R, 0, none⟩ = some (.int .u32 sa) := (hh).box.cell (i := 0) rfl
    have c1 : World.cell? wr ⟨R, 1, none⟩ = some (.int .u32 sb) := (hh).box.cell (i := 1) rfl
    have c2 : World.cell? wr ⟨R, 2, none⟩ = some (.int .u32 sc) := (hh).box.cell (i := 2) rfl
    have c3 : World.cell? wr ⟨R, 3, none⟩ = some (.int .u32 sd) := (hh).box.cell (i := 3) rfl
    have c4 : World.cell? wr ⟨R, 4, none⟩ = some (.int .u32 se) := (hh).box.cell (i := 4) rfl
    have c5 : World.cell? wr ⟨R, 5, none⟩ = some (.int .u32 sf) := (hh).box.cell (i := 5) rfl
    have c6 : World.cell? wr ⟨R, 6, none⟩ = some (.int .u32 sg) := (hh).box.cell (i := 6) rfl
    have c7 : World.cell? wr ⟨R, 7, none⟩ = some (.int .u32 sh) := (hh).box.cell (i := 7) rfl
    have c8 : World.cell? wr ⟨R, 8, none⟩ = some (.slice ka l'.length kc) := (hh).box.cell (i := 8) rfl
    have c9 : World.cell? wr ⟨R, 9, none⟩ = some (.int .i64 ((n + m.length : Nat) : Int)) := (hh).box.cell (i := 9) rfl
    have hz := hh.box.lt
    clear hh hbel
    by_cases hge : 64 ≤ l'.length
    · obtain ⟨g, o, c, e', hnc2, hcm, hBg, hglt, _⟩ := HH.out.own.cells (by omega)
      cases e'
      have HBK := Lib.hid (own_blk HH.out.own rfl hge)
      have hgei : (64 : Int) ≤ (l'.length : Int) := by omega
      have hc64 : 64 ≤ kc := by omega
      have hc64i : (64 : Int) ≤ (kc : Int) := by omega
      obtain ⟨t, ht⟩ : ∃ t, mixM ⟨sa, sb, sc, sd, se, sf, sg, sh⟩ (l'.take 64) = t := ⟨_, rfl⟩
      have HT := Lib.hid ht
      clear ht
      obtain ⟨na, nb, nc, nd, ne, nf, ng, nh⟩ := t
      have hmix : Hid (∀ wz : World, Below wr.heap.size wr wz → Calls Tryz.prog 110 #[.agg #[.int .u32 sa, .int .u32 sb, .int .u32 sc, .int .u32 sd, .int .u32 se, .int .u32 sf, .int .u32 sg, .int .u32 sh], .slice (some ⟨g, o, none⟩) 64 kc] wz fun e w' => e = .returned (.agg #[.int .u32 na, .int .u32 nb, .int .u32 nc, .int .u32 nd, .int .u32 ne, .int .u32 nf, .int .u32 ng, .int .u32 nh]) ∧ Below wz.heap.size wz w') := Lib.hid (fun wz hb => by
        have h9 := mix_any (l'.take 64) ⟨sa, sb, sc, sd, se, sf, sg, sh⟩ g o kc wz ⟨HBK.out.len, Nat.lt_of_lt_of_le HBK.out.lt hb.size, fun i hi => (hb.cell (p := ⟨g, o + i, none⟩) HBK.out.lt).trans (HBK.out.cell i hi)⟩ (HCW.out.below hb)
        rw [HT.out] at h9
        exact h9)
      by_cases hcap : kc = 64
      · subst hcap
        have hl64 : l'.length = 64 := by omega
        go_wp2_with fail
        go_region_with ((go_at_call 110; refine (hmix.out _ (Below.refl _ _).drew).mono ?_; rintro e w4 ⟨rfl, hb4⟩; have hbw4 := ((Below.refl wr.heap.size wr).drew).trans hb4; have HH4 := Lib.hid (HH.out.older hbw4); have HB4 := Lib.hid (HBW.out.trans (hbw4.mono (Nat.le_trans hB HBW.out.size))); have hz4 := HH4.out.box.lt; have d0 : World.cell? w4 ⟨R, 0, none⟩ = some (.int .u32 sa) := (HH4.out).box.cell (i := 0) rfl; have d1 : World.cell? w4 ⟨R, 1, none⟩ = some (.int .u32 sb) := (HH4.out).box.cell (i := 1) rfl; have d2 : World.cell? w4 ⟨R, 2, none⟩ = some (.int .u32 sc) := (HH4.out).box.cell (i := 2) rfl; have d3 : World.cell? w4 ⟨R, 3, none⟩ = some (.int .u32 sd) := (HH4.out).box.cell (i := 3) rfl; have d4 : World.cell? w4 ⟨R, 4, none⟩ = some (.int .u32 se) := (HH4.out).box.cell (i := 4) rfl; have d5 : World.cell? w4 ⟨R, 5, none⟩ = some (.int .u32 sf) := (HH4.out).box.cell (i := 5) rfl; have d6 : World.cell? w4 ⟨R, 6, none⟩ = some (.int .u32 sg) := (HH4.out).box.cell (i := 6) rfl; have d7 : World.cell? w4 ⟨R, 7, none⟩ = some (.int .u32 sh) := (HH4.out).box.cell (i := 7) rfl; have d8 : World.cell? w4 ⟨R, 8, none⟩ = some (.slice (some ⟨g, o, none⟩) l'.length 64) := (HH4.out).box.cell (i := 8) rfl; have d9 : World.cell? w4 ⟨R, 9, none⟩ = some (.int .i64 ((n + m.length : Nat) : Int)) := (HH4.out).box.cell (i := 9) rfl; have g0 := HH4.out.box.frz 0; have g1 := HH4.out.box.frz 1; have g2 := HH4.out.box.frz 2; have g3 := HH4.out.box.frz 3; have g4 := HH4.out.box.frz 4; have g5 := HH4.out.box.frz 5; have g6 := HH4.out.box.frz 6; have g7 := HH4.out.box.frz 7; have g8 := HH4.out.box.frz 8; have g9 := HH4.out.box.frz 9; clear hb4 hbw4))
        all_goals
          go_wp2_with fail
          have HH5 := Lib.hid (HH4.out.setS ⟨na, nb, nc, nd, ne, nf, ng, nh⟩)
          have HB5 := Lib.hid (below_setS (s' := ⟨na, nb, nc, nd, ne, nf, ng, nh⟩) HB4.out hR)
          go_roundg (gk - 64)
          case rel => exact ⟨⟨na, nb, nc, nd, ne, nf, ng, nh⟩, (.slice (some ⟨g, o, none⟩) 0 0), l'.drop 64, Lib.hid (by have := HQ.out; rw [List.length_drop]; omega), by rw [List.length_drop]; omega, HH5.out.set8 (own_rest0 HH5.out.own (by omega)), Lib.hid ((runL_step hge HT.out).trans HRUN.out), HB5.out.setCell (p := ⟨R, 8, none⟩) hR _⟩
          case measure => have := HQ.out; omega
      · have hcapi : (64 : Int) < (kc : Int) := by omega
        have hcapn : 64 < kc := by omega
        go_wp2_with fail
        go_region_with ((go_at_call 110; refine (hmix.out _ (Below.refl _ _).drew).mono ?_; rintro e w4 ⟨rfl, hb4⟩; have hbw4 := ((Below.refl wr.heap.size wr).drew).trans hb4; have HH4 := Lib.hid (HH.out.older hbw4); have HB4 := Lib.hid (HBW.out.trans (hbw4.mono (Nat.le_trans hB HBW.out.size))); have hz4 := HH4.out.box.lt; have d0 : World.cell? w4 ⟨R, 0, none⟩ = some (.int .u32 sa) := (HH4.out).box.cell (i := 0) rfl; have d1 : World.cell? w4 ⟨R, 1, none⟩ = some (.int .u32 sb) := (HH4.out).box.cell (i := 1) rfl; have d2 : World.cell? w4 ⟨R, 2, none⟩ = some (.int .u32 sc) := (HH4.out).box.cell (i := 2) rfl; have d3 : World.cell? w4 ⟨R, 3, none⟩ = some (.int .u32 sd) := (HH4.out).box.cell (i := 3) rfl; have d4 : World.cell? w4 ⟨R, 4, none⟩ = some (.int .u32 se) := (HH4.out).box.cell (i := 4) rfl; have d5 : World.cell? w4 ⟨R, 5, none⟩ = some (.int .u32 sf) := (HH4.out).box.cell (i := 5) rfl; have d6 : World.cell? w4 ⟨R, 6, none⟩ = some (.int .u32 sg) := (HH4.out).box.cell (i := 6) rfl; have d7 : World.cell? w4 ⟨R, 7, none⟩ = some (.int .u32 sh) := (HH4.out).box.cell (i := 7) rfl; have d8 : World.cell? w4 ⟨R, 8, none⟩ = some (.slice (some ⟨g, o, none⟩) l'.length kc) := (HH4.out).box.cell (i := 8) rfl; have d9 : World.cell? w4 ⟨R, 9, none⟩ = some (.int .i64 ((n + m.length : Nat) : Int)) := (HH4.out).box.cell (i := 9) rfl; have g0 := HH4.out.box.frz 0; have g1 := HH4.out.box.frz 1; have g2 := HH4.out.box.frz 2; have g3 := HH4.out.box.frz 3; have g4 := HH4.out.box.frz 4; have g5 := HH4.out.box.frz 5; have g6 := HH4.out.box.frz 6; have g7 := HH4.out.box.frz 7; have g8 := HH4.out.box.frz 8; have g9 := HH4.out.box.frz 9; clear hb4 hbw4))
        all_goals
          go_wp2_with fail
          have HH5 := Lib.hid (HH4.out.setS ⟨na, nb, nc, nd, ne, nf, ng, nh⟩)
          have HB5 := Lib.hid (below_setS (s' := ⟨na, nb, nc, nd, ne, nf, ng, nh⟩) HB4.out hR)
          go_roundg (gk - 64)
          case rel => exact ⟨⟨na, nb, nc, nd, ne, nf, ng, nh⟩, (.slice (some ⟨g, o + 64, none⟩) (l'.length - 64) (kc - 64)), l'.drop 64, Lib.hid (by have := HQ.out; rw [List.length_drop]; omega), by rw [List.length_drop]; omega, HH5.out.set8 (own_rest HH5.out.own hge (by omega)), Lib.hid ((runL_step hge HT.out).trans HRUN.out), HB5.out.setCell (p := ⟨R, 8, none⟩) hR _⟩
          case measure => have := HQ.out; omega
    · have hgei : ¬ (64 : Int) ≤ (l'.length : Int) := by omega
      go_wp2_with fail
      go_end0
      have e := HRUN.out
      rw [runL_end hge] at e
      have hfin : HashAt wr B R (runL mixM ⟨sa0, sb0, sc0, sd0, se0, sf0, sg0, sh0⟩ (l ++ m)).1 (.slice ka l'.length kc) (runL mixM ⟨sa0, sb0, sc0, sd0, se0, sf0, sg0, sh0⟩ (l ++ m)).2 (n + m.length) := by rw [← e]; exact HH.out
      first
        | exact ⟨rfl, _, hfin, HBW.out⟩
        | exact ⟨rfl, ⟨_, hfin⟩, HBW.out⟩
        | exact ⟨rfl, HBW.out, _, hfin⟩
end Dg
end Go.Proofs.YtpmhkkjecapbeaaGreatDoor
end

