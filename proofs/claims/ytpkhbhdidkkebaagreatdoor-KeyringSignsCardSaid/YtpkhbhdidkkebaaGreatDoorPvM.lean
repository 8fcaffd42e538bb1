/- Contracts and plain facts that the statement's proof leans on (texts joined). No condition beyond those that each names. -/
import Derived.Deep.LoopGhost
import Derived.Test.YtpkhbhdidkkebaaGreatDoorPvC
import Derived.Test.YtpkhbhdidkkebaaGreatDoorPvH
import Derived.Test.YtpkhbhdidkkebaaGreatDoorPvL
section
namespace Go.Proofs.YtpkhbhdidkkebaaGreatDoor
open Go.RowKit Pl Ad Go.Shelf
attribute [local go_sem] ba_get ba_append ba_extract_end ba_extract_zero ba_extract conv_one
set_option maxRecDepth 100000
set_option maxHeartbeats 4000000
set_option linter.unusedVariables false
set_option linter.unusedSimpArgs false
namespace Sg
open Kr A1
theorem num_next {s : Bs} {k : Nat} (hk : k < s.length) : Ad.valOf (s.take (k + 1)) = 10 * Ad.valOf (s.take k) + (s[k].toNat - 48) := by
 rw [take_snoc hk, valOf_snoc]
theorem dig_next {s : Bs} {k : Nat} (hk : k < s.length) (h : (s.take k).all isDig = true) (h1 : 48 ≤ (s[k].toNat : Int)) (h2 : (s[k].toNat : Int) ≤ 57) : (s.take (k + 1)).all isDig = true := by
 rw [take_snoc hk, List.all_append, h]
 have a1 : 48 ≤ s[k].toNat := by omega
 have a2 : s[k].toNat ≤ 57 := by omega
 simp [isDig, a1, a2]
theorem numOk_bad {s : Bs} {k : Nat} (hk : k < s.length) (h : (s[k].toNat : Int) < 48 ∨ 57 < (s[k].toNat : Int) ∨ 12 < k) : numOk s = false := by
 unfold numOk
 rcases h with h | h | h
 ·rw [show s.all isDig = false from Bool.eq_false_iff.2 fun e => by
   have := List.all_eq_true.1 e _ (List.getElem_mem hk)
   simp only [isDig, Bool.and_eq_true, decide_eq_true_eq] at this; omega]; rfl
 ·rw [show s.all isDig = false from Bool.eq_false_iff.2 fun e => by
   have := List.all_eq_true.1 e _ (List.getElem_mem hk)
   simp only [isDig, Bool.and_eq_true, decide_eq_true_eq] at this; omega]; rfl
 ·rw [decide_eq_false (by omega), Bool.and_false]
theorem num_no {s : Bs} (h : numOk s = false) : numN s = 0 ∧ numB s = false := by
 unfold numN numB
 rw [h]
 exact ⟨rfl, rfl⟩
theorem number_any (s : Bs) (w : World) (hs : s.length ≤ 134217728) :
 Calls Tryz.prog 103 #[.string ⟨s.toArray⟩] w fun e w' => e = .returned (.tuple #[.int .i64 (numN s : Int), .bool (numB s)]) ∧ Below w.heap.size w w' := by
 go_enter Tryz.func103, Tryz.ntmps103
 go_wp2
 go_loopg [8, 4] s.length (fun gq iv nv wr => ∃ k n : Nat, wr = w ∧ k ≤ s.length ∧ iv = .int .i64 k ∧ nv = .int .i64 n ∧ Hid (s.length ≤ gq + k) ∧ k ≤ 13 ∧ Hid (Ad.valOf (s.take k) = n) ∧ Hid ((s.take k).all isDig = true) ∧ n < 10000000000000 ∧ Hid (n < 10 ^ k))
 case atStart => exact ⟨0, 0, rfl, Nat.zero_le _, rfl, rfl, Lib.hid (by omega), by omega, Lib.hid rfl, Lib.hid rfl, by omega, Lib.hid (by decide)⟩
 case round =>
  obtain ⟨k, n, rfl, hk, rfl, rfl, HQ, hk13, HV, HA, hn, HP⟩ := hrel
  by_cases hlt : k < s.length
  ·have hb := byte_lt s[k]
   by_cases hd : (48 ≤ (s[k].toNat : Int) ∧ (s[k].toNat : Int) ≤ 57) ∧ k ≤ 12
   ·obtain ⟨⟨hd1, hd2⟩, hd3⟩ := hd
    have HV2 := Lib.hid (show Ad.valOf (s.take (k + 1)) = 10 * n + (s[k].toNat - 48) by rw [num_next hlt, HV.out])
    have HA2 := Lib.hid (dig_next hlt HA.out hd1 hd2)
    have HP2 := Lib.hid (show 10 * n + (s[k].toNat - 48) < 10 ^ (k + 1) by have := HP.out; rw [Nat.pow_succ]; omega)
    have HP3 := Lib.hid (show n < 1000000000000 from Nat.lt_of_lt_of_le HP.out (Nat.pow_le_pow_right (by omega) hd3))
    have hn12 : n < 1000000000000 := HP3.out
    go_wp2
    go_roundg (gk - 1)
    case rel => exact ⟨k + 1, 10 * n + (s[k].toNat - 48), rfl, by omega, by go_num, by go_num, Lib.hid (by have := HQ.out; omega), by omega, HV2, HA2, by have := hd2; omega, HP2⟩
    case measure => have := HQ.out; omega
   ·have HN := Lib.hid (num_no (numOk_bad hlt (show (s[k].toNat : Int) < 48 ∨ 57 < (s[k].toNat : Int) ∨ 12 < k by omega)))
    by_cases h1 : 48 ≤ (s[k].toNat : Int)
    ·by_cases h2 : (s[k].toNat : Int) ≤ 57
     ·have h3 : (12 : Int) < (k : Int) := by omega
      clear hd
      go_wp2
      go_ret2
      exact ⟨by rw [HN.out.1, HN.out.2]; rfl, Below.refl _ _⟩
     ·clear hd
      go_wp2
      go_ret2
      exact ⟨by rw [HN.out.1, HN.out.2]; rfl, Below.refl _ _⟩
    ·clear hd
     go_wp2
     go_ret2
     exact ⟨by rw [HN.out.1, HN.out.2]; rfl, Below.refl _ _⟩
  ·obtain rfl : k = s.length := by omega
   have HV9 := Lib.hid (show Ad.valOf s = n by rw [← HV.out, List.take_length])
   have HOK := Lib.hid (show numOk s = true by unfold numOk; have := HA.out; rw [List.take_length] at this; rw [this, decide_eq_true hk13]; rfl)
   have HNN := Lib.hid (show numN s = n by unfold numN; rw [if_pos HOK.out, HV9.out])
   by_cases he : s = []
   ·subst he
    go_wp2
    go_ret2
    exact ⟨by rw [HNN.out]; rfl, Below.refl _ _⟩
   ·have hq2 : s.isEmpty = false := by simpa using he
    have hq3 : (s == []) = false := by simpa using he
    obtain ⟨dd, hdd⟩ : ∃ dd, Lib.decDigits n = dd := ⟨_, rfl⟩
    have HDD := Lib.hid hdd
    have HBB := Lib.hid (show numB s = (s == dd) by unfold numB; rw [HOK.out, hq2, HV9.out, hdd]; rfl)
    clear hdd he
    go_wp2_with (go_at_call 98; refine (text09_any n _ (by omega)).mono ?_; rw [HDD.out]; rintro e w2 ⟨rfl, hb2⟩)
    go_ret2
    exact ⟨by rw [HNN.out, HBB.out]; rfl, hb2⟩
/-- The reference's parts: does a name stand there. -/
def resB (a : Adr) : Bool := a.has && !plainQ a.query
def hasN (q : Bs) (b : Bool) (n : Bs) : Bool := (argL q n b).isSome
theorem res_of (q : Bs) (b : Bool) : (b && !plainQ q) = (hasN q b [113, 107] || hasN q b [113, 102] || hasN q b [113, 117] || hasN q b [113, 115]) := by
 cases b
 ·simp [hasN, argL_off]
 ·rw [Bool.true_and, ← arg_tok]; rfl
/-- Within reserved. -/
structure RsS (w0 w : World) (h p q : Bs) (b : Bool) : Prop where
 bel : Below w0.heap.size w0 w
 ab : Bx w w0.heap.size 63 #[.string ⟨h.toArray⟩, .string ⟨p.toArray⟩, .string ⟨q.toArray⟩, .bool b]
 nb : Bx w (w0.heap.size + 1) 9 #[.string ⟨#[113, 107]⟩, .string ⟨#[113, 102]⟩, .string ⟨#[113, 117]⟩, .string ⟨#[113, 115]⟩]
theorem RsS.older {w0 w w' : World} {h p q : Bs} {b : Bool} (hm : RsS w0 w h p q b) (hb : Below w.heap.size w w') : RsS w0 w' h p q b :=
 ⟨hm.bel.trans (hb.mono hm.bel.size), hm.ab.older hb, hm.nb.older hb⟩
theorem reserved_any (a : Adr) (w : World) (hq : a.query.length ≤ 134217728) :
 Calls Tryz.prog 68 #[adV a] w fun e w' => e = .returned (.bool (resB a)) ∧ Below w.heap.size w w' := by
 obtain ⟨h, p, q, b⟩ := a
 simp only at hq
 have HRES := Lib.hid (show resB ⟨h, p, q, b⟩ = (hasN q b [113, 107] || hasN q b [113, 102] || hasN q b [113, 117] || hasN q b [113, 115]) from res_of q b)
 have HS0 := Lib.hid (show RsS w ((w.alloc (.cells #[.string ⟨h.toArray⟩, .string ⟨p.toArray⟩, .string ⟨q.toArray⟩, .bool b] 63)).alloc (.cells #[.string ⟨#[113, 107]⟩, .string ⟨#[113, 102]⟩, .string ⟨#[113, 117]⟩, .string ⟨#[113, 115]⟩] 9)) h p q b from
   ⟨((Below.refl _ _).alloc (Nat.le_refl _) _).alloc (by simp) _, (Bx.new w _ _).older ((Below.refl _ _).alloc (Nat.le_refl _) _),
    by have h9 := Bx.new (w.alloc (.cells #[.string ⟨h.toArray⟩, .string ⟨p.toArray⟩, .string ⟨q.toArray⟩, .bool b] 63)) 9 #[.string ⟨#[113, 107]⟩, .string ⟨#[113, 102]⟩, .string ⟨#[113, 117]⟩, .string ⟨#[113, 115]⟩]; rw [show (w.alloc (.cells #[.string ⟨h.toArray⟩, .string ⟨p.toArray⟩, .string ⟨q.toArray⟩, .bool b] 63)).heap.size = w.heap.size + 1 by simp] at h9; exact h9⟩)
 go_enter Tryz.func68, Tryz.ntmps68
 go_wp2_with fail
 go_loopg [9] 4 (fun gq iv wr => ∃ (k : Nat) (i : Int), i = k ∧ k ≤ 4 ∧ Hid (4 ≤ gq + k) ∧ iv = .int .i64 i ∧ Hid ((1 ≤ k → hasN q b [113, 107] = false) ∧ (2 ≤ k → hasN q b [113, 102] = false) ∧ (3 ≤ k → hasN q b [113, 117] = false) ∧ (4 ≤ k → hasN q b [113, 115] = false)) ∧ RsS w wr h p q b)
 case atStart => exact ⟨0, 0, rfl, Nat.zero_le _, Lib.hid (by omega), rfl, Lib.hid ⟨fun h => absurd h (by omega), fun h => absurd h (by omega), fun h => absurd h (by omega), fun h => absurd h (by omega)⟩, HS0.out⟩
 case round =>
  obtain ⟨k, i, hki, hk4, HQ, rfl, HB, hm⟩ := hrel
  clear HS0
  have HM := Lib.hid hm
  have a0 := hm.ab.cell (i := 0) rfl
  have a1 := hm.ab.cell (i := 1) rfl
  have a2 := hm.ab.cell (i := 2) rfl
  have a3 := hm.ab.cell (i := 3) rfl
  have n0 := hm.nb.cell (i := 0) rfl
  have n1 := hm.nb.cell (i := 1) rfl
  have n2 := hm.nb.cell (i := 2) rfl
  have n3 := hm.nb.cell (i := 3) rfl
  have hz := hm.nb.lt
  clear hm
  rcases (show (k = 0 ∧ i = 0) ∨ (k = 1 ∧ i = 1) ∨ (k = 2 ∧ i = 2) ∨ (k = 3 ∧ i = 3) ∨ (k = 4 ∧ i = 4) by omega) with ⟨rfl, rfl⟩ | ⟨rfl, rfl⟩ | ⟨rfl, rfl⟩ | ⟨rfl, rfl⟩ | ⟨rfl, rfl⟩
  ·clear hk4 hki
   cases hf : hasN q b [113, 107] with
   | true =>
     obtain ⟨v, hv⟩ := Option.isSome_iff_exists.1 hf
     have HV := Lib.hid (show argV (argL q [113, 107] b) = .tuple #[.string ⟨v.toArray⟩, .bool true] by rw [hv]; rfl)
     have HR := Lib.hid (show resB ⟨h, p, q, b⟩ = true by rw [HRES.out, hf]; simp)
     clear hf hv
     go_wp2_with (go_at_call 97; refine (refArg_any h p q [113, 107] b _ (by omega) (by decide)).mono ?_; rw [HV.out]; rintro e w2 ⟨rfl, hb2⟩; have HM2 := Lib.hid (HM.out.older hb2); clear hb2)
     go_ret
     exact ⟨ret_bool HR.out.symm, HM2.out.bel⟩
   | false =>
     have HV := Lib.hid (show argV (argL q [113, 107] b) = .tuple #[.string ⟨#[]⟩, .bool false] by rw [show argL q [113, 107] b = none from Option.isNone_iff_eq_none.1 (by unfold hasN at hf; simpa using hf)]; rfl)
     have HF := Lib.hid hf
     clear hf
     go_wp2_with (go_at_call 97; refine (refArg_any h p q [113, 107] b _ (by omega) (by decide)).mono ?_; rw [HV.out]; rintro e w2 ⟨rfl, hb2⟩; have HM2 := Lib.hid (HM.out.older hb2); clear hb2)
     go_roundg (gk - 1)
     case rel => exact ⟨1, 1, rfl, by omega, Lib.hid (by have := HQ.out; omega), by go_num, Lib.hid ⟨fun _ => HF.out, fun h => absurd h (by omega), fun h => absurd h (by omega), fun h => absurd h (by omega)⟩, HM2.out⟩
     case measure => have := HQ.out; omega
  ·clear hk4 hki
   cases hf : hasN q b [113, 102] with
   | true =>
     obtain ⟨v, hv⟩ := Option.isSome_iff_exists.1 hf
     have HV := Lib.hid (show argV (argL q [113, 102] b) = .tuple #[.string ⟨v.toArray⟩, .bool true] by rw [hv]; rfl)
     have HR := Lib.hid (show resB ⟨h, p, q, b⟩ = true by rw [HRES.out, hf]; simp)
     clear hf hv
     go_wp2_with (go_at_call 97; refine (refArg_any h p q [113, 102] b _ (by omega) (by decide)).mono ?_; rw [HV.out]; rintro e w2 ⟨rfl, hb2⟩; have HM2 := Lib.hid (HM.out.older hb2); clear hb2)
     go_ret
     exact ⟨ret_bool HR.out.symm, HM2.out.bel⟩
   | false =>
     have HV := Lib.hid (show argV (argL q [113, 102] b) = .tuple #[.string ⟨#[]⟩, .bool false] by rw [show argL q [113, 102] b = none from Option.isNone_iff_eq_none.1 (by unfold hasN at hf; simpa using hf)]; rfl)
     have HF := Lib.hid hf
     clear hf
     go_wp2_with (go_at_call 97; refine (refArg_any h p q [113, 102] b _ (by omega) (by decide)).mono ?_; rw [HV.out]; rintro e w2 ⟨rfl, hb2⟩; have HM2 := Lib.hid (HM.out.older hb2); clear hb2)
     go_roundg (gk - 1)
     case rel => exact ⟨2, 2, rfl, by omega, Lib.hid (by have := HQ.out; omega), by go_num, Lib.hid ⟨fun _ => HB.out.1 (by omega), fun _ => HF.out, fun h => absurd h (by omega), fun h => absurd h (by omega)⟩, HM2.out⟩
     case measure => have := HQ.out; omega
  ·clear hk4 hki
   cases hf : hasN q b [113, 117] with
   | true =>
     obtain ⟨v, hv⟩ := Option.isSome_iff_exists.1 hf
     have HV := Lib.hid (show argV (argL q [113, 117] b) = .tuple #[.string ⟨v.toArray⟩, .bool true] by rw [hv]; rfl)
     have HR := Lib.hid (show resB ⟨h, p, q, b⟩ = true by rw [HRES.out, hf]; simp)
     clear hf hv
     go_wp2_with (go_at_call 97; refine (refArg_any h p q [113, 117] b _ (by omega) (by decide)).mono ?_; rw [HV.out]; rintro e w2 ⟨rfl, hb2⟩; have HM2 := Lib.hid (HM.out.older hb2); clear hb2)
     go_ret
     exact ⟨ret_bool HR.out.symm, HM2.out.bel⟩
   | false =>
     have HV := Lib.hid (show argV (argL q [113, 117] b) = .tuple #[.string ⟨#[]⟩, .bool false] by rw [show argL q [113, 117] b = none from Option.isNone_iff_eq_none.1 (by unfold hasN at hf; simpa using hf)]; rfl)
     have HF := Lib.hid hf
     clear hf
     go_wp2_with (go_at_call 97; refine (refArg_any h p q [113, 117] b _ (by omega) (by decide)).mono ?_; rw [HV.out]; rintro e w2 ⟨rfl, hb2⟩; have HM2 := Lib.hid (HM.out.older hb2); clear hb2)
     go_roundg (gk - 1)
     case rel => exact ⟨3, 3, rfl, by omega, Lib.hid (by have := HQ.out; omega), by go_num, Lib.hid ⟨fun _ => HB.out.1 (by omega), fun _ => HB.out.2.1 (by omega), fun _ => HF.out, fun h => absurd h (by omega)⟩, HM2.out⟩
     case measure => have := HQ.out; omega
  ·clear hk4 hki
   cases hf : hasN q b [113, 115] with
   | true =>
     obtain ⟨v, hv⟩ := Option.isSome_iff_exists.1 hf
     have HV := Lib.hid (show argV (argL q [113, 115] b) = .tuple #[.string ⟨v.toArray⟩, .bool true] by rw [hv]; rfl)
     have HR := Lib.hid (show resB ⟨h, p, q, b⟩ = true by rw [HRES.out, hf]; simp)
     clear hf hv
     go_wp2_with (go_at_call 97; refine (refArg_any h p q [113, 115] b _ (by omega) (by decide)).mono ?_; rw [HV.out]; rintro e w2 ⟨rfl, hb2⟩; have HM2 := Lib.hid (HM.out.older hb2); clear hb2)
     go_ret
     exact ⟨ret_bool HR.out.symm, HM2.out.bel⟩
   | false =>
     have HV := Lib.hid (show argV (argL q [113, 115] b) = .tuple #[.string ⟨#[]⟩, .bool false] by rw [show argL q [113, 115] b = none from Option.isNone_iff_eq_none.1 (by unfold hasN at hf; simpa using hf)]; rfl)
     have HF := Lib.hid hf
     clear hf
     go_wp2_with (go_at_call 97; refine (refArg_any h p q [113, 115] b _ (by omega) (by decide)).mono ?_; rw [HV.out]; rintro e w2 ⟨rfl, hb2⟩; have HM2 := Lib.hid (HM.out.older hb2); clear hb2)
     go_roundg (gk - 1)
     case rel => exact ⟨4, 4, rfl, by omega, Lib.hid (by have := HQ.out; omega), by go_num, Lib.hid ⟨fun _ => HB.out.1 (by omega), fun _ => HB.out.2.1 (by omega), fun _ => HB.out.2.2.1 (by omega), fun _ => HF.out⟩, HM2.out⟩
     case measure => have := HQ.out; omega
  ·clear hk4 hki
   have HR := Lib.hid (show resB ⟨h, p, q, b⟩ = false by rw [HRES.out, HB.out.1 (by omega), HB.out.2.1 (by omega), HB.out.2.2.1 (by omega), HB.out.2.2.2 (by omega)]; rfl)
   go_wp2_with fail
   go_ret
   exact ⟨ret_bool HR.out.symm, HM.out.bel⟩
def begs (p x : Bs) : Bool := Lib.hasPrefix x p
theorem isTok_of (x : Bs) : isTok x = (begs [113, 107, 61] x || begs [113, 102, 61] x || begs [113, 117, 61] x || begs [113, 115, 61] x) := rfl
theorem plainQ_next {xs : List Bs} {k : Nat} (hk : k < xs.length) (h : ((xs.take k).all fun x => !isTok x) = true) (h2 : isTok xs[k] = false) : ((xs.take (k + 1)).all fun x => !isTok x) = true := by
 rw [take_snoc hk, List.all_append, h]; simp [h2]
theorem plainQ_bad {xs : List Bs} {k : Nat} (hk : k < xs.length) (h2 : isTok xs[k] = true) : (xs.all fun x => !isTok x) = false :=
 Bool.eq_false_iff.2 fun e => by
  have := List.all_eq_true.1 e _ (List.getElem_mem hk)
  simp [h2] at this
/-- Within plain: the address' cells and the query's parts. -/
structure PlS (w0 w : World) (bb : Nat) (xs : List Bs) : Prop where
 bel : Below w0.heap.size w0 w
 lt : bb < w.heap.size
 cells : CellsAt w bb 0 xs
theorem PlS.older {w0 w w' : World} {bb : Nat} {xs : List Bs} (h : PlS w0 w bb xs) (hb : Below w.heap.size w w') : PlS w0 w' bb xs :=
 ⟨h.bel.trans (hb.mono h.bel.size), Nat.lt_of_lt_of_le h.lt hb.size, h.cells.below hb h.lt⟩
def pfx : Array Value := #[.string ⟨#[113, 107, 61]⟩, .string ⟨#[113, 102, 61]⟩, .string ⟨#[113, 117, 61]⟩, .string ⟨#[113, 115, 61]⟩]
theorem prefixes_any (w : World) : Calls Tryz.prog 55 #[] w fun e w' => e = .returned (.slice (some ⟨w.heap.size, 0, none⟩) 4 4) ∧ Bx w' w.heap.size 9 pfx ∧ Below w.heap.size w w' := by
 go_enter Tryz.func55, Tryz.ntmps55
 go_wp2
 go_ret
 exact ⟨rfl, Bx.new w _ _, (Below.refl _ _).alloc (Nat.le_refl _) _⟩
theorem plain_any (a : Adr) (w : World) (hr : Ready w) (hq : a.query.length ≤ 134217728) :
 Calls Tryz.prog 87 #[adV a] w fun e w' => e = .returned (.bool (plainQ a.query)) ∧ Below w.heap.size w w' := by
 obtain ⟨h, p, q, b⟩ := a
 simp only at hq
 have HBZ := Lib.hid ((Below.refl w.heap.size w).alloc (Nat.le_refl _) (.cells #[.string ⟨h.toArray⟩, .string ⟨p.toArray⟩, .string ⟨q.toArray⟩, .bool b] 27))
 have HRD := Lib.hid (hr.below HBZ.out)
 have HLN := Lib.hid (splitOn_count 38 q)
 have HPQ := Lib.hid (show plainQ q = (splitOn 38 q).all fun x => !isTok x from rfl)
 clear hr
 go_enter Tryz.func87, Tryz.ntmps87
 go_wp2_with fail
 refine (split_any q 38 _ (by omega) HRD.out).mono ?_
 rintro e w1 ⟨bb, c, rfl, hcap, hwb, hbw, hcells, hb1⟩
 generalize hxs : splitOn 38 q = xs at hcells hcap
 have HS0 := Lib.hid (show PlS w w1 bb xs from ⟨HBZ.out.trans (hb1.mono (by simp)), hbw, hcells⟩)
 have HXS := Lib.hid hxs
 clear hb1 hxs hcells hwb hbw HBZ
 have hln : xs.length ≤ q.length + 1 := by rw [← HXS.out]; exact HLN.out
 go_wp2_with fail
 go_loopg [11] xs.length (fun gq iv wr => ∃ k : Nat, k ≤ xs.length ∧ Hid (xs.length ≤ gq + k) ∧ iv = .int .i64 k ∧ Hid (((xs.take k).all fun x => !isTok x) = true) ∧ PlS w wr bb xs)
 case atStart => exact ⟨0, Nat.zero_le _, Lib.hid (by omega), rfl, Lib.hid rfl, HS0.out⟩
 case round =>
  obtain ⟨k, hk, HQ, rfl, HA, hm⟩ := hrel
  clear HS0
  have HM := Lib.hid hm
  by_cases hlt : k < xs.length
  ·have hc0 := hm.cells k xs[k] (by simp [hlt])
   rw [Nat.zero_add] at hc0
   have hzb := hm.lt
   have HNX := Lib.hid (fun h => plainQ_next hlt HA.out h)
   have HBD := Lib.hid (fun h => plainQ_bad hlt h)
   generalize hx : xs[k] = x at hc0 HNX HBD
   clear hx hm
   go_wp2_with (go_at_call 55; refine (prefixes_any _).mono ?_; rintro e w2 ⟨rfl, hbx, hb2⟩; have HM2 := Lib.hid (HM.out.older hb2); have HBX := Lib.hid hbx; have n0 := hbx.cell (i := 0) rfl; have n1 := hbx.cell (i := 1) rfl; have n2 := hbx.cell (i := 2) rfl; have n3 := hbx.cell (i := 3) rfl; have hz := hbx.lt; clear hb2 hbx hc0)
   obtain ⟨gA, hgA⟩ : ∃ g, g = gk := ⟨gk, rfl⟩
   go_loopg [17] 4 (fun gp iv wq => ∃ (j : Nat) (i : Int), wq = w2 ∧ i = j ∧ j ≤ 4 ∧ Hid (4 ≤ gp + j) ∧ iv = .int .i64 i ∧ Hid ((1 ≤ j → begs [113, 107, 61] x = false) ∧ (2 ≤ j → begs [113, 102, 61] x = false) ∧ (3 ≤ j → begs [113, 117, 61] x = false) ∧ (4 ≤ j → begs [113, 115, 61] x = false)))
   case atStart => exact ⟨0, 0, rfl, rfl, Nat.zero_le _, Lib.hid (by omega), rfl, Lib.hid ⟨fun h => absurd h (by omega), fun h => absurd h (by omega), fun h => absurd h (by omega), fun h => absurd h (by omega)⟩⟩
   case round =>
    obtain ⟨j, i, rfl, hki, hk4, HP, rfl, HB⟩ := hrel
    rcases (show (j = 0 ∧ i = 0) ∨ (j = 1 ∧ i = 1) ∨ (j = 2 ∧ i = 2) ∨ (j = 3 ∧ i = 3) ∨ (j = 4 ∧ i = 4) by omega) with ⟨rfl, rfl⟩ | ⟨rfl, rfl⟩ | ⟨rfl, rfl⟩ | ⟨rfl, rfl⟩ | ⟨rfl, rfl⟩
    ·clear hk4 hki
     cases hf : begs [113, 107, 61] x with
     | true =>
       have HV := Lib.hid (show Lib.hasPrefix x [113, 107, 61] = true from hf)
       have HR := Lib.hid (show plainQ q = false by rw [HPQ.out, HXS.out]; exact HBD.out (by rw [isTok_of, hf]; simp))
       clear hf
       go_wp2_with (go_at_call 125; refine (hasPrefix_any x [113, 107, 61] _).mono ?_; rw [HV.out]; rintro e w3 ⟨rfl, rfl⟩)
       go_ret
       exact ⟨ret_bool HR.out.symm, HM2.out.bel⟩
     | false =>
       have HV := Lib.hid (show Lib.hasPrefix x [113, 107, 61] = false from hf)
       have HF := Lib.hid hf
       clear hf
       go_wp2_with (go_at_call 125; refine (hasPrefix_any x [113, 107, 61] _).mono ?_; rw [HV.out]; rintro e w3 ⟨rfl, rfl⟩)
       go_roundg (gk - 1)
       case rel => exact ⟨1, 1, rfl, rfl, by omega, Lib.hid (by have := HP.out; omega), by go_num, Lib.hid ⟨fun _ => HF.out, fun h => absurd h (by omega), fun h => absurd h (by omega), fun h => absurd h (by omega)⟩⟩
       case measure => have := HP.out; omega
    ·clear hk4 hki
     cases hf : begs [113, 102, 61] x with
     | true =>
       have HV := Lib.hid (show Lib.hasPrefix x [113, 102, 61] = true from hf)
       have HR := Lib.hid (show plainQ q = false by rw [HPQ.out, HXS.out]; exact HBD.out (by rw [isTok_of, hf]; simp))
       clear hf
       go_wp2_with (go_at_call 125; refine (hasPrefix_any x [113, 102, 61] _).mono ?_; rw [HV.out]; rintro e w3 ⟨rfl, rfl⟩)
       go_ret
       exact ⟨ret_bool HR.out.symm, HM2.out.bel⟩
     | false =>
       have HV := Lib.hid (show Lib.hasPrefix x [113, 102, 61] = false from hf)
       have HF := Lib.hid hf
       clear hf
       go_wp2_with (go_at_call 125; refine (hasPrefix_any x [113, 102, 61] _).mono ?_; rw [HV.out]; rintro e w3 ⟨rfl, rfl⟩)
       go_roundg (gk - 1)
       case rel => exact ⟨2, 2, rfl, rfl, by omega, Lib.hid (by have := HP.out; omega), by go_num, Lib.hid ⟨fun _ => HB.out.1 (by omega), fun _ => HF.out, fun h => absurd h (by omega), fun h => absurd h (by omega)⟩⟩
       case measure => have := HP.out; omega
    ·clear hk4 hki
     cases hf : begs [113, 117, 61] x with
     | true =>
       have HV := Lib.hid (show Lib.hasPrefix x [113, 117, 61] = true from hf)
       have HR := Lib.hid (show plainQ q = false by rw [HPQ.out, HXS.out]; exact HBD.out (by rw [isTok_of, hf]; simp))
       clear hf
       go_wp2_with (go_at_call 125; refine (hasPrefix_any x [113, 117, 61] _).mono ?_; rw [HV.out]; rintro e w3 ⟨rfl, rfl⟩)
       go_ret
       exact ⟨ret_bool HR.out.symm, HM2.out.bel⟩
     | false =>
       have HV := Lib.hid (show Lib.hasPrefix x [113, 117, 61] = false from hf)
       have HF := Lib.hid hf
       clear hf
       go_wp2_with (go_at_call 125; refine (hasPrefix_any x [113, 117, 61] _).mono ?_; rw [HV.out]; rintro e w3 ⟨rfl, rfl⟩)
       go_roundg (gk - 1)
       case rel => exact ⟨3, 3, rfl, rfl, by omega, Lib.hid (by have := HP.out; omega), by go_num, Lib.hid ⟨fun _ => HB.out.1 (by omega), fun _ => HB.out.2.1 (by omega), fun _ => HF.out, fun h => absurd h (by omega)⟩⟩
       case measure => have := HP.out; omega
    ·clear hk4 hki
     cases hf : begs [113, 115, 61] x with
     | true =>
       have HV := Lib.hid (show Lib.hasPrefix x [113, 115, 61] = true from hf)
       have HR := Lib.hid (show plainQ q = false by rw [HPQ.out, HXS.out]; exact HBD.out (by rw [isTok_of, hf]; simp))
       clear hf
       go_wp2_with (go_at_call 125; refine (hasPrefix_any x [113, 115, 61] _).mono ?_; rw [HV.out]; rintro e w3 ⟨rfl, rfl⟩)
       go_ret
       exact ⟨ret_bool HR.out.symm, HM2.out.bel⟩
     | false =>
       have HV := Lib.hid (show Lib.hasPrefix x [113, 115, 61] = false from hf)
       have HF := Lib.hid hf
       clear hf
       go_wp2_with (go_at_call 125; refine (hasPrefix_any x [113, 115, 61] _).mono ?_; rw [HV.out]; rintro e w3 ⟨rfl, rfl⟩)
       go_roundg (gk - 1)
       case rel => exact ⟨4, 4, rfl, rfl, by omega, Lib.hid (by have := HP.out; omega), by go_num, Lib.hid ⟨fun _ => HB.out.1 (by omega), fun _ => HB.out.2.1 (by omega), fun _ => HB.out.2.2.1 (by omega), fun _ => HF.out⟩⟩
       case measure => have := HP.out; omega
    ·clear hk4 hki
     have HT := Lib.hid (show isTok x = false by rw [isTok_of, HB.out.1 (by omega), HB.out.2.1 (by omega), HB.out.2.2.1 (by omega), HB.out.2.2.2 (by omega)]; rfl)
     go_wp2_with fail
     go_roundg (gA - 1)
     case rel => exact ⟨k + 1, by omega, Lib.hid (by have := HQ.out; omega), by go_num, Lib.hid (HNX.out HT.out), HM2.out⟩
     case measure => have := HQ.out; omega
  ·have HR := Lib.hid (show plainQ q = true by rw [HPQ.out, HXS.out]; have h9 := HA.out; rw [List.take_of_length_le (by omega)] at h9; exact h9)
   go_wp2_with fail
   go_ret
   exact ⟨ret_bool HR.out.symm, HM.out.bel⟩
end Sg
end Go.Proofs.YtpkhbhdidkkebaaGreatDoor
end

section
namespace Go.Proofs.YtpkhbhdidkkebaaGreatDoor
open Go.RowKit Pl Ad
attribute [local go_sem] ba_get conv_one conv_one_drewN ba_append ba_extract
set_option maxRecDepth 100000
set_option maxHeartbeats 4000000
set_option linter.unusedVariables false
namespace A1
attribute [local go_sem] parseV_ok parseV_err codeOf_ok codeOf_err
theorem valid_any (a : Adr) (w : World) (hr : Ready w) (h1 : a.host.length ≤ 134217728) (h2 : a.path.length ≤ 134217728) (h3 : a.query.length ≤ 134217728) :
 Calls Tryz.prog 53 #[adV a] w fun e w' => e = .returned (.bool (valid a)) ∧ Below w.heap.size w w' := by
 obtain ⟨h, p, q, b⟩ := a
 simp only at h1 h2 h3
 have HBX := Lib.hid (box_new w 27 (.string ⟨h.toArray⟩) (.string ⟨p.toArray⟩) (.string ⟨q.toArray⟩) (.bool b))
 have hbz := (Below.refl w.heap.size w).alloc (Nat.le_refl _) (.cells #[.string ⟨h.toArray⟩, .string ⟨p.toArray⟩, .string ⟨q.toArray⟩, .bool b] 27)
 have HRD := Lib.hid (hr.below hbz)
 have HBZ := Lib.hid hbz
 clear hr hbz
 cases b
 ·by_cases hq : q = []
  ·subst hq
   cases hp : parse h (p) with
   | error n =>
     have HV := Lib.hid (valid_err ⟨h, p, [], false⟩ n (by simpa [Adr.target] using hp))
     have HP := Lib.hid hp
     clear hp
     go_enter Tryz.func53, Tryz.ntmps53
     go_wp2_with fail
     refine (parse_err _ (by omega) (by first | omega | (simp; omega)) HRD.out HP.out).mono ?_
     rintro e w1 ⟨rfl, hb1⟩
     go_wp2_with fail
     go_ret
     exact ⟨ret_bool HV.out.symm, (HBZ.out.trans (hb1.mono (by simp))).alloc (by have := hb1.size; simp at this; omega) _⟩
   | ok c =>
     have HV := Lib.hid (valid_eq ⟨h, p, [], false⟩ c (.inr rfl) (by simpa [Adr.target] using hp))
     have HP := Lib.hid hp
     clear hp
     obtain ⟨h', p', q', b'⟩ := c
     go_enter Tryz.func53, Tryz.ntmps53
     go_wp2_with fail
     refine (parse_ok _ (by omega) (by first | omega | (simp; omega)) HRD.out HP.out).mono ?_
     rintro e w1 ⟨rfl, hb1⟩
     obtain ⟨⟨c0, c1, c2, c3⟩, _, hsz⟩ := (HBX.out.below hb1 (by simp)).facts
     go_wp2_with fail
     all_goals
       go_ret
       exact ⟨ret_bool (by rw [HV.out]; simp [*]), (HBZ.out.trans (hb1.mono (by simp))).alloc (by have := hb1.size; simp at this; omega) _⟩
  ·have HV := Lib.hid (valid_noq ⟨h, p, q, false⟩ rfl hq)
   have hq2 : q.isEmpty = false := by simpa using hq
   have hq3 : (q == []) = false := by simpa using hq
   clear hq
   go_enter Tryz.func53, Tryz.ntmps53
   go_wp2_with fail
   go_ret
   exact ⟨ret_bool HV.out.symm, HBZ.out⟩
 ·skip
  cases hp : parse h (p ++ 63 :: q) with
  | error n =>
    have HV := Lib.hid (valid_err ⟨h, p, q, true⟩ n (by simpa [Adr.target] using hp))
    have HP := Lib.hid hp
    clear hp
    go_enter Tryz.func53, Tryz.ntmps53
    go_wp2_with fail
    refine (parse_err _ (by omega) (by first | omega | (simp; omega)) HRD.out HP.out).mono ?_
    rintro e w1 ⟨rfl, hb1⟩
    go_wp2_with fail
    go_ret
    exact ⟨ret_bool HV.out.symm, (HBZ.out.trans (hb1.mono (by simp))).alloc (by have := hb1.size; simp at this; omega) _⟩
  | ok c =>
    have HV := Lib.hid (valid_eq ⟨h, p, q, true⟩ c (.inl rfl) (by simpa [Adr.target] using hp))
    have HP := Lib.hid hp
    clear hp
    obtain ⟨h', p', q', b'⟩ := c
    go_enter Tryz.func53, Tryz.ntmps53
    go_wp2_with fail
    refine (parse_ok _ (by omega) (by first | omega | (simp; omega)) HRD.out HP.out).mono ?_
    rintro e w1 ⟨rfl, hb1⟩
    obtain ⟨⟨c0, c1, c2, c3⟩, _, hsz⟩ := (HBX.out.below hb1 (by simp)).facts
    go_wp2_with fail
    all_goals
      go_ret
      exact ⟨ret_bool (by rw [HV.out]; simp [*]), (HBZ.out.trans (hb1.mono (by simp))).alloc (by have := hb1.size; simp at this; omega) _⟩

theorem refValid_any (a : Adr) (w : World) (h1 : a.host.length ≤ 134217728) (h2 : a.path.length ≤ 134217728) (h3 : a.query.length ≤ 134217728) :
 Calls Tryz.prog 67 #[adV a] w fun e w' => e = .returned (.bool (valid a)) ∧ Below w.heap.size w w' := by
 obtain ⟨h, p, q, b⟩ := a
 simp only at h1 h2 h3
 have HN : Hid (∀ (t : Bs) (n : Int), parse h t = .error n → ¬ n = 0) := fun t n hp => parse_code hp
 have HBX := Lib.hid (box_new w 63 (.string ⟨h.toArray⟩) (.string ⟨p.toArray⟩) (.string ⟨q.toArray⟩) (.bool b))
 have HBZ := Lib.hid ((Below.refl w.heap.size w).alloc (Nat.le_refl _) (.cells #[.string ⟨h.toArray⟩, .string ⟨p.toArray⟩, .string ⟨q.toArray⟩, .bool b] 63))
 cases b
 ·by_cases hq : q = []
  ·subst hq
   cases hp : parse h (p) with
   | error n =>
     have HV := Lib.hid (valid_err ⟨h, p, [], false⟩ n (by simpa [Adr.target] using hp))
     have HP := Lib.hid hp
     clear hp
     go_enter Tryz.func67, Tryz.ntmps67
     go_wp2_with fail
     refine (refParse_any h (p) _ (by omega) (by first | omega | (simp; omega))).mono ?_
     rintro e w1 ⟨rfl, hb1⟩
     obtain ⟨⟨c0, c1, c2, c3⟩, _, hsz⟩ := (HBX.out.below hb1 (by simp)).facts
     rw [HP.out]
     rw [codeOf_err, parseV_err]
     have hn := HN.out _ n HP.out
     have hn1 : (n == 0) = false := beq_eq_false_iff_ne.2 hn
     clear hn
     go_wp2_with fail
     go_ret
     exact ⟨ret_bool (by rw [HV.out]), (HBZ.out.trans (hb1.mono (by simp))).alloc (by have := hb1.size; simp at this; omega) _⟩
   | ok c =>
     have HV := Lib.hid (valid_eq ⟨h, p, [], false⟩ c (.inr rfl) (by simpa [Adr.target] using hp))
     have HP := Lib.hid hp
     clear hp
     obtain ⟨h', p', q', b'⟩ := c
     go_enter Tryz.func67, Tryz.ntmps67
     go_wp2_with fail
     refine (refParse_any h (p) _ (by omega) (by first | omega | (simp; omega))).mono ?_
     rintro e w1 ⟨rfl, hb1⟩
     obtain ⟨⟨c0, c1, c2, c3⟩, _, hsz⟩ := (HBX.out.below hb1 (by simp)).facts
     rw [HP.out]
     rw [codeOf_ok, parseV_ok]
     go_wp2_with fail
     all_goals
       go_ret
       exact ⟨ret_bool (by rw [HV.out]; simp [*]), (HBZ.out.trans (hb1.mono (by simp))).alloc (by have := hb1.size; simp at this; omega) _⟩
  ·have HV := Lib.hid (valid_noq ⟨h, p, q, false⟩ rfl hq)
   have hq2 : q.isEmpty = false := by simpa using hq
   have hq3 : (q == []) = false := by simpa using hq
   clear hq
   go_enter Tryz.func67, Tryz.ntmps67
   go_wp2_with fail
   go_ret
   exact ⟨ret_bool HV.out.symm, HBZ.out⟩
 ·skip
  cases hp : parse h (p ++ 63 :: q) with
  | error n =>
    have HV := Lib.hid (valid_err ⟨h, p, q, true⟩ n (by simpa [Adr.target] using hp))
    have HP := Lib.hid hp
    clear hp
    go_enter Tryz.func67, Tryz.ntmps67
    go_wp2_with fail
    refine (refParse_any h (p ++ 63 :: q) _ (by omega) (by first | omega | (simp; omega))).mono ?_
    rintro e w1 ⟨rfl, hb1⟩
    obtain ⟨⟨c0, c1, c2, c3⟩, _, hsz⟩ := (HBX.out.below hb1 (by simp)).facts
    rw [HP.out]
    rw [codeOf_err, parseV_err]
    have hn := HN.out _ n HP.out
    have hn1 : (n == 0) = false := beq_eq_false_iff_ne.2 hn
    clear hn
    go_wp2_with fail
    go_ret
    exact ⟨ret_bool (by rw [HV.out]), (HBZ.out.trans (hb1.mono (by simp))).alloc (by have := hb1.size; simp at this; omega) _⟩
  | ok c =>
    have HV := Lib.hid (valid_eq ⟨h, p, q, true⟩ c (.inl rfl) (by simpa [Adr.target] using hp))
    have HP := Lib.hid hp
    clear hp
    obtain ⟨h', p', q', b'⟩ := c
    go_enter Tryz.func67, Tryz.ntmps67
    go_wp2_with fail
    refine (refParse_any h (p ++ 63 :: q) _ (by omega) (by first | omega | (simp; omega))).mono ?_
    rintro e w1 ⟨rfl, hb1⟩
    obtain ⟨⟨c0, c1, c2, c3⟩, _, hsz⟩ := (HBX.out.below hb1 (by simp)).facts
    rw [HP.out]
    rw [codeOf_ok, parseV_ok]
    go_wp2_with fail
    all_goals
      go_ret
      exact ⟨ret_bool (by rw [HV.out]; simp [*]), (HBZ.out.trans (hb1.mono (by simp))).alloc (by have := hb1.size; simp at this; omega) _⟩

theorem format_yes (a : Adr) (w : World) (hr : Ready w) (h1 : a.host.length ≤ 134217728) (h2 : a.path.length ≤ 134217728) (h3 : a.query.length ≤ 134217728) (hv : valid a = true) :
 Calls Tryz.prog 18 #[adV a] w fun e w' => e = .returned (.tuple #[.string ⟨a.text.toArray⟩, .nilIface]) ∧ Below w.heap.size w w' := by
 have HV := Lib.hid hv
 have HX := Lib.hid (valid_any a)
 obtain ⟨h, p, q, b⟩ := a
 simp only at h1 h2 h3
 have HBX := Lib.hid (box_new w 27 (.string ⟨h.toArray⟩) (.string ⟨p.toArray⟩) (.string ⟨q.toArray⟩) (.bool b))
 have hbz := (Below.refl w.heap.size w).alloc (Nat.le_refl _) (.cells #[.string ⟨h.toArray⟩, .string ⟨p.toArray⟩, .string ⟨q.toArray⟩, .bool b] 27)
 have HRD := Lib.hid (hr.below hbz)
 have HBZ := Lib.hid hbz
 clear hr hbz hv
 go_enter Tryz.func18, Tryz.ntmps18
 go_wp2_with fail
 refine (HX.out _ HRD.out (by simpa using h1) (by simpa using h2) (by simpa using h3)).mono ?_
 rintro e w1 ⟨rfl, hb1⟩
 rw [HV.out]
 obtain ⟨⟨c0, c1, c2, c3⟩, _, hsz⟩ := (HBX.out.below hb1 (by simp)).facts
 go_wp2_with fail
 refine (text_any h p q b _ (by omega) (by omega) (by omega)).mono ?_
 rintro e w2 ⟨rfl, hb2⟩
 go_wp2_with fail
 go_ret2
 exact ⟨rfl, HBZ.out.trans ((hb1.trans (hb2.mono hb1.size)).mono (by simp))⟩
end A1
end Go.Proofs.YtpkhbhdidkkebaaGreatDoor
end

section
namespace Go.Proofs.YtpkhbhdidkkebaaGreatDoor
open Go.RowKit Pl Ad Go.Shelf
attribute [local go_sem] ba_get ba_append ba_extract_end ba_extract_zero ba_extract conv_one
set_option maxRecDepth 100000
set_option maxHeartbeats 4000000
set_option linter.unusedVariables false
set_option linter.unusedSimpArgs false
namespace Sg
open Kr A1
@[reducible] def errC (n : Int) : Value := if n = 0 then .nilIface else errV n
theorem errC_of {a : Adr} {t : TokM} {n : Int} (h : checkS a t = n) (hn : ¬ n = 0) : errC (checkS a t) = errV n := by rw [h]; exact if_neg hn
theorem errC_ok {a : Adr} {t : TokM} (h : checkS a t = 0) : errC (checkS a t) = .nilIface := by rw [h]; rfl
theorem begun_lens (a : Adr) (t : TokM) (h : t.frm ≤ 1099511627776) (h2 : t.til ≤ 1099511627776) : (Ad.begun a t).host = a.host ∧ (Ad.begun a t).path = a.path ∧ (Ad.begun a t).has = true ∧ (Ad.begun a t).query.length ≤ a.query.length + t.id.length + 40 := by
 have h3 := decI_len h
 have h4 := decI_len h2
 obtain ⟨x, p, q, b⟩ := a
 cases b <;> simp [Ad.begun, Adr.plus, pK, pF, pU] <;> omega
/-- Two boxes: an address and a token. -/
structure TwS (w0 w : World) (B T1 T2 : Nat) (a : Adr) (t : TokM) : Prop where
 bel : Below w0.heap.size w0 w
 ab : Bx w B T1 #[.string ⟨a.host.toArray⟩, .string ⟨a.path.toArray⟩, .string ⟨a.query.toArray⟩, .bool a.has]
 tb : Bx w (B + 1) T2 #[.string ⟨t.id.toArray⟩, .int .i64 t.frm, .int .i64 t.til]
theorem TwS.older {w0 w w' : World} {B T1 T2 : Nat} {a : Adr} {t : TokM} (h : TwS w0 w B T1 T2 a t) (hb : Below w.heap.size w w') : TwS w0 w' B T1 T2 a t :=
 ⟨h.bel.trans (hb.mono h.bel.size), h.ab.older hb, h.tb.older hb⟩
theorem twS_new (w : World) (T1 T2 : Nat) (h p q id : Bs) (b : Bool) (frm til : Int) : TwS w ((w.alloc (.cells #[.string ⟨h.toArray⟩, .string ⟨p.toArray⟩, .string ⟨q.toArray⟩, .bool b] T1)).alloc (.cells #[.string ⟨id.toArray⟩, .int .i64 frm, .int .i64 til] T2)) w.heap.size T1 T2 ⟨h, p, q, b⟩ ⟨id, frm, til⟩ :=
 ⟨((Below.refl _ _).alloc (Nat.le_refl _) _).alloc (by simp) _, (Bx.new w _ _).older ((Below.refl _ _).alloc (Nat.le_refl _) _),
  by have h9 := Bx.new (w.alloc (.cells #[.string ⟨h.toArray⟩, .string ⟨p.toArray⟩, .string ⟨q.toArray⟩, .bool b] T1)) T2 #[.string ⟨id.toArray⟩, .int .i64 frm, .int .i64 til]; rw [show (w.alloc (.cells #[.string ⟨h.toArray⟩, .string ⟨p.toArray⟩, .string ⟨q.toArray⟩, .bool b] T1)).heap.size = w.heap.size + 1 by simp] at h9; exact h9⟩
theorem TwS.facts {w0 w : World} {B T1 T2 : Nat} {a : Adr} {t : TokM} (h : TwS w0 w B T1 T2 a t) :
 (w.cell? ⟨B, 0, none⟩ = some (.string ⟨a.host.toArray⟩) ∧ w.cell? ⟨B, 1, none⟩ = some (.string ⟨a.path.toArray⟩) ∧ w.cell? ⟨B, 2, none⟩ = some (.string ⟨a.query.toArray⟩) ∧ w.cell? ⟨B, 3, none⟩ = some (.bool a.has)) ∧
 (w.cell? ⟨B + 1, 0, none⟩ = some (.string ⟨t.id.toArray⟩) ∧ w.cell? ⟨B + 1, 1, none⟩ = some (.int .i64 t.frm) ∧ w.cell? ⟨B + 1, 2, none⟩ = some (.int .i64 t.til)) ∧ B + 1 < w.heap.size :=
 ⟨⟨h.ab.cell (i := 0) rfl, h.ab.cell (i := 1) rfl, h.ab.cell (i := 2) rfl, h.ab.cell (i := 3) rfl⟩, ⟨h.tb.cell (i := 0) rfl, h.tb.cell (i := 1) rfl, h.tb.cell (i := 2) rfl⟩, h.tb.lt⟩
theorem check_any (a : Adr) (t : TokM) (w : World) (hg : SgnAt w) (h1 : a.host.length ≤ 33554432) (h2 : a.path.length ≤ 33554432) (h3 : a.query.length ≤ 33554432) (hid : t.id.length ≤ 33554432) :
 Calls Tryz.prog 46 #[adV a, tkV t] w fun e w' => e = .returned (errC (checkS a t)) ∧ Below w.heap.size w w' := by
 obtain ⟨h, p, q, b⟩ := a
 obtain ⟨id, frm, til⟩ := t
 simp only at h1 h2 h3 hid
 have HG := Lib.hid hg
 have HS0 := Lib.hid (twS_new w 27 51 h p q id b frm til)
 cases hv : valid ⟨h, p, q, b⟩ with
 | false =>
   have HVAL : Hid (∀ wz, SgnAt wz → Calls Tryz.prog 53 #[.agg #[.string ⟨h.toArray⟩, .string ⟨p.toArray⟩, .string ⟨q.toArray⟩, .bool b]] wz fun e w' => e = .returned (.bool false) ∧ Below wz.heap.size wz w') := Lib.hid (fun wz hz => by have h9 := valid_any ⟨h, p, q, b⟩ wz hz.rdy (by simp only; omega) (by simp only; omega) (by simp only; omega); rw [hv] at h9; exact h9)
   have HC := Lib.hid (errC_of (t := ⟨id, frm, til⟩) (show checkS ⟨h, p, q, b⟩ ⟨id, frm, til⟩ = 2 by unfold checkS; exact if_pos (.inl hv)) (by decide))
   clear hv
   clear hg hid
   go_enter Tryz.func46, Tryz.ntmps46
   go_wp2_with (first | (go_at_call 53; refine (HVAL.out _ (HG.out.below HS0.out.bel)).mono ?_; rintro e w1 ⟨rfl, hb1⟩; have HS1 := Lib.hid (HS0.out.older hb1); clear hb1; obtain ⟨⟨c0, c1, c2, c3⟩, ⟨d0, d1, d2⟩, hz⟩ := HS1.out.facts))
   go_ret
   exact ⟨by rw [HC.out]; rfl, HS1.out.bel⟩
 | true =>
   have HVAL : Hid (∀ wz, SgnAt wz → Calls Tryz.prog 53 #[.agg #[.string ⟨h.toArray⟩, .string ⟨p.toArray⟩, .string ⟨q.toArray⟩, .bool b]] wz fun e w' => e = .returned (.bool true) ∧ Below wz.heap.size wz w') := Lib.hid (fun wz hz => by have h9 := valid_any ⟨h, p, q, b⟩ wz hz.rdy (by simp only; omega) (by simp only; omega) (by simp only; omega); rw [hv] at h9; exact h9)
   cases hp : plainQ q with
   | false =>
     have HPLN : Hid (∀ wz, SgnAt wz → Calls Tryz.prog 87 #[.agg #[.string ⟨h.toArray⟩, .string ⟨p.toArray⟩, .string ⟨q.toArray⟩, .bool b]] wz fun e w' => e = .returned (.bool false) ∧ Below wz.heap.size wz w') := Lib.hid (fun wz hz => by have h9 := plain_any ⟨h, p, q, b⟩ wz hz.rdy (by simp only; omega); rw [show plainQ (Adr.mk h p q b).query = false from hp] at h9; exact h9)
     have HC := Lib.hid (errC_of (t := ⟨id, frm, til⟩) (show checkS ⟨h, p, q, b⟩ ⟨id, frm, til⟩ = 2 by unfold checkS; exact if_pos (.inr (.inl hp))) (by decide))
     clear hv hp
     clear hg hid
     go_enter Tryz.func46, Tryz.ntmps46
     go_wp2_with (first | (go_at_call 53; refine (HVAL.out _ (HG.out.below HS0.out.bel)).mono ?_; rintro e w1 ⟨rfl, hb1⟩; have HS1 := Lib.hid (HS0.out.older hb1); clear hb1; obtain ⟨⟨c0, c1, c2, c3⟩, ⟨d0, d1, d2⟩, hz⟩ := HS1.out.facts) | (go_at_call 87; refine (HPLN.out _ (HG.out.below HS1.out.bel)).mono ?_; rintro e w2 ⟨rfl, hb2⟩; have HS2 := Lib.hid (HS1.out.older hb2); clear hb2 c0 c1 c2 c3 d0 d1 d2 hz; obtain ⟨⟨c0, c1, c2, c3⟩, ⟨d0, d1, d2⟩, hz⟩ := HS2.out.facts))
     go_ret
     exact ⟨by rw [HC.out]; rfl, HS2.out.bel⟩
   | true =>
     have HPLN : Hid (∀ wz, SgnAt wz → Calls Tryz.prog 87 #[.agg #[.string ⟨h.toArray⟩, .string ⟨p.toArray⟩, .string ⟨q.toArray⟩, .bool b]] wz fun e w' => e = .returned (.bool true) ∧ Below wz.heap.size wz w') := Lib.hid (fun wz hz => by have h9 := plain_any ⟨h, p, q, b⟩ wz hz.rdy (by simp only; omega); rw [show plainQ (Adr.mk h p q b).query = true from hp] at h9; exact h9)
     cases hi : idOk id with
     | false =>
       have HNAM : Hid (∀ wz, Calls Tryz.prog 88 #[.string ⟨id.toArray⟩] wz fun e w' => e = .returned (.bool false) ∧ wz = w') := Lib.hid (fun wz => by have h9 := named_any id wz (by omega); rw [hi] at h9; exact h9)
       have HC := Lib.hid (errC_of (t := ⟨id, frm, til⟩) (show checkS ⟨h, p, q, b⟩ ⟨id, frm, til⟩ = 2 by unfold checkS; exact if_pos (.inr (.inr hi))) (by decide))
       clear hv hp hi
       clear hg hid
       go_enter Tryz.func46, Tryz.ntmps46
       go_wp2_with (first | (go_at_call 53; refine (HVAL.out _ (HG.out.below HS0.out.bel)).mono ?_; rintro e w1 ⟨rfl, hb1⟩; have HS1 := Lib.hid (HS0.out.older hb1); clear hb1; obtain ⟨⟨c0, c1, c2, c3⟩, ⟨d0, d1, d2⟩, hz⟩ := HS1.out.facts) | (go_at_call 87; refine (HPLN.out _ (HG.out.below HS1.out.bel)).mono ?_; rintro e w2 ⟨rfl, hb2⟩; have HS2 := Lib.hid (HS1.out.older hb2); clear hb2 c0 c1 c2 c3 d0 d1 d2 hz; obtain ⟨⟨c0, c1, c2, c3⟩, ⟨d0, d1, d2⟩, hz⟩ := HS2.out.facts) | (go_at_call 88; refine (HNAM.out _).mono ?_; rintro e w3 ⟨rfl, rfl⟩))
       go_ret
       exact ⟨by rw [HC.out]; rfl, HS2.out.bel⟩
     | true =>
       have HNAM : Hid (∀ wz, Calls Tryz.prog 88 #[.string ⟨id.toArray⟩] wz fun e w' => e = .returned (.bool true) ∧ wz = w') := Lib.hid (fun wz => by have h9 := named_any id wz (by omega); rw [hi] at h9; exact h9)
       have hno : ¬ (valid ⟨h, p, q, b⟩ = false ∨ plainQ q = false ∨ idOk id = false) := by rw [hv, hp, hi]; simp
       by_cases hft : til ≤ frm
       ·have HC := Lib.hid (errC_of (t := ⟨id, frm, til⟩) (show checkS ⟨h, p, q, b⟩ ⟨id, frm, til⟩ = 7 by unfold checkS; rw [if_neg hno, if_pos hft]) (by decide))
        clear hv hp hi hno
        clear hg hid
        go_enter Tryz.func46, Tryz.ntmps46
        go_wp2_with (first | (go_at_call 53; refine (HVAL.out _ (HG.out.below HS0.out.bel)).mono ?_; rintro e w1 ⟨rfl, hb1⟩; have HS1 := Lib.hid (HS0.out.older hb1); clear hb1; obtain ⟨⟨c0, c1, c2, c3⟩, ⟨d0, d1, d2⟩, hz⟩ := HS1.out.facts) | (go_at_call 87; refine (HPLN.out _ (HG.out.below HS1.out.bel)).mono ?_; rintro e w2 ⟨rfl, hb2⟩; have HS2 := Lib.hid (HS1.out.older hb2); clear hb2 c0 c1 c2 c3 d0 d1 d2 hz; obtain ⟨⟨c0, c1, c2, c3⟩, ⟨d0, d1, d2⟩, hz⟩ := HS2.out.facts) | (go_at_call 88; refine (HNAM.out _).mono ?_; rintro e w3 ⟨rfl, rfl⟩))
        go_ret
        exact ⟨by rw [HC.out]; rfl, HS2.out.bel⟩
       ·by_cases h0 : frm < 0
        ·have HC := Lib.hid (errC_of (t := ⟨id, frm, til⟩) (show checkS ⟨h, p, q, b⟩ ⟨id, frm, til⟩ = 1 by unfold checkS; rw [if_neg hno, if_neg hft, if_pos (.inl h0)]) (by decide))
         clear hv hp hi hno
         clear hg hid
         go_enter Tryz.func46, Tryz.ntmps46
         go_wp2_with (first | (go_at_call 53; refine (HVAL.out _ (HG.out.below HS0.out.bel)).mono ?_; rintro e w1 ⟨rfl, hb1⟩; have HS1 := Lib.hid (HS0.out.older hb1); clear hb1; obtain ⟨⟨c0, c1, c2, c3⟩, ⟨d0, d1, d2⟩, hz⟩ := HS1.out.facts) | (go_at_call 87; refine (HPLN.out _ (HG.out.below HS1.out.bel)).mono ?_; rintro e w2 ⟨rfl, hb2⟩; have HS2 := Lib.hid (HS1.out.older hb2); clear hb2 c0 c1 c2 c3 d0 d1 d2 hz; obtain ⟨⟨c0, c1, c2, c3⟩, ⟨d0, d1, d2⟩, hz⟩ := HS2.out.facts) | (go_at_call 88; refine (HNAM.out _).mono ?_; rintro e w3 ⟨rfl, rfl⟩))
         go_ret
         exact ⟨by rw [HC.out]; rfl, HS2.out.bel⟩
        ·by_cases hm : 1099511627776 < til
         ·have HC := Lib.hid (errC_of (t := ⟨id, frm, til⟩) (show checkS ⟨h, p, q, b⟩ ⟨id, frm, til⟩ = 1 by unfold checkS; rw [if_neg hno, if_neg hft, if_pos (.inr hm)]) (by decide))
          clear hv hp hi hno
          clear hg hid
          go_enter Tryz.func46, Tryz.ntmps46
          go_wp2_with (first | (go_at_call 53; refine (HVAL.out _ (HG.out.below HS0.out.bel)).mono ?_; rintro e w1 ⟨rfl, hb1⟩; have HS1 := Lib.hid (HS0.out.older hb1); clear hb1; obtain ⟨⟨c0, c1, c2, c3⟩, ⟨d0, d1, d2⟩, hz⟩ := HS1.out.facts) | (go_at_call 87; refine (HPLN.out _ (HG.out.below HS1.out.bel)).mono ?_; rintro e w2 ⟨rfl, hb2⟩; have HS2 := Lib.hid (HS1.out.older hb2); clear hb2 c0 c1 c2 c3 d0 d1 d2 hz; obtain ⟨⟨c0, c1, c2, c3⟩, ⟨d0, d1, d2⟩, hz⟩ := HS2.out.facts) | (go_at_call 88; refine (HNAM.out _).mono ?_; rintro e w3 ⟨rfl, rfl⟩))
          go_ret
          exact ⟨by rw [HC.out]; rfl, HS2.out.bel⟩
         ·obtain ⟨l1, l2, l3, l4⟩ := begun_lens ⟨h, p, q, b⟩ ⟨id, frm, til⟩ (by simp only; omega) (by simp only; omega)
          obtain ⟨bg, hbg⟩ : ∃ x, Ad.begun ⟨h, p, q, b⟩ ⟨id, frm, til⟩ = x := ⟨_, rfl⟩
          rw [hbg] at l1 l2 l3 l4
          simp only at l1 l2 l4
          have HBGN : Hid (∀ wz, SgnAt wz → Calls Tryz.prog 47 #[.agg #[.string ⟨h.toArray⟩, .string ⟨p.toArray⟩, .string ⟨q.toArray⟩, .bool b], .agg #[.string ⟨id.toArray⟩, .int .i64 frm, .int .i64 til]] wz fun e w' => e = .returned (adV bg) ∧ Below wz.heap.size wz w') := Lib.hid (fun wz hz => by have h9 := begun_any ⟨h, p, q, b⟩ ⟨id, frm, til⟩ wz hz (by simp only; omega) (by simp only; omega) (by simp only; omega) (by simp only; omega) (by simp only; omega) (by simp only; omega); rw [hbg] at h9; exact h9)
          have HSIZ : Hid (∀ wz, Calls Tryz.prog 89 #[adV bg] wz fun e w' => e = .returned (.int .i64 (bg.text.length : Int)) ∧ Below wz.heap.size wz w') := Lib.hid (fun wz => size_any bg wz (by rw [l1]; omega) (by rw [l2]; omega) (by omega))
          have e9 : bg.text.length = bg.host.length + bg.path.length + (1 + bg.query.length) := by rw [Adr.text, adText, l3]; simp; omega
          have hln : bg.text.length ≤ 268435456 := by rw [e9, l1, l2]; omega
          clear e9
          obtain ⟨tl, htl⟩ : ∃ x, bg.text.length = x := ⟨_, rfl⟩
          rw [htl] at HSIZ hln
          clear l1 l2 l3 l4
          by_cases hbig : 1024 < tl + 36
          ·have HC := Lib.hid (errC_of (t := ⟨id, frm, til⟩) (show checkS ⟨h, p, q, b⟩ ⟨id, frm, til⟩ = 5 by unfold checkS; rw [if_neg hno, if_neg hft, if_neg (by simp only; omega), hbg, htl, if_pos hbig]) (by decide))
           clear hv hp hi hno hbg htl
           have hbi : (1024 : Int) < (tl : Int) + 36 := by omega
           clear hg hid
           go_enter Tryz.func46, Tryz.ntmps46
           go_wp2_with (first | (go_at_call 53; refine (HVAL.out _ (HG.out.below HS0.out.bel)).mono ?_; rintro e w1 ⟨rfl, hb1⟩; have HS1 := Lib.hid (HS0.out.older hb1); clear hb1; obtain ⟨⟨c0, c1, c2, c3⟩, ⟨d0, d1, d2⟩, hz⟩ := HS1.out.facts) | (go_at_call 87; refine (HPLN.out _ (HG.out.below HS1.out.bel)).mono ?_; rintro e w2 ⟨rfl, hb2⟩; have HS2 := Lib.hid (HS1.out.older hb2); clear hb2 c0 c1 c2 c3 d0 d1 d2 hz; obtain ⟨⟨c0, c1, c2, c3⟩, ⟨d0, d1, d2⟩, hz⟩ := HS2.out.facts) | (go_at_call 88; refine (HNAM.out _).mono ?_; rintro e w3 ⟨rfl, rfl⟩) | (go_at_call 47; refine (HBGN.out _ (HG.out.below HS2.out.bel)).mono ?_; rintro e w4 ⟨rfl, hb4⟩; have HS4 := Lib.hid (HS2.out.older hb4); clear hb4 c0 c1 c2 c3 d0 d1 d2 hz; obtain ⟨⟨c0, c1, c2, c3⟩, ⟨d0, d1, d2⟩, hz⟩ := HS4.out.facts) | (go_at_call 89; refine (HSIZ.out _).mono ?_; rintro e w5 ⟨rfl, hb5⟩; have HS5 := Lib.hid (HS4.out.older hb5); clear hb5 c0 c1 c2 c3 d0 d1 d2 hz; obtain ⟨⟨c0, c1, c2, c3⟩, ⟨d0, d1, d2⟩, hz⟩ := HS5.out.facts))
           go_ret
           exact ⟨by rw [HC.out]; rfl, HS5.out.bel⟩
          ·have HC := Lib.hid (errC_ok (t := ⟨id, frm, til⟩) (show checkS ⟨h, p, q, b⟩ ⟨id, frm, til⟩ = 0 by unfold checkS; rw [if_neg hno, if_neg hft, if_neg (by simp only; omega), hbg, htl, if_neg hbig]))
           clear hv hp hi hno hbg htl
           have hbi : ¬ (1024 : Int) < (tl : Int) + 36 := by omega
           clear hg hid
           go_enter Tryz.func46, Tryz.ntmps46
           go_wp2_with (first | (go_at_call 53; refine (HVAL.out _ (HG.out.below HS0.out.bel)).mono ?_; rintro e w1 ⟨rfl, hb1⟩; have HS1 := Lib.hid (HS0.out.older hb1); clear hb1; obtain ⟨⟨c0, c1, c2, c3⟩, ⟨d0, d1, d2⟩, hz⟩ := HS1.out.facts) | (go_at_call 87; refine (HPLN.out _ (HG.out.below HS1.out.bel)).mono ?_; rintro e w2 ⟨rfl, hb2⟩; have HS2 := Lib.hid (HS1.out.older hb2); clear hb2 c0 c1 c2 c3 d0 d1 d2 hz; obtain ⟨⟨c0, c1, c2, c3⟩, ⟨d0, d1, d2⟩, hz⟩ := HS2.out.facts) | (go_at_call 88; refine (HNAM.out _).mono ?_; rintro e w3 ⟨rfl, rfl⟩) | (go_at_call 47; refine (HBGN.out _ (HG.out.below HS2.out.bel)).mono ?_; rintro e w4 ⟨rfl, hb4⟩; have HS4 := Lib.hid (HS2.out.older hb4); clear hb4 c0 c1 c2 c3 d0 d1 d2 hz; obtain ⟨⟨c0, c1, c2, c3⟩, ⟨d0, d1, d2⟩, hz⟩ := HS4.out.facts) | (go_at_call 89; refine (HSIZ.out _).mono ?_; rintro e w5 ⟨rfl, hb5⟩; have HS5 := Lib.hid (HS4.out.older hb5); clear hb5 c0 c1 c2 c3 d0 d1 d2 hz; obtain ⟨⟨c0, c1, c2, c3⟩, ⟨d0, d1, d2⟩, hz⟩ := HS5.out.facts))
           go_ret
           exact ⟨by rw [HC.out]; rfl, HS5.out.bel⟩
end Sg
end Go.Proofs.YtpkhbhdidkkebaaGreatDoor
end

