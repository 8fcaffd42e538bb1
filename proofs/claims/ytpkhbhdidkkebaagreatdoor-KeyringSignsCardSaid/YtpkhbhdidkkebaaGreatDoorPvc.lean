/- Contracts and plain facts that the statement's proof leans on (texts joined). No condition beyond those that each names. -/
import Derived.Test.YtpkhbhdidkkebaaGreatDoorPvG
import Derived.Test.YtpkhbhdidkkebaaGreatDoorPvH
section
namespace Go.Proofs.YtpkhbhdidkkebaaGreatDoor
namespace Ad
open Pl Dg
open Classical in
/-- What Read returns. -/
noncomputable def readS (a : Adr) : Option SigM := if h : ∃ r, IsSig a r then some h.choose else none
theorem readS_some {a : Adr} {r : SigM} (h : IsSig a r) : readS a = some r := by
 have hx : ∃ r, IsSig a r := ⟨r, h⟩
 unfold readS
 rw [dif_pos hx]
 exact congrArg some (isSig_uniq hx.choose_spec h)
theorem readS_none {a : Adr} (h : ∀ r, ¬ IsSig a r) : readS a = none := by
 unfold readS
 rw [dif_neg (fun ⟨r, hr⟩ => h r hr)]
theorem readS_is {a : Adr} {r : SigM} (h : readS a = some r) : IsSig a r := by
 unfold readS at h
 split at h
 ·rename_i hx
  rw [← Option.some.inj h]
  exact hx.choose_spec
 ·cases h
/-- What Verify answers: the address, the error's code. -/
noncomputable def verC (a : Adr) (sec : Bs) (known : Bool) (now : Int) : Int :=
 match readS a with
 | none => 2
 | some r => if known = false then 16 else if ¬ sigM mixM sec (begun r.rest r.tok).text = r.sig then 14 else if now < r.tok.frm ∨ r.tok.til ≤ now then 15 else 0
noncomputable def verA (a : Adr) (sec : Bs) (known : Bool) (now : Int) : Adr :=
 match readS a with
 | none => ⟨[], [], [], false⟩
 | some r => if verC a sec known now = 0 then r.rest else ⟨[], [], [], false⟩
theorem signed_is {a : Adr} {t : TokM} {s : Bs} (h : checkS a t = 0) (hs : hexOk s = true) : IsSig (signed a t s) ⟨a, t, s⟩ := ⟨h, hs, rfl⟩
/-- What Sign returns is read as it was signed. -/
theorem signed_read {a : Adr} {t : TokM} {sec : Bs} (h : checkS a t = 0) : readS (signed a t (sigM mixM sec (begun a t).text)) = some ⟨a, t, sigM mixM sec (begun a t).text⟩ :=
 readS_some (signed_is h (sigM_hex _ _ _))
theorem signed_ver {a : Adr} {t : TokM} {sec : Bs} (h : checkS a t = 0) (known : Bool) (now : Int) :
 verC (signed a t (sigM mixM sec (begun a t).text)) sec known now = if known = false then 16 else if now < t.frm ∨ t.til ≤ now then 15 else 0 := by
 unfold verC
 rw [signed_read h]
 simp
/-- A signed form with these last parts has these values. -/
theorem sig_form {a : Adr} {r : SigM} (h : IsSig a r) {l : List Bs} {v0 v1 v2 v3 : Bs} (hp : splitOn 38 a.query = l ++ [pK ++ v0, pF ++ v1, pU ++ v2, pS ++ v3]) :
 r.rest = restA a l ∧ v0 = r.tok.id ∧ v1 = decI r.tok.frm ∧ v2 = decI r.tok.til ∧ v3 = r.sig := by
 obtain ⟨_, h2, h3⟩ := isSig_parts h
 rw [hp] at h2
 obtain ⟨e1, e2⟩ := List.append_inj' h2 rfl
 simp only [List.cons.injEq, List.append_cancel_left_eq, and_true] at e2
 exact ⟨by rw [h3, ← e1], e2.1, e2.2.1, e2.2.2.1, e2.2.2.2⟩
theorem joinTail_len {x sep : Bs} : ∀ {r : List Bs}, x ∈ r → x.length ≤ (Lib.joinTail sep r).length
  | [], h => by cases h
  | y :: r, h => by
    rw [joinTail_cons, List.length_append, List.length_append]
    rcases List.mem_cons.1 h with rfl | h
    ·omega
    ·have := joinTail_len (sep := sep) h; omega
theorem join_len {x sep : Bs} {xs : List Bs} (h : x ∈ xs) : x.length ≤ (Lib.join xs sep).length := by
 cases xs with
 | nil => cases h
 | cons y r =>
   rw [Lib.join_cons, List.length_append]
   rcases List.mem_cons.1 h with rfl | h
   ·omega
   ·have := joinTail_len (sep := sep) h; omega
theorem part_len {q x : Bs} (h : x ∈ splitOn 38 q) : x.length ≤ q.length := by
 have := join_len (sep := [38]) h
 rw [join_split] at this
 exact this
theorem joinTail_app (sep : Bs) (u v : List Bs) : Lib.joinTail sep (u ++ v) = Lib.joinTail sep u ++ Lib.joinTail sep v := by simp [Lib.joinTail]
theorem join_pre {sep : Bs} (l m : List Bs) : (Lib.join l sep).length ≤ (Lib.join (l ++ m) sep).length := by
 cases l with
 | nil => simp [Lib.join]
 | cons y r => rw [List.cons_append, Lib.join_cons, Lib.join_cons, joinTail_app]; simp
theorem rest_len {q : Bs} {l m : List Bs} (h : splitOn 38 q = l ++ m) : (Lib.join l [38]).length ≤ q.length := by
 have := join_pre (sep := [38]) l m
 rw [← h, join_split] at this
 exact this
theorem restA_nil (h p q : Bs) (b : Bool) : restA ⟨h, p, q, b⟩ [] = ⟨h, p, [], false⟩ := rfl
theorem restA_cons (h p q : Bs) (b : Bool) {l : List Bs} (hl : 0 < l.length) : restA ⟨h, p, q, b⟩ l = ⟨h, p, Lib.join l [38], true⟩ := by
 cases l with
 | nil => cases hl
 | cons _ _ => rfl
/-- Fewer than four parts: no signed form. -/
theorem read_short {a : Adr} (h : (splitOn 38 a.query).length < 4) : readS a = none := readS_none fun r hr => by
 have := congrArg List.length (isSig_parts hr).2.1
 simp only [List.length_append, List.length_cons, List.length_nil] at this
 omega
/-- Four parts at the end. -/
theorem parts4 {xs : List Bs} (h : 4 ≤ xs.length) : ∃ l x0 x1 x2 x3, xs = l ++ [x0, x1, x2, x3] ∧ l.length = xs.length - 4 ∧ l = xs.take (xs.length - 4) := by
 have h1 : xs = xs.take (xs.length - 4) ++ xs.drop (xs.length - 4) := (List.take_append_drop _ _).symm
 have h2 : (xs.drop (xs.length - 4)).length = 4 := by rw [List.length_drop]; omega
 match hd : xs.drop (xs.length - 4), h2 with
 | [x0, x1, x2, x3], _ => exact ⟨_, x0, x1, x2, x3, hd ▸ h1, by rw [List.length_take]; omega, rfl⟩
theorem read_miss {a : Adr} {l : List Bs} {x0 x1 x2 x3 : Bs} (hp : splitOn 38 a.query = l ++ [x0, x1, x2, x3]) (h : cutP pK x0 = none ∨ cutP pF x1 = none ∨ cutP pU x2 = none ∨ cutP pS x3 = none) : readS a = none := readS_none fun r hr => by
 have h2 := (isSig_parts hr).2.1
 rw [hp] at h2
 obtain ⟨_, e2⟩ := List.append_inj' h2 rfl
 simp only [List.cons.injEq, and_true] at e2
 obtain ⟨rfl, rfl, rfl, rfl⟩ := e2
 rw [cutP_app, cutP_app, cutP_app, cutP_app] at h
 simp at h
/-- What is checked of the values. -/
def ReadOk (a : Adr) (l : List Bs) (v0 v3 : Bs) (x y : Int) : Prop := hexOk v3 = true ∧ checkS (restA a l) ⟨v0, x, y⟩ = 0 ∧ signed (restA a l) ⟨v0, x, y⟩ v3 = a
theorem read_ok {a : Adr} {l : List Bs} {v0 v3 : Bs} {x y : Int} (h : ReadOk a l v0 v3 x y) : readS a = some ⟨restA a l, ⟨v0, x, y⟩, v3⟩ :=
 readS_some ⟨h.2.1, h.1, h.2.2.symm⟩
theorem read_vals {a : Adr} {l : List Bs} {v0 v1 v2 v3 : Bs} {r : SigM} (hp : splitOn 38 a.query = l ++ [pK ++ v0, pF ++ v1, pU ++ v2, pS ++ v3]) (hr : IsSig a r) :
 ∃ x y, Lib.atoiAll v1 = .ok x ∧ Lib.atoiAll v2 = .ok y ∧ ReadOk a l v0 v3 x y := by
 obtain ⟨e1, e2, e3, e4, e5⟩ := sig_form hr hp
 have hc := checkS_ok.1 hr.1
 have b1 : decI r.tok.frm = Lib.decDigits r.tok.frm.toNat := rfl
 have b2 : decI r.tok.til = Lib.decDigits r.tok.til.toNat := rfl
 have a1 := atoi_dec2 (n := r.tok.frm.toNat) (by omega)
 have a2 := atoi_dec2 (n := r.tok.til.toNat) (by omega)
 rw [Int.toNat_of_nonneg (by omega)] at a1 a2
 refine ⟨r.tok.frm, r.tok.til, by rw [e3, b1]; exact a1, by rw [e4, b2]; exact a2, by rw [e5]; exact hr.2.1, ?_, ?_⟩
 ·rw [← e1, e2]; exact hr.1
 ·rw [← e1, e2, e5]; exact hr.2.2.symm
theorem read_noatoi {a : Adr} {l : List Bs} {v0 v1 v2 v3 : Bs} (hp : splitOn 38 a.query = l ++ [pK ++ v0, pF ++ v1, pU ++ v2, pS ++ v3]) (h : (∀ n, Lib.atoiAll v1 ≠ .ok n) ∨ (∀ n, Lib.atoiAll v2 ≠ .ok n)) : readS a = none := readS_none fun r hr => by
 obtain ⟨x, y, h1, h2, _⟩ := read_vals hp hr
 rcases h with h | h
 ·exact h x h1
 ·exact h y h2
theorem read_bad {a : Adr} {l : List Bs} {v0 v1 v2 v3 : Bs} {x y : Int} (hp : splitOn 38 a.query = l ++ [pK ++ v0, pF ++ v1, pU ++ v2, pS ++ v3]) (h1 : Lib.atoiAll v1 = .ok x) (h2 : Lib.atoiAll v2 = .ok y) (h : ¬ ReadOk a l v0 v3 x y) : readS a = none := readS_none fun r hr => by
 obtain ⟨x', y', e1, e2, e3⟩ := read_vals hp hr
 rw [h1] at e1; rw [h2] at e2
 injection e1 with e1; injection e2 with e2
 subst e1 e2
 exact h e3
/-! ### what the reference reads -/
theorem read_invalid {a : Adr} (h : valid a = false) : readS a = none := readS_none fun r hr => by
 have := isSig_valid hr
 rw [h] at this; cases this
theorem read_nohas {a : Adr} (h : a.has = false) : readS a = none := readS_none fun r hr => by
 have := (isSig_parts hr).1
 rw [h] at this; cases this
theorem ref_vals {a : Adr} {l : List Bs} {x0 x1 x2 x3 : Bs} {r : SigM} (hp : splitOn 38 a.query = l ++ [x0, x1, x2, x3]) (hr : IsSig a r) :
 x0 = pK ++ r.tok.id ∧ x1 = pF ++ decI r.tok.frm ∧ x2 = pU ++ decI r.tok.til ∧ x3 = pS ++ r.sig ∧ r.rest = restA a l := by
 obtain ⟨_, h2, h3⟩ := isSig_parts hr
 rw [hp] at h2
 obtain ⟨e1, e2⟩ := List.append_inj' h2 rfl
 simp only [List.cons.injEq, and_true] at e2
 exact ⟨e2.1, e2.2.1, e2.2.2.1, e2.2.2.2, by rw [h3, ← e1]⟩
theorem cutP_getD {p x v : Bs} (h : x = p ++ v) : (cutP p x).isSome = true ∧ (cutP p x).getD [] = v := by rw [h, cutP_app]; exact ⟨rfl, rfl⟩
theorem numN_dec {n : Int} (h0 : 0 ≤ n) (h1 : n ≤ 1099511627776) : numB (decI n) = true ∧ (numN (decI n) : Int) = n := by
 have h9 := numB_dec (n := n.toNat) (by omega)
 exact ⟨h9.1, by rw [show decI n = Lib.decDigits n.toNat from rfl, h9.2]; omega⟩
/-- One condition fails: no signed form. -/
theorem ref_fail {a : Adr} {l : List Bs} {x0 x1 x2 x3 v0 v1 v2 v3 : Bs} (hp : splitOn 38 a.query = l ++ [x0, x1, x2, x3]) (h0 : (cutP pK x0).getD [] = v0) (h1 : (cutP pF x1).getD [] = v1) (h2 : (cutP pU x2).getD [] = v2) (h3 : (cutP pS x3).getD [] = v3)
    (h : (cutP pK x0).isSome = false ∨ (cutP pF x1).isSome = false ∨ (cutP pU x2).isSome = false ∨ (cutP pS x3).isSome = false ∨ numB v1 = false ∨ numB v2 = false ∨ idOk v0 = false ∨ (numN v2 : Int) ≤ numN v1 ∨ (1099511627776 : Int) < numN v2 ∨ hexOk v3 = false ∨ plainQ (restA a l).query = false) : readS a = none := readS_none fun r hr => by
 obtain ⟨e0, e1, e2, e3, e4⟩ := ref_vals hp hr
 have hc := checkS_ok.1 hr.1
 obtain ⟨s0, g0⟩ := cutP_getD e0
 obtain ⟨s1, g1⟩ := cutP_getD e1
 obtain ⟨s2, g2⟩ := cutP_getD e2
 obtain ⟨s3, g3⟩ := cutP_getD e3
 rw [h0] at g0; rw [h1] at g1; rw [h2] at g2; rw [h3] at g3
 subst g0 g1 g2 g3
 have n1 := numN_dec hc.2.2.2.2.1 (by omega)
 have n2 := numN_dec (n := r.tok.til) (by omega) hc.2.2.2.2.2.1
 rw [s0, s1, s2, s3, n1.1, n2.1, n1.2, n2.2, hc.2.2.1, hr.2.1, ← e4, hc.2.1] at h
 simp at h
 omega
/-- All hold. -/
theorem ref_good {a : Adr} {l : List Bs} {x0 x1 x2 x3 v0 v1 v2 v3 : Bs} (hv : valid a = true) (hh : a.has = true) (hp : splitOn 38 a.query = l ++ [x0, x1, x2, x3]) (h0 : (cutP pK x0).getD [] = v0) (h1 : (cutP pF x1).getD [] = v1) (h2 : (cutP pU x2).getD [] = v2) (h3 : (cutP pS x3).getD [] = v3)
    (s0 : (cutP pK x0).isSome = true) (s1 : (cutP pF x1).isSome = true) (s2 : (cutP pU x2).isSome = true) (s3 : (cutP pS x3).isSome = true) (n1 : numB v1 = true) (n2 : numB v2 = true) (hid : idOk v0 = true) (hlt : (numN v1 : Int) < numN v2) (hle : (numN v2 : Int) ≤ 1099511627776) (hx : hexOk v3 = true) (hq : plainQ (restA a l).query = true) :
    readS a = some ⟨restA a l, ⟨v0, numN v1, numN v2⟩, v3⟩ := by
 have key : ∀ {p x v : Bs}, (cutP p x).getD [] = v → (cutP p x).isSome = true → x = p ++ v := fun {p x v} hg hs => by
  obtain ⟨u, hu⟩ := Option.isSome_iff_exists.1 hs
  rw [hu] at hg
  rw [cutP_some hu, ← show u = v from hg]
 have e1 : v1 = decI (numN v1 : Int) := by rw [show decI (numN v1 : Int) = Lib.decDigits (numN v1) from by unfold decI; simp]; exact numB_true n1
 have e2 : v2 = decI (numN v2 : Int) := by rw [show decI (numN v2 : Int) = Lib.decDigits (numN v2) from by unfold decI; simp]; exact numB_true n2
 refine readS_some (isSig_of hv hh ?_ hid hx (by omega) hlt hle hq)
 rw [hp, key h0 s0, key h1 s1, key h2 s2, key h3 s3, ← e1, ← e2]
theorem resB_rest (a : Adr) (l : List Bs) : ((restA a l).has && !plainQ (restA a l).query) = !plainQ (restA a l).query := by
 unfold restA
 split
 ·rfl
 ·rfl
theorem resB_rest' {a : Adr} {l : List Bs} {r : Adr} (h : restA a l = r) : (r.has && !plainQ r.query) = !plainQ r.query := by rw [← h]; exact resB_rest a l
end Ad
end Go.Proofs.YtpkhbhdidkkebaaGreatDoor
end

