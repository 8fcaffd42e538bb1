/- Contracts and plain facts that the statement's proof leans on (texts joined). No condition beyond those that each names. -/
import Derived.Test.YtpkhbhdidkkebaaGreatDoorPvm
import Derived.Test.YtpkhbhdidkkebaaGreatDoorPvn
section
namespace Go.Proofs.YtpkhbhdidkkebaaGreatDoor
open Go.RowKit Pl Ad Go.Shelf
attribute [local go_sem] ba_get ba_append ba_extract_end ba_extract_zero ba_extract conv_one
set_option maxRecDepth 100000
set_option maxHeartbeats 4000000
set_option linter.unusedVariables false
set_option linter.unusedSimpArgs false
namespace Sg
open Kr A1 Dg
theorem refID_wide (l : Bs) (w : World) (hl : l.length ≤ 140737488351232) :
 Calls Tryz.prog 65 #[.string ⟨l.toArray⟩] w fun e w' => e = .returned (.bool (idOk l)) ∧ w = w' := by
 go_enter Tryz.func65, Tryz.ntmps65
 go_wp2
 go_loop [7] (fun i => ∃ k : Nat, k ≤ l.length ∧ i = .int .i64 k ∧ Hid ((l.take k).all idc = true)) (fun i => l.length - (intOf i).toNat)
 case atStart => exact ⟨0, Nat.zero_le _, rfl, Lib.hid rfl⟩
 case round =>
  obtain ⟨k, hk, rfl, H⟩ := hrel
  by_cases hlt : k < l.length
  ·have hb := byte_lt l[k]
   go_wp2
   all_goals first
    | (go_round
       case rel => exact ⟨k + 1, by omega, by go_num, Lib.hid (all_next hlt H.out (idc_yes (by first | omega | (simp only [Bool.not_eq_eq_eq_not, Bool.not_false, Bool.not_true, decide_eq_true_eq, decide_eq_false_iff_not] at *; omega))))⟩
       case measure => simp [intOf]; omega)
    | (go_ret
       exact ⟨ret_bool (idOk_bad hlt (idc_no (by first | omega | (simp only [Bool.not_eq_eq_eq_not, Bool.not_false, Bool.not_true, decide_eq_true_eq, decide_eq_false_iff_not] at *; omega)))).symm, rfl⟩)
  ·have HN := Lib.hid (idOk_of (l := l) (by have h := H.out; rw [List.take_of_length_le (by omega)] at h; exact h))
   go_wp2
   all_goals
     go_ret
     exact ⟨ret_bool (by rw [HN.out, Bool.eq_iff_iff]; simp; try omega), rfl⟩
theorem rsign_wide (a : Adr) (t : TokM) (sa : Option Addr) (sc : Nat) (sec : Bs) (w : World) (hs : SrcAt w (.slice sa sec.length sc) sec.length (bvals sec)) (h1 : a.host.length ≤ 33554432) (h2 : a.path.length ≤ 33554432) (h3 : a.query.length ≤ 33554432) (hid : t.id.length ≤ 140737488351232) (hsl : sec.length ≤ 134217728) :
 Calls Tryz.prog 28 #[adV a, tkV t, .slice sa sec.length sc] w fun e w' => e = .returned (.tuple #[adV (signA a t sec), .int .i64 (checkS a t)]) ∧ Below w.heap.size w w' := by
 by_cases hle : t.id.length ≤ 33554432
 ·exact rsign_any a t sa sc sec w hs h1 h2 h3 hle hsl
 obtain ⟨h, p, q, b⟩ := a
 obtain ⟨id, frm, til⟩ := t
 simp only at h1 h2 h3 hid hle
 have HSC := Lib.hid hs
 have HS0 := Lib.hid (rgS_new w h p q id b frm til)
 cases hv : valid ⟨h, p, q, b⟩ with
 | false =>
   have HVAL : Hid (∀ wz, Calls Tryz.prog 67 #[.agg #[.string ⟨h.toArray⟩, .string ⟨p.toArray⟩, .string ⟨q.toArray⟩, .bool b]] wz fun e w' => e = .returned (.bool false) ∧ Below wz.heap.size wz w') := Lib.hid (fun wz => by have h9 := refValid_any ⟨h, p, q, b⟩ wz (by simp only; omega) (by simp only; omega) (by simp only; omega); rw [hv] at h9; exact h9)
   have hcs : checkS ⟨h, p, q, b⟩ ⟨id, frm, til⟩ = 2 := by unfold checkS; exact if_pos (.inl hv)
   have HC := Lib.hid (show signA ⟨h, p, q, b⟩ ⟨id, frm, til⟩ sec = ⟨[], [], [], false⟩ from if_neg (by rw [hcs]; decide))
   have HCS := Lib.hid hcs
   clear hcs
   clear hv
   clear hid hs
   go_enter Tryz.func28, Tryz.ntmps28
   go_wp2_with (first | (go_at_call 67; refine (HVAL.out _).mono ?_; rintro e w1 ⟨rfl, hb1⟩; have HS1 := Lib.hid (HS0.out.older hb1); clear hb1; obtain ⟨⟨c0, c1, c2, c3⟩, ⟨d0, d1, d2⟩, ⟨⟨e0, e1, e2, e3⟩, ⟨g0, g1, g2, g3⟩⟩, ⟨n0, n1, n2, n3⟩, hz⟩ := HS1.out.facts))
   obtain ⟨⟨z0, z1, z2, z3⟩, hbf⟩ := HS1.out.bg.cells4 (.string ⟨#[]⟩) (.string ⟨#[]⟩) (.string ⟨#[]⟩) (.bool false)
   refine bodyPost_ret (v := .tuple #[adV ⟨[], [], [], false⟩, .int .i64 2]) (by simp [results, Tryz.results28, go_sem, z0, z1, z2, z3]) rfl ⟨?_, hbf⟩
   rw [HC.out, HCS.out]
 | true =>
   have HVAL : Hid (∀ wz, Calls Tryz.prog 67 #[.agg #[.string ⟨h.toArray⟩, .string ⟨p.toArray⟩, .string ⟨q.toArray⟩, .bool b]] wz fun e w' => e = .returned (.bool true) ∧ Below wz.heap.size wz w') := Lib.hid (fun wz => by have h9 := refValid_any ⟨h, p, q, b⟩ wz (by simp only; omega) (by simp only; omega) (by simp only; omega); rw [hv] at h9; exact h9)
   cases hp : plainQ q with
   | false =>
     have HPLN : Hid (∀ wz, Calls Tryz.prog 68 #[.agg #[.string ⟨h.toArray⟩, .string ⟨p.toArray⟩, .string ⟨q.toArray⟩, .bool b]] wz fun e w' => e = .returned (.bool true) ∧ Below wz.heap.size wz w') := Lib.hid (fun wz => by have h9 := reserved_any ⟨h, p, q, b⟩ wz (by simp only; omega); rw [resB_of hv, show plainQ (Adr.mk h p q b).query = false from hp] at h9; exact h9)
     have hcs : checkS ⟨h, p, q, b⟩ ⟨id, frm, til⟩ = 2 := by unfold checkS; exact if_pos (.inr (.inl hp))
     have HC := Lib.hid (show signA ⟨h, p, q, b⟩ ⟨id, frm, til⟩ sec = ⟨[], [], [], false⟩ from if_neg (by rw [hcs]; decide))
     have HCS := Lib.hid hcs
     clear hcs
     clear hv hp
     clear hid hs
     go_enter Tryz.func28, Tryz.ntmps28
     go_wp2_with (first | (go_at_call 67; refine (HVAL.out _).mono ?_; rintro e w1 ⟨rfl, hb1⟩; have HS1 := Lib.hid (HS0.out.older hb1); clear hb1; obtain ⟨⟨c0, c1, c2, c3⟩, ⟨d0, d1, d2⟩, ⟨⟨e0, e1, e2, e3⟩, ⟨g0, g1, g2, g3⟩⟩, ⟨n0, n1, n2, n3⟩, hz⟩ := HS1.out.facts) | (go_at_call 68; refine (HPLN.out _).mono ?_; rintro e w2 ⟨rfl, hb2⟩; have HS2 := Lib.hid (HS1.out.older hb2); clear c0 c1 c2 c3 d0 d1 d2 e0 e1 e2 e3 g0 g1 g2 g3 n0 n1 n2 n3 hz hb2; obtain ⟨⟨c0, c1, c2, c3⟩, ⟨d0, d1, d2⟩, ⟨⟨e0, e1, e2, e3⟩, ⟨g0, g1, g2, g3⟩⟩, ⟨n0, n1, n2, n3⟩, hz⟩ := HS2.out.facts))
     obtain ⟨⟨z0, z1, z2, z3⟩, hbf⟩ := HS2.out.bg.cells4 (.string ⟨#[]⟩) (.string ⟨#[]⟩) (.string ⟨#[]⟩) (.bool false)
     refine bodyPost_ret (v := .tuple #[adV ⟨[], [], [], false⟩, .int .i64 2]) (by simp [results, Tryz.results28, go_sem, z0, z1, z2, z3]) rfl ⟨?_, hbf⟩
     rw [HC.out, HCS.out]
   | true =>
     have HPLN : Hid (∀ wz, Calls Tryz.prog 68 #[.agg #[.string ⟨h.toArray⟩, .string ⟨p.toArray⟩, .string ⟨q.toArray⟩, .bool b]] wz fun e w' => e = .returned (.bool false) ∧ Below wz.heap.size wz w') := Lib.hid (fun wz => by have h9 := reserved_any ⟨h, p, q, b⟩ wz (by simp only; omega); rw [resB_of hv, show plainQ (Adr.mk h p q b).query = true from hp] at h9; exact h9)
     cases hi : idOk id with
     | false =>
       have HNAM : Hid (∀ wz, Calls Tryz.prog 65 #[.string ⟨id.toArray⟩] wz fun e w' => e = .returned (.bool false) ∧ wz = w') := Lib.hid (fun wz => by have h9 := refID_wide id wz (by omega); rw [hi] at h9; exact h9)
       have hcs : checkS ⟨h, p, q, b⟩ ⟨id, frm, til⟩ = 2 := by unfold checkS; exact if_pos (.inr (.inr hi))
       have HC := Lib.hid (show signA ⟨h, p, q, b⟩ ⟨id, frm, til⟩ sec = ⟨[], [], [], false⟩ from if_neg (by rw [hcs]; decide))
       have HCS := Lib.hid hcs
       clear hcs
       clear hv hp hi
       clear hid hs
       go_enter Tryz.func28, Tryz.ntmps28
       go_wp2_with (first | (go_at_call 67; refine (HVAL.out _).mono ?_; rintro e w1 ⟨rfl, hb1⟩; have HS1 := Lib.hid (HS0.out.older hb1); clear hb1; obtain ⟨⟨c0, c1, c2, c3⟩, ⟨d0, d1, d2⟩, ⟨⟨e0, e1, e2, e3⟩, ⟨g0, g1, g2, g3⟩⟩, ⟨n0, n1, n2, n3⟩, hz⟩ := HS1.out.facts) | (go_at_call 68; refine (HPLN.out _).mono ?_; rintro e w2 ⟨rfl, hb2⟩; have HS2 := Lib.hid (HS1.out.older hb2); clear c0 c1 c2 c3 d0 d1 d2 e0 e1 e2 e3 g0 g1 g2 g3 n0 n1 n2 n3 hz hb2; obtain ⟨⟨c0, c1, c2, c3⟩, ⟨d0, d1, d2⟩, ⟨⟨e0, e1, e2, e3⟩, ⟨g0, g1, g2, g3⟩⟩, ⟨n0, n1, n2, n3⟩, hz⟩ := HS2.out.facts) | (go_at_call 65; refine (HNAM.out _).mono ?_; rintro e w3 ⟨rfl, rfl⟩))
       obtain ⟨⟨z0, z1, z2, z3⟩, hbf⟩ := HS2.out.bg.cells4 (.string ⟨#[]⟩) (.string ⟨#[]⟩) (.string ⟨#[]⟩) (.bool false)
       refine bodyPost_ret (v := .tuple #[adV ⟨[], [], [], false⟩, .int .i64 2]) (by simp [results, Tryz.results28, go_sem, z0, z1, z2, z3]) rfl ⟨?_, hbf⟩
       rw [HC.out, HCS.out]
     | true => exact absurd (idOk_len hi) (by omega)
end Sg
end Go.Proofs.YtpkhbhdidkkebaaGreatDoor
end

section
namespace Go.Proofs.YtpkhbhdidkkebaaGreatDoor
open Go.RowKit Pl
set_option maxRecDepth 100000
set_option maxHeartbeats 1000000
set_option linter.unusedVariables false
namespace Sg
open Go.ChangeShapes Go.WideShapes Go.Deep A1
def shortC (n : Nat) : List Value := [.int .u16 (n : Int)]
theorem short_trod {H : Type} {enc : TypeId × Value → H} {w : World} {base n : Nat} {spare : Nat → Bool} {held : Bool} {cs : List Value} {y : DataW H × List MemPlace} (_hl : cs.length = 1)
    (h : DataW.trod enc Tryz.prog w base spare held n 24 cs = some y) : ∃ b : Nat, cs = shortC b ∧ b < 65536 := by
 obtain ⟨d, p⟩ := y
 obtain ⟨k, e, _, hw⟩ := DataW.trod_int Tryz.underlying24 h
 have e1 : IntKind.min .u16 = 0 := rfl
 have e2 : IntKind.max .u16 = 65535 := rfl
 simp only [Lit.wf, Bool.and_eq_true, decide_eq_true_eq, e1, e2] at hw
 refine ⟨k.toNat, ?_, by omega⟩
 rw [e]
 unfold shortC
 rw [Int.toNat_of_nonneg (by omega)]
theorem open_shorts {H : Type} {enc : TypeId × Value → H} {w : World} {base fuel : Nat} {spare : Nat → Bool} {held : Bool} {v : Value} {d : DataW H} {p : List MemPlace}
    (h : DataW.trod enc Tryz.prog w base spare held fuel 87 [v] = some (d, p)) : ∃ xs : List Nat, RowsV shortC 1 w v xs ∧ xs.length ≤ 9223372036854775807 ∧ ∀ x ∈ xs, x < 65536 := by
 obtain ⟨xs, h1, h2, h3⟩ := Op.open_rows (R := shortC) (k := 1) (fun n => n < 65536) Tryz.underlying87 (by kernel_rfl) (by decide) (fun n cs y hl h => short_trod hl h) h
 exact ⟨xs, h1, h2, h3⟩
theorem open_pair {H : Type} {enc : TypeId × Value → H} {w : World} {base n : Nat} {spare : Nat → Bool} {held : Bool} {c0 c1 : Value} {x : DataW H × List MemPlace}
    (h : DataW.trod enc Tryz.prog w base spare held n 86 [c0, c1] = some x) : ∃ a b : Nat, c0 = .int .u16 (a : Int) ∧ c1 = .int .u16 (b : Int) ∧ a < 65536 ∧ b < 65536 := by
 match n, h with
 | k + 1, h =>
   unfold DataW.trod at h
   rw [Tryz.underlying86] at h
   have r2 : List.range 2 = [0, 1] := rfl
   have hce : Tryz.prog.cellsOf 24 = 1 := by kernel_rfl
   simp [r2, hce] at h
   obtain ⟨_, h⟩ := h
   match h0 : DataW.trod enc Tryz.prog w base spare held k 24 [c0], h1 : DataW.trod enc Tryz.prog w base spare held k 24 [c1] with
   | none, _ => simp [h0] at h
   | some y0, none => simp [h0, h1] at h
   | some y0, some y1 =>
     obtain ⟨a, ha, la⟩ := short_trod rfl h0
     obtain ⟨b, hb, lb⟩ := short_trod rfl h1
     exact ⟨a, b, (List.cons.inj ha).1, (List.cons.inj hb).1, la, lb⟩
theorem open_pair_arg {H : Type} {enc : TypeId × Value → H} {w : World} {base : Nat} {spare : Nat → Bool} {held : Bool} {v : Value} {d : DataW H} {p : List MemPlace} {r : Reach} {b0 : Nat}
    (hv : Value.okWide Tryz.prog w r b0 86 v) (h : DataW.Trod enc Tryz.prog w base spare held 86 v d p) : ∃ a b : Nat, v = .agg #[.int .u16 (a : Int), .int .u16 (b : Int)] ∧ a < 65536 ∧ b < 65536 := by
 simp only [Value.okWide, Tryz.underlying86] at hv
 obtain ⟨cs, rfl, h2, _⟩ := hv
 obtain ⟨c0, c1, rfl⟩ : ∃ c0 c1, cs = #[c0, c1] := by
  obtain ⟨l⟩ := cs
  have h3 : l.length = 2 := (show l.length = _ from by simpa using h2).trans (show Tryz.prog.cellsOf 86 = 2 by kernel_rfl)
  match l, h3 with
  | [x, y], _ => exact ⟨x, y, rfl⟩
 obtain ⟨fuel, hf⟩ := h
 obtain ⟨a, b, e0, e1, la, lb⟩ := open_pair (by simpa [Value.cells] using hf)
 exact ⟨a, b, by rw [e0, e1], la, lb⟩
end Sg
end Go.Proofs.YtpkhbhdidkkebaaGreatDoor
end

