/- Contracts and plain facts that the statement's proof leans on (texts joined). No condition beyond those that each names. -/
import Derived.Deep.RegionHeld3
import Derived.OrdersHeld
import Derived.Test.YtpkhbhdidkkebaaGreatDoorPvb
section
namespace Go.Proofs.YtpkhbhdidkkebaaGreatDoor
open Go.RowKit Pl Ad Go.Shelf
attribute [local go_sem] ba_get ba_append ba_extract_end ba_extract_zero ba_extract conv_one
set_option maxRecDepth 100000
set_option maxHeartbeats 4000000
set_option linter.unusedVariables false
set_option linter.unusedSimpArgs false
namespace Sg
open Kr A1 Dg
/-- Within the reference's Sign: the address, the token, the result, the zero address. -/
structure RgS (w0 w : World) (a : Adr) (t : TokM) : Prop where
 bg : BgS w0 w 63 64 a t (#[.string ⟨#[]⟩, .string ⟨#[]⟩, .string ⟨#[]⟩, .bool false])
 nb : Bx w (w0.heap.size + 3) 63 (#[.string ⟨#[]⟩, .string ⟨#[]⟩, .string ⟨#[]⟩, .bool false])
theorem RgS.older {w0 w w' : World} {a : Adr} {t : TokM} (h : RgS w0 w a t) (hb : Below w.heap.size w w') : RgS w0 w' a t := ⟨h.bg.older hb, h.nb.older hb⟩
theorem rgS_new (w : World) (h p q id : Bs) (b : Bool) (frm til : Int) : RgS w ((((w.alloc (.cells #[.string ⟨h.toArray⟩, .string ⟨p.toArray⟩, .string ⟨q.toArray⟩, .bool b] 63)).alloc (.cells #[.string ⟨id.toArray⟩, .int .i64 frm, .int .i64 til] 64)).alloc (.cells (#[.string ⟨#[]⟩, .string ⟨#[]⟩, .string ⟨#[]⟩, .bool false]) 63)).alloc (.cells (#[.string ⟨#[]⟩, .string ⟨#[]⟩, .string ⟨#[]⟩, .bool false]) 63)) ⟨h, p, q, b⟩ ⟨id, frm, til⟩ := by
 refine ⟨(bgS_new w 63 64 h p q id b frm til (#[.string ⟨#[]⟩, .string ⟨#[]⟩, .string ⟨#[]⟩, .bool false])).older ((Below.refl _ _).alloc (Nat.le_refl _) _), ?_⟩
 have h9 := Bx.new (((w.alloc (.cells #[.string ⟨h.toArray⟩, .string ⟨p.toArray⟩, .string ⟨q.toArray⟩, .bool b] 63)).alloc (.cells #[.string ⟨id.toArray⟩, .int .i64 frm, .int .i64 til] 64)).alloc (.cells (#[.string ⟨#[]⟩, .string ⟨#[]⟩, .string ⟨#[]⟩, .bool false]) 63)) 63 (#[.string ⟨#[]⟩, .string ⟨#[]⟩, .string ⟨#[]⟩, .bool false])
 rw [show (((w.alloc (.cells #[.string ⟨h.toArray⟩, .string ⟨p.toArray⟩, .string ⟨q.toArray⟩, .bool b] 63)).alloc (.cells #[.string ⟨id.toArray⟩, .int .i64 frm, .int .i64 til] 64)).alloc (.cells (#[.string ⟨#[]⟩, .string ⟨#[]⟩, .string ⟨#[]⟩, .bool false]) 63)).heap.size = w.heap.size + 3 by simp] at h9
 exact h9
theorem RgS.facts {w0 w : World} {a : Adr} {t : TokM} (h : RgS w0 w a t) :
 (w.cell? ⟨w0.heap.size, 0, none⟩ = some (.string ⟨a.host.toArray⟩) ∧ w.cell? ⟨w0.heap.size, 1, none⟩ = some (.string ⟨a.path.toArray⟩) ∧ w.cell? ⟨w0.heap.size, 2, none⟩ = some (.string ⟨a.query.toArray⟩) ∧ w.cell? ⟨w0.heap.size, 3, none⟩ = some (.bool a.has)) ∧
 (w.cell? ⟨w0.heap.size + 1, 0, none⟩ = some (.string ⟨t.id.toArray⟩) ∧ w.cell? ⟨w0.heap.size + 1, 1, none⟩ = some (.int .i64 t.frm) ∧ w.cell? ⟨w0.heap.size + 1, 2, none⟩ = some (.int .i64 t.til)) ∧
 ((w.cell? ⟨w0.heap.size + 2, 0, none⟩ = some (.string ⟨#[]⟩) ∧ w.cell? ⟨w0.heap.size + 2, 1, none⟩ = some (.string ⟨#[]⟩) ∧ w.cell? ⟨w0.heap.size + 2, 2, none⟩ = some (.string ⟨#[]⟩) ∧ w.cell? ⟨w0.heap.size + 2, 3, none⟩ = some (.bool false)) ∧
  (w.frozen? ⟨w0.heap.size + 2, 0, none⟩ = false ∧ w.frozen? ⟨w0.heap.size + 2, 1, none⟩ = false ∧ w.frozen? ⟨w0.heap.size + 2, 2, none⟩ = false ∧ w.frozen? ⟨w0.heap.size + 2, 3, none⟩ = false)) ∧
 (w.cell? ⟨w0.heap.size + 3, 0, none⟩ = some (.string ⟨#[]⟩) ∧ w.cell? ⟨w0.heap.size + 3, 1, none⟩ = some (.string ⟨#[]⟩) ∧ w.cell? ⟨w0.heap.size + 3, 2, none⟩ = some (.string ⟨#[]⟩) ∧ w.cell? ⟨w0.heap.size + 3, 3, none⟩ = some (.bool false)) ∧ w0.heap.size + 3 < w.heap.size :=
 ⟨h.bg.facts.1.1, h.bg.facts.2.1, h.bg.facts.2.2.1, ⟨h.nb.cell (i := 0) rfl, h.nb.cell (i := 1) rfl, h.nb.cell (i := 2) rfl, h.nb.cell (i := 3) rfl⟩, h.nb.lt⟩
theorem RgS.set4 {w0 w : World} {a : Adr} {t : TokM} (h : RgS w0 w a t) {R : Nat} (hR : w0.heap.size + 3 < R) (u0 u1 u2 u3 : Value) : RgS w0 ((((w.setCell ⟨R, 0, none⟩ u0).setCell ⟨R, 1, none⟩ u1).setCell ⟨R, 2, none⟩ u2).setCell ⟨R, 3, none⟩ u3) a t :=
 have st : ∀ {w : World} {Q T i : Nat} {cs : Array Value} {u : Value}, Bx w Q T cs → ¬ Q = R → Bx (w.setCell ⟨R, i, none⟩ u) Q T cs := fun h hne => h.touch (touch_set1 _ _ _ _) hne
 have s4 : ∀ {Q T : Nat} {cs : Array Value}, Bx w Q T cs → ¬ Q = R → Bx ((((w.setCell ⟨R, 0, none⟩ u0).setCell ⟨R, 1, none⟩ u1).setCell ⟨R, 2, none⟩ u2).setCell ⟨R, 3, none⟩ u3) Q T cs := fun h hne => st (st (st (st h hne) hne) hne) hne
 ⟨⟨Box.set h.bg.bel (by omega) _ _ _ _, s4 h.bg.ab (by omega), s4 h.bg.tb (by omega), s4 h.bg.rb (by omega)⟩, s4 h.nb (by omega)⟩
theorem resB_of {a : Adr} (h : valid a = true) : resB a = !plainQ a.query := by
 unfold resB
 cases hb : a.has with
 | true => rw [Bool.true_and]
 | false => rw [valid_has h hb]; rfl
theorem signed_len (a : Adr) (t : TokM) (s : Bs) (hs : s.length = 32) : (signed a t s).text.length = (Ad.begun a t).text.length + 36 := by
 rw [signed_text, List.length_append, List.length_cons, List.length_append, hs]; rfl
theorem rsign_any (a : Adr) (t : TokM) (sa : Option Addr) (sc : Nat) (sec : Bs) (w : World) (hs : SrcAt w (.slice sa sec.length sc) sec.length (bvals sec)) (h1 : a.host.length ≤ 33554432) (h2 : a.path.length ≤ 33554432) (h3 : a.query.length ≤ 33554432) (hid : t.id.length ≤ 33554432) (hsl : sec.length ≤ 134217728) :
 Calls Tryz.prog 28 #[adV a, tkV t, .slice sa sec.length sc] w fun e w' => e = .returned (.tuple #[adV (signA a t sec), .int .i64 (checkS a t)]) ∧ Below w.heap.size w w' := by
 obtain ⟨h, p, q, b⟩ := a
 obtain ⟨id, frm, til⟩ := t
 simp only at h1 h2 h3 hid
 have HSC := Lib.hid hs
 have HS0 := Lib.hid (rgS_new w h p q id b frm til)
 cases hv : valid ⟨h, p, q, b⟩ with
 | false =>
   have HVAL : Hid (∀ wz, Calls Tryz.prog 67 #[.agg #[.string ⟨h.toArray⟩, .string ⟨p.toArray⟩, .string ⟨q.toArray⟩, .bool b]] wz fun e w' => e = .returned (.bool false) ∧ Below wz.heap.size wz w') := Lib.hid (fun wz => by have h9 := refValid_any ⟨h, p, q, b⟩ wz (by simp only; omega) (by simp only; omega) (by simp only; omega); rw [hv] at h9; exact h9)
   have hcs : checkS ⟨h, p, q, b⟩ ⟨id, frm, til⟩ = 2 := by unfold checkS; exact if_pos (.inl hv)
   have HC := Lib.hid (show signA ⟨h, p, q, b⟩ ⟨id, frm, til⟩ sec = ⟨[], [], [], false⟩ from if_neg (by rw [hcs]; decide))
   have HCS := Lib.hid hcs
   clear hcs
   clear hv
   clear hid hs
   go_enter Tryz.func28, Tryz.ntmps28
   go_wp2_with (first | (go_at_call 67; refine (HVAL.out _).mono ?_; rintro e w1 ⟨rfl, hb1⟩; have HS1 := Lib.hid (HS0.out.older hb1); clear hb1; obtain ⟨⟨c0, c1, c2, c3⟩, ⟨d0, d1, d2⟩, ⟨⟨e0, e1, e2, e3⟩, ⟨g0, g1, g2, g3⟩⟩, ⟨n0, n1, n2, n3⟩, hz⟩ := HS1.out.facts))
   obtain ⟨⟨z0, z1, z2, z3⟩, hbf⟩ := HS1.out.bg.cells4 (.string ⟨#[]⟩) (.string ⟨#[]⟩) (.string ⟨#[]⟩) (.bool false)
   refine bodyPost_ret (v := .tuple #[adV ⟨[], [], [], false⟩, .int .i64 2]) (by simp [results, Tryz.results28, go_sem, z0, z1, z2, z3]) rfl ⟨?_, hbf⟩
   rw [HC.out, HCS.out]
 | true =>
   have HVAL : Hid (∀ wz, Calls Tryz.prog 67 #[.agg #[.string ⟨h.toArray⟩, .string ⟨p.toArray⟩, .string ⟨q.toArray⟩, .bool b]] wz fun e w' => e = .returned (.bool true) ∧ Below wz.heap.size wz w') := Lib.hid (fun wz => by have h9 := refValid_any ⟨h, p, q, b⟩ wz (by simp only; omega) (by simp only; omega) (by simp only; omega); rw [hv] at h9; exact h9)
   cases hp : plainQ q with
   | false =>
     have HPLN : Hid (∀ wz, Calls Tryz.prog 68 #[.agg #[.string ⟨h.toArray⟩, .string ⟨p.toArray⟩, .string ⟨q.toArray⟩, .bool b]] wz fun e w' => e = .returned (.bool true) ∧ Below wz.heap.size wz w') := Lib.hid (fun wz => by have h9 := reserved_any ⟨h, p, q, b⟩ wz (by simp only; omega); rw [resB_of hv, show plainQ (Adr.mk h p q b).query = false from hp] at h9; exact h9)
     have hcs : checkS ⟨h, p, q, b⟩ ⟨id, frm, til⟩ = 2 := by unfold checkS; exact if_pos (.inr (.inl hp))
     have HC := Lib.hid (show signA ⟨h, p, q, b⟩ ⟨id, frm, til⟩ sec = ⟨[], [], [], false⟩ from if_neg (by rw [hcs]; decide))
     have HCS := Lib.hid hcs
     clear hcs
     clear hv hp
     clear hid hs
     go_enter Tryz.func28, Tryz.ntmps28
     go_wp2_with (first | (go_at_call 67; refine (HVAL.out _).mono ?_; rintro e w1 ⟨rfl, hb1⟩; have HS1 := Lib.hid (HS0.out.older hb1); clear hb1; obtain ⟨⟨c0, c1, c2, c3⟩, ⟨d0, d1, d2⟩, ⟨⟨e0, e1, e2, e3⟩, ⟨g0, g1, g2, g3⟩⟩, ⟨n0, n1, n2, n3⟩, hz⟩ := HS1.out.facts) | (go_at_call 68; refine (HPLN.out _).mono ?_; rintro e w2 ⟨rfl, hb2⟩; have HS2 := Lib.hid (HS1.out.older hb2); clear c0 c1 c2 c3 d0 d1 d2 e0 e1 e2 e3 g0 g1 g2 g3 n0 n1 n2 n3 hz hb2; obtain ⟨⟨c0, c1, c2, c3⟩, ⟨d0, d1, d2⟩, ⟨⟨e0, e1, e2, e3⟩, ⟨g0, g1, g2, g3⟩⟩, ⟨n0, n1, n2, n3⟩, hz⟩ := HS2.out.facts))
     obtain ⟨⟨z0, z1, z2, z3⟩, hbf⟩ := HS2.out.bg.cells4 (.string ⟨#[]⟩) (.string ⟨#[]⟩) (.string ⟨#[]⟩) (.bool false)
     refine bodyPost_ret (v := .tuple #[adV ⟨[], [], [], false⟩, .int .i64 2]) (by simp [results, Tryz.results28, go_sem, z0, z1, z2, z3]) rfl ⟨?_, hbf⟩
     rw [HC.out, HCS.out]
   | true =>
     have HPLN : Hid (∀ wz, Calls Tryz.prog 68 #[.agg #[.string ⟨h.toArray⟩, .string ⟨p.toArray⟩, .string ⟨q.toArray⟩, .bool b]] wz fun e w' => e = .returned (.bool false) ∧ Below wz.heap.size wz w') := Lib.hid (fun wz => by have h9 := reserved_any ⟨h, p, q, b⟩ wz (by simp only; omega); rw [resB_of hv, show plainQ (Adr.mk h p q b).query = true from hp] at h9; exact h9)
     cases hi : idOk id with
     | false =>
       have HNAM : Hid (∀ wz, Calls Tryz.prog 65 #[.string ⟨id.toArray⟩] wz fun e w' => e = .returned (.bool false) ∧ wz = w') := Lib.hid (fun wz => by have h9 := refID_any id wz (by omega); rw [hi] at h9; exact h9)
       have hcs : checkS ⟨h, p, q, b⟩ ⟨id, frm, til⟩ = 2 := by unfold checkS; exact if_pos (.inr (.inr hi))
       have HC := Lib.hid (show signA ⟨h, p, q, b⟩ ⟨id, frm, til⟩ sec = ⟨[], [], [], false⟩ from if_neg (by rw [hcs]; decide))
       have HCS := Lib.hid hcs
       clear hcs
       clear hv hp hi
       clear hid hs
       go_enter Tryz.func28, Tryz.ntmps28
       go_wp2_with (first | (go_at_call 67; refine (HVAL.out _).mono ?_; rintro e w1 ⟨rfl, hb1⟩; have HS1 := Lib.hid (HS0.out.older hb1); clear hb1; obtain ⟨⟨c0, c1, c2, c3⟩, ⟨d0, d1, d2⟩, ⟨⟨e0, e1, e2, e3⟩, ⟨g0, g1, g2, g3⟩⟩, ⟨n0, n1, n2, n3⟩, hz⟩ := HS1.out.facts) | (go_at_call 68; refine (HPLN.out _).mono ?_; rintro e w2 ⟨rfl, hb2⟩; have HS2 := Lib.hid (HS1.out.older hb2); clear c0 c1 c2 c3 d0 d1 d2 e0 e1 e2 e3 g0 g1 g2 g3 n0 n1 n2 n3 hz hb2; obtain ⟨⟨c0, c1, c2, c3⟩, ⟨d0, d1, d2⟩, ⟨⟨e0, e1, e2, e3⟩, ⟨g0, g1, g2, g3⟩⟩, ⟨n0, n1, n2, n3⟩, hz⟩ := HS2.out.facts) | (go_at_call 65; refine (HNAM.out _).mono ?_; rintro e w3 ⟨rfl, rfl⟩))
       obtain ⟨⟨z0, z1, z2, z3⟩, hbf⟩ := HS2.out.bg.cells4 (.string ⟨#[]⟩) (.string ⟨#[]⟩) (.string ⟨#[]⟩) (.bool false)
       refine bodyPost_ret (v := .tuple #[adV ⟨[], [], [], false⟩, .int .i64 2]) (by simp [results, Tryz.results28, go_sem, z0, z1, z2, z3]) rfl ⟨?_, hbf⟩
       rw [HC.out, HCS.out]
     | true =>
       have HNAM : Hid (∀ wz, Calls Tryz.prog 65 #[.string ⟨id.toArray⟩] wz fun e w' => e = .returned (.bool true) ∧ wz = w') := Lib.hid (fun wz => by have h9 := refID_any id wz (by omega); rw [hi] at h9; exact h9)
       have hno : ¬ (valid ⟨h, p, q, b⟩ = false ∨ plainQ q = false ∨ idOk id = false) := by rw [hv, hp, hi]; simp
       by_cases hft : til ≤ frm
       ·have hcs : checkS ⟨h, p, q, b⟩ ⟨id, frm, til⟩ = 7 := by unfold checkS; rw [if_neg hno, if_pos hft]
        have HC := Lib.hid (show signA ⟨h, p, q, b⟩ ⟨id, frm, til⟩ sec = ⟨[], [], [], false⟩ from if_neg (by rw [hcs]; decide))
        have HCS := Lib.hid hcs
        clear hcs
        clear hv hp hi hno
        clear hid hs
        go_enter Tryz.func28, Tryz.ntmps28
        go_wp2_with (first | (go_at_call 67; refine (HVAL.out _).mono ?_; rintro e w1 ⟨rfl, hb1⟩; have HS1 := Lib.hid (HS0.out.older hb1); clear hb1; obtain ⟨⟨c0, c1, c2, c3⟩, ⟨d0, d1, d2⟩, ⟨⟨e0, e1, e2, e3⟩, ⟨g0, g1, g2, g3⟩⟩, ⟨n0, n1, n2, n3⟩, hz⟩ := HS1.out.facts) | (go_at_call 68; refine (HPLN.out _).mono ?_; rintro e w2 ⟨rfl, hb2⟩; have HS2 := Lib.hid (HS1.out.older hb2); clear c0 c1 c2 c3 d0 d1 d2 e0 e1 e2 e3 g0 g1 g2 g3 n0 n1 n2 n3 hz hb2; obtain ⟨⟨c0, c1, c2, c3⟩, ⟨d0, d1, d2⟩, ⟨⟨e0, e1, e2, e3⟩, ⟨g0, g1, g2, g3⟩⟩, ⟨n0, n1, n2, n3⟩, hz⟩ := HS2.out.facts) | (go_at_call 65; refine (HNAM.out _).mono ?_; rintro e w3 ⟨rfl, rfl⟩))
        obtain ⟨⟨z0, z1, z2, z3⟩, hbf⟩ := HS2.out.bg.cells4 (.string ⟨#[]⟩) (.string ⟨#[]⟩) (.string ⟨#[]⟩) (.bool false)
        refine bodyPost_ret (v := .tuple #[adV ⟨[], [], [], false⟩, .int .i64 7]) (by simp [results, Tryz.results28, go_sem, z0, z1, z2, z3]) rfl ⟨?_, hbf⟩
        rw [HC.out, HCS.out]
       ·by_cases h0 : frm < 0
        ·have hcs : checkS ⟨h, p, q, b⟩ ⟨id, frm, til⟩ = 1 := by unfold checkS; rw [if_neg hno, if_neg hft, if_pos (.inl h0)]
         have HC := Lib.hid (show signA ⟨h, p, q, b⟩ ⟨id, frm, til⟩ sec = ⟨[], [], [], false⟩ from if_neg (by rw [hcs]; decide))
         have HCS := Lib.hid hcs
         clear hcs
         clear hv hp hi hno
         clear hid hs
         go_enter Tryz.func28, Tryz.ntmps28
         go_wp2_with (first | (go_at_call 67; refine (HVAL.out _).mono ?_; rintro e w1 ⟨rfl, hb1⟩; have HS1 := Lib.hid (HS0.out.older hb1); clear hb1; obtain ⟨⟨c0, c1, c2, c3⟩, ⟨d0, d1, d2⟩, ⟨⟨e0, e1, e2, e3⟩, ⟨g0, g1, g2, g3⟩⟩, ⟨n0, n1, n2, n3⟩, hz⟩ := HS1.out.facts) | (go_at_call 68; refine (HPLN.out _).mono ?_; rintro e w2 ⟨rfl, hb2⟩; have HS2 := Lib.hid (HS1.out.older hb2); clear c0 c1 c2 c3 d0 d1 d2 e0 e1 e2 e3 g0 g1 g2 g3 n0 n1 n2 n3 hz hb2; obtain ⟨⟨c0, c1, c2, c3⟩, ⟨d0, d1, d2⟩, ⟨⟨e0, e1, e2, e3⟩, ⟨g0, g1, g2, g3⟩⟩, ⟨n0, n1, n2, n3⟩, hz⟩ := HS2.out.facts) | (go_at_call 65; refine (HNAM.out _).mono ?_; rintro e w3 ⟨rfl, rfl⟩))
         obtain ⟨⟨z0, z1, z2, z3⟩, hbf⟩ := HS2.out.bg.cells4 (.string ⟨#[]⟩) (.string ⟨#[]⟩) (.string ⟨#[]⟩) (.bool false)
         refine bodyPost_ret (v := .tuple #[adV ⟨[], [], [], false⟩, .int .i64 1]) (by simp [results, Tryz.results28, go_sem, z0, z1, z2, z3]) rfl ⟨?_, hbf⟩
         rw [HC.out, HCS.out]
        ·by_cases hm : 1099511627776 < til
         ·have hcs : checkS ⟨h, p, q, b⟩ ⟨id, frm, til⟩ = 1 := by unfold checkS; rw [if_neg hno, if_neg hft, if_pos (.inr hm)]
          have HC := Lib.hid (show signA ⟨h, p, q, b⟩ ⟨id, frm, til⟩ sec = ⟨[], [], [], false⟩ from if_neg (by rw [hcs]; decide))
          have HCS := Lib.hid hcs
          clear hcs
          clear hv hp hi hno
          clear hid hs
          go_enter Tryz.func28, Tryz.ntmps28
          go_wp2_with (first | (go_at_call 67; refine (HVAL.out _).mono ?_; rintro e w1 ⟨rfl, hb1⟩; have HS1 := Lib.hid (HS0.out.older hb1); clear hb1; obtain ⟨⟨c0, c1, c2, c3⟩, ⟨d0, d1, d2⟩, ⟨⟨e0, e1, e2, e3⟩, ⟨g0, g1, g2, g3⟩⟩, ⟨n0, n1, n2, n3⟩, hz⟩ := HS1.out.facts) | (go_at_call 68; refine (HPLN.out _).mono ?_; rintro e w2 ⟨rfl, hb2⟩; have HS2 := Lib.hid (HS1.out.older hb2); clear c0 c1 c2 c3 d0 d1 d2 e0 e1 e2 e3 g0 g1 g2 g3 n0 n1 n2 n3 hz hb2; obtain ⟨⟨c0, c1, c2, c3⟩, ⟨d0, d1, d2⟩, ⟨⟨e0, e1, e2, e3⟩, ⟨g0, g1, g2, g3⟩⟩, ⟨n0, n1, n2, n3⟩, hz⟩ := HS2.out.facts) | (go_at_call 65; refine (HNAM.out _).mono ?_; rintro e w3 ⟨rfl, rfl⟩))
          obtain ⟨⟨z0, z1, z2, z3⟩, hbf⟩ := HS2.out.bg.cells4 (.string ⟨#[]⟩) (.string ⟨#[]⟩) (.string ⟨#[]⟩) (.bool false)
          refine bodyPost_ret (v := .tuple #[adV ⟨[], [], [], false⟩, .int .i64 1]) (by simp [results, Tryz.results28, go_sem, z0, z1, z2, z3]) rfl ⟨?_, hbf⟩
          rw [HC.out, HCS.out]
         ·obtain ⟨l1, l2, l3, l4⟩ := begun_lens ⟨h, p, q, b⟩ ⟨id, frm, til⟩ (by simp only; omega) (by simp only; omega)
          have HPAR0 := fun wz => parts_any ⟨h, p, q, b⟩ ⟨id, frm, til⟩ wz (by simp only; omega) (by simp only; omega) (by simp only; omega) (by simp only; omega) (by simp only; omega) (by simp only; omega)
          have HSIG0 := fun wz hz => rsignature_any ⟨h, p, q, b⟩ ⟨id, frm, til⟩ sa sc sec wz hz (by simp only; omega) (by simp only; omega) (by simp only; omega) (by simp only; omega) (by simp only; omega) (by simp only; omega) (by simp only; omega) (by simp only; omega) hsl
          have hln0 := signed_len ⟨h, p, q, b⟩ ⟨id, frm, til⟩ (sigM mixM sec (Ad.begun ⟨h, p, q, b⟩ ⟨id, frm, til⟩).text) (sigM_len _ _ _)
          have hcs0 : checkS ⟨h, p, q, b⟩ ⟨id, frm, til⟩ = if 1024 < (Ad.begun ⟨h, p, q, b⟩ ⟨id, frm, til⟩).text.length + 36 then 5 else 0 := by unfold checkS; rw [if_neg hno, if_neg hft, if_neg (by simp only; omega)]
          have hsa0 : signA ⟨h, p, q, b⟩ ⟨id, frm, til⟩ sec = if checkS ⟨h, p, q, b⟩ ⟨id, frm, til⟩ = 0 then signed ⟨h, p, q, b⟩ ⟨id, frm, til⟩ (sigM mixM sec (Ad.begun ⟨h, p, q, b⟩ ⟨id, frm, til⟩).text) else ⟨[], [], [], false⟩ := rfl
          rw [← hln0] at hcs0
          clear hln0
          have hsd0 : signed ⟨h, p, q, b⟩ ⟨id, frm, til⟩ (sigM mixM sec (Ad.begun ⟨h, p, q, b⟩ ⟨id, frm, til⟩).text) = (Ad.begun ⟨h, p, q, b⟩ ⟨id, frm, til⟩).plus (pS ++ sigM mixM sec (Ad.begun ⟨h, p, q, b⟩ ⟨id, frm, til⟩).text) := rfl
          generalize Ad.begun ⟨h, p, q, b⟩ ⟨id, frm, til⟩ = bg at *
          obtain ⟨sg, hsg⟩ : ∃ x, sigM mixM sec bg.text = x := ⟨_, rfl⟩
          have hsgl : sg.length = 32 := by rw [← hsg, sigM_len]
          rw [hsg] at HSIG0 hcs0 hsa0 hsd0
          have HWTH0 := fun wz => rwith_any bg (pS ++ sg) wz (by simp only at l4; omega) (by simp [pS]; omega)
          generalize signed ⟨h, p, q, b⟩ ⟨id, frm, til⟩ sg = sd at *
          have hsd1 : sd.host.length ≤ 33554432 ∧ sd.path.length ≤ 33554432 ∧ sd.query.length ≤ 134217728 := by rw [hsd0]; simp only [Adr.plus, l3, if_true]; rw [l1, l2]; refine ⟨h1, h2, ?_⟩; simp [pS]; simp only at l4; omega
          rw [← hsd0] at HWTH0
          have HPAR := Lib.hid HPAR0
          have HSIG := Lib.hid HSIG0
          have HWTH := Lib.hid HWTH0
          obtain ⟨tx, htx⟩ : ∃ x, adText sd.host sd.path sd.query sd.has = x := ⟨_, rfl⟩
          have HTXT0 := fun wz => refText_any sd.host sd.path sd.query sd.has wz (by omega) (by omega) (by omega)
          rw [htx] at HTXT0
          have HTXT := Lib.hid HTXT0
          have htx2 : sd.text = tx := htx
          have htl9 : tx.length ≤ 268435456 := by have e9 := text_parts sd; rw [← htx2]; cases hb9 : sd.has with
           | true => have := e9.2 hb9; omega
           | false => simp only [Adr.text, adText, hb9]; simp; omega
          rw [htx2] at hcs0
          have hsg9 : sg.length ≤ 100 := by omega
          have hsg8 : ¬ 9223372036854775807 < 3 + sg.length := by omega
          clear HPAR0 HSIG0 HWTH0 hsd0 l1 l2 l3 l4 hsg hsgl hv hp hi hno htx htx2 HTXT0
          obtain ⟨hb', pb, qb, bb⟩ := bg
          obtain ⟨h4, p4, q4, b4⟩ := sd
          simp only at HTXT hsd1
          clear hid hs
          go_enter Tryz.func28, Tryz.ntmps28
          go_wp2_with (first | (go_at_call 67; refine (HVAL.out _).mono ?_; rintro e w1 ⟨rfl, hb1⟩; have HS1 := Lib.hid (HS0.out.older hb1); clear hb1; obtain ⟨⟨c0, c1, c2, c3⟩, ⟨d0, d1, d2⟩, ⟨⟨e0, e1, e2, e3⟩, ⟨g0, g1, g2, g3⟩⟩, ⟨n0, n1, n2, n3⟩, hz⟩ := HS1.out.facts) | (go_at_call 68; refine (HPLN.out _).mono ?_; rintro e w2 ⟨rfl, hb2⟩; have HS2 := Lib.hid (HS1.out.older hb2); clear c0 c1 c2 c3 d0 d1 d2 e0 e1 e2 e3 g0 g1 g2 g3 n0 n1 n2 n3 hz hb2; obtain ⟨⟨c0, c1, c2, c3⟩, ⟨d0, d1, d2⟩, ⟨⟨e0, e1, e2, e3⟩, ⟨g0, g1, g2, g3⟩⟩, ⟨n0, n1, n2, n3⟩, hz⟩ := HS2.out.facts) | (go_at_call 65; refine (HNAM.out _).mono ?_; rintro e w3 ⟨rfl, rfl⟩))
          refine wp_region_held_drew (S := fun w' => w'.cell? ⟨w.heap.size, 0, none⟩ = some (.string ⟨h.toArray⟩) ∧ w'.cell? ⟨w.heap.size, 1, none⟩ = some (.string ⟨p.toArray⟩) ∧ w'.cell? ⟨w.heap.size, 2, none⟩ = some (.string ⟨q.toArray⟩) ∧ w'.cell? ⟨w.heap.size, 3, none⟩ = some (.bool b) ∧ w'.cell? ⟨w.heap.size + 1, 0, none⟩ = some (.string ⟨id.toArray⟩) ∧ w'.cell? ⟨w.heap.size + 1, 1, none⟩ = some (.int .i64 frm) ∧ w'.cell? ⟨w.heap.size + 1, 2, none⟩ = some (.int .i64 til)) (by kernel_rfl) (by exact ⟨c0, c1, c2, c3, d0, d1, d2⟩) (fun hHeld => ?_)
          refine wpAnyH_take (i := 0) (v := ?_) (by simp only [List.getElem?_toArray, List.getElem?_cons_succ, List.getElem?_cons_zero]; rfl) (by kernel_rfl) (by kernel_rfl) (by kernel_rfl) (by intro _ _ _ h; exact h) (Or.inl ⟨by rfl, ?_⟩) (by assumption) ?_
          rotate_left
          focus (intro wT hT; (try dsimp only at hT); go_simp; try with_reducible rfl)
          try simp only [Act.put, List.setIfInBounds_toArray, List.set_cons_zero, List.set_cons_succ]
          refine wpAnyH_take (i := 1) (v := ?_) (by simp only [List.getElem?_toArray, List.getElem?_cons_succ, List.getElem?_cons_zero]; rfl) (by kernel_rfl) (by kernel_rfl) (by kernel_rfl) (by intro _ _ _ h; exact h) (Or.inl ⟨by rfl, ?_⟩) (by assumption) ?_
          rotate_left
          focus (intro wT hT; (try dsimp only at hT); go_simp; try with_reducible rfl)
          try simp only [Act.put, List.setIfInBounds_toArray, List.set_cons_zero, List.set_cons_succ]
          refine wpAnyH_take (i := 3) (v := ?_) (by simp only [List.getElem?_toArray, List.getElem?_cons_succ, List.getElem?_cons_zero]; rfl) (by kernel_rfl) (by kernel_rfl) (by kernel_rfl) (by intro _ _ _ h; exact h) (Or.inl ⟨by rfl, ?_⟩) (by assumption) ?_
          rotate_left
          focus (intro wT hT; (try dsimp only at hT); go_simp; try with_reducible rfl)
          try simp only [Act.put, List.setIfInBounds_toArray, List.set_cons_zero, List.set_cons_succ]
          refine wpAnyH_take (i := 4) (v := ?_) (by simp only [List.getElem?_toArray, List.getElem?_cons_succ, List.getElem?_cons_zero]; rfl) (by kernel_rfl) (by kernel_rfl) (by kernel_rfl) (by intro _ _ _ h; exact h) (Or.inl ⟨by rfl, ?_⟩) (by assumption) ?_
          rotate_left
          focus (intro wT hT; (try dsimp only at hT); go_simp; try with_reducible rfl)
          try simp only [Act.put, List.setIfInBounds_toArray, List.set_cons_zero, List.set_cons_succ]
          refine wpAnyH_take (i := 5) (v := ?_) (by simp only [List.getElem?_toArray, List.getElem?_cons_succ, List.getElem?_cons_zero]; rfl) (by kernel_rfl) (by kernel_rfl) (by kernel_rfl) (by intro _ _ _ h; exact h) (Or.inl ⟨by rfl, ?_⟩) (by assumption) ?_
          rotate_left
          focus (intro wT hT; (try dsimp only at hT); go_simp; try with_reducible rfl)
          try simp only [Act.put, List.setIfInBounds_toArray, List.set_cons_zero, List.set_cons_succ]
          refine wpAnyH_ready (rs := [2, 9]) (by kernel_rfl) (by simp) (AllReadyH.cons (by simp only [List.getElem?_toArray, List.getElem?_cons_succ, List.getElem?_cons_zero]; rfl) (fun K hK => ?_) (AllReadyH.cons (by simp only [List.getElem?_toArray, List.getElem?_cons_succ, List.getElem?_cons_zero]; rfl) (fun K hK => ?_) AllReadyH.nil))
          ·go_simp
           go_at_call 70
           refine (HPAR.out _).mono ?_
           rintro e v30 ⟨rfl, hb30⟩
           have HV30 := Lib.hid ((HS2.out.older ((Below.refl _ _).drew)).older hb30)
           clear c0 c1 c2 c3 d0 d1 d2 e0 e1 e2 e3 g0 g1 g2 g3 n0 n1 n2 n3 hz
           obtain ⟨⟨c0, c1, c2, c3⟩, ⟨d0, d1, d2⟩, ⟨⟨e0, e1, e2, e3⟩, ⟨g0, g1, g2, g3⟩⟩, ⟨n0, n1, n2, n3⟩, hz⟩ := HV30.out.facts
           clear hb30
           go_wp2_with fail
           refine hK.out _ _ (by exact ⟨c0, c1, c2, c3, d0, d1, d2⟩) (fun hHf30 => ?_)
           clear hK K
           try simp only [Act.put, List.setIfInBounds_toArray, List.set_cons_zero, List.set_cons_succ]
           refine wpAnyH_ready (rs := [6, 9]) (by kernel_rfl) (by simp) (AllReadyH.cons (by simp only [List.getElem?_toArray, List.getElem?_cons_succ, List.getElem?_cons_zero]; rfl) (fun K hK => ?_) (AllReadyH.cons (by simp only [List.getElem?_toArray, List.getElem?_cons_succ, List.getElem?_cons_zero]; rfl) (fun K hK => ?_) AllReadyH.nil))
           ·go_simp
            go_at_call 71
            refine (HSIG.out _ (HSC.out.older HV30.out.bg.bel)).mono ?_
            rintro e v31 ⟨rfl, hb31⟩
            have HV31 := Lib.hid (HV30.out.older hb31)
            clear c0 c1 c2 c3 d0 d1 d2 e0 e1 e2 e3 g0 g1 g2 g3 n0 n1 n2 n3 hz
            obtain ⟨⟨c0, c1, c2, c3⟩, ⟨d0, d1, d2⟩, ⟨⟨e0, e1, e2, e3⟩, ⟨g0, g1, g2, g3⟩⟩, ⟨n0, n1, n2, n3⟩, hz⟩ := HV31.out.facts
            clear hb31
            go_wp2_with fail
            refine hK.out _ _ (by exact ⟨c0, c1, c2, c3, d0, d1, d2⟩) (fun hHf31 => ?_)
            clear hK K
            try simp only [Act.put, List.setIfInBounds_toArray, List.set_cons_zero, List.set_cons_succ]
            refine wpAnyH_take (i := 7) (v := ?_) (by simp only [List.getElem?_toArray, List.getElem?_cons_succ, List.getElem?_cons_zero]; rfl) (by kernel_rfl) (by kernel_rfl) (by kernel_rfl) (by intro _ _ _ h; exact h) (Or.inl ⟨by rfl, ?_⟩) (by assumption) ?_
            rotate_left
            focus (intro wT hT; (try dsimp only at hT); go_simp; try with_reducible rfl)
            try simp only [Act.put, List.setIfInBounds_toArray, List.set_cons_zero, List.set_cons_succ]
            refine wpAnyH_ready (rs := [8, 9]) (by kernel_rfl) (by simp) (AllReadyH.cons (by simp only [List.getElem?_toArray, List.getElem?_cons_succ, List.getElem?_cons_zero]; rfl) (fun K hK => ?_) (AllReadyH.cons (by simp only [List.getElem?_toArray, List.getElem?_cons_succ, List.getElem?_cons_zero]; rfl) (fun K hK => ?_) AllReadyH.nil))
            ·go_simp
             go_at_call 69
             refine (HWTH.out _).mono ?_
             rintro e v32 ⟨rfl, hb32⟩
             have HV32 := Lib.hid (HV31.out.older hb32)
             clear c0 c1 c2 c3 d0 d1 d2 e0 e1 e2 e3 g0 g1 g2 g3 n0 n1 n2 n3 hz
             obtain ⟨⟨c0, c1, c2, c3⟩, ⟨d0, d1, d2⟩, ⟨⟨e0, e1, e2, e3⟩, ⟨g0, g1, g2, g3⟩⟩, ⟨n0, n1, n2, n3⟩, hz⟩ := HV32.out.facts
             clear hb32
             go_wp2_with fail
             refine hK.out _ _ (by exact ⟨c0, c1, c2, c3, d0, d1, d2⟩) (fun hHf32 => ?_)
             clear hK K
             try simp only [Act.put, List.setIfInBounds_toArray, List.set_cons_zero, List.set_cons_succ]
             refine wpAnyH_ready (rs := [9]) (by kernel_rfl) (by simp) (AllReadyH.cons (by simp only [List.getElem?_toArray, List.getElem?_cons_succ, List.getElem?_cons_zero]; rfl) (fun K hK => ?_) AllReadyH.nil)
             go_simp
             have HV33 := Lib.hid (HV32.out.older ((Below.refl _ _).alloc (Nat.le_refl _) (.cells ((#[.string ⟨#[]⟩, .string ⟨#[]⟩, .string ⟨#[]⟩, .bool false])) 63)))
             have HY33 := Lib.hid (Bx.new v32 63 (#[.string ⟨#[]⟩, .string ⟨#[]⟩, .string ⟨#[]⟩, .bool false]))
             have hR9 := HV32.out.nb.lt
             obtain ⟨a33, hwa33⟩ : ∃ x, (v32).alloc (.cells ((#[.string ⟨#[]⟩, .string ⟨#[]⟩, .string ⟨#[]⟩, .bool false])) 63) = x := ⟨_, rfl⟩
             rw [hwa33] at HV33 HY33 ⊢
             clear hwa33
             clear c0 c1 c2 c3 d0 d1 d2 e0 e1 e2 e3 g0 g1 g2 g3 n0 n1 n2 n3 hz
             obtain ⟨⟨c0, c1, c2, c3⟩, ⟨d0, d1, d2⟩, ⟨⟨e0, e1, e2, e3⟩, ⟨g0, g1, g2, g3⟩⟩, ⟨n0, n1, n2, n3⟩, hz⟩ := HV33.out.facts
             have x0 := HY33.out.cell (i := 0) rfl; have x1 := HY33.out.cell (i := 1) rfl; have x2 := HY33.out.cell (i := 2) rfl; have x3 := HY33.out.cell (i := 3) rfl; have y0 := HY33.out.frz 0; have y1 := HY33.out.frz 1; have y2 := HY33.out.frz 2; have y3 := HY33.out.frz 3; have hx := HY33.out.lt
             refine hK.out _ _ (by exact ⟨c0, c1, c2, c3, d0, d1, d2⟩) (fun hHf33 => ?_)
             clear hK K
             try simp only [Act.put, List.setIfInBounds_toArray, List.set_cons_zero, List.set_cons_succ]
             refine wpAnyH_ready (rs := [10]) (by kernel_rfl) (by simp) (AllReadyH.cons (by simp only [List.getElem?_toArray, List.getElem?_cons_succ, List.getElem?_cons_zero]; rfl) (fun K hK => ?_) AllReadyH.nil)
             go_simp
             have HZ9 := Lib.hid (HV33.out.set4 hR9 (.string ⟨h4.toArray⟩) (.string ⟨p4.toArray⟩) (.string ⟨q4.toArray⟩) (.bool b4))
             have HXZ := Lib.hid (show Bx ((((a33.setCell ⟨v32.heap.size, 0, none⟩ (.string ⟨h4.toArray⟩)).setCell ⟨v32.heap.size, 1, none⟩ (.string ⟨p4.toArray⟩)).setCell ⟨v32.heap.size, 2, none⟩ (.string ⟨q4.toArray⟩)).setCell ⟨v32.heap.size, 3, none⟩ (.bool b4)) v32.heap.size 63 #[.string ⟨h4.toArray⟩, .string ⟨p4.toArray⟩, .string ⟨q4.toArray⟩, .bool b4] from ((((HY33.out.set 0 (.string ⟨h4.toArray⟩)).set 1 (.string ⟨p4.toArray⟩)).set 2 (.string ⟨q4.toArray⟩)).set 3 (.bool b4)))
             obtain ⟨w9, hw9⟩ : ∃ x, ((((a33.setCell ⟨v32.heap.size, 0, none⟩ (.string ⟨h4.toArray⟩)).setCell ⟨v32.heap.size, 1, none⟩ (.string ⟨p4.toArray⟩)).setCell ⟨v32.heap.size, 2, none⟩ (.string ⟨q4.toArray⟩)).setCell ⟨v32.heap.size, 3, none⟩ (.bool b4)) = x := ⟨_, rfl⟩
             rw [hw9] at HZ9 HXZ ⊢
             clear hw9
             clear c0 c1 c2 c3 d0 d1 d2 e0 e1 e2 e3 g0 g1 g2 g3 n0 n1 n2 n3 hz
             clear x0 x1 x2 x3 y0 y1 y2 y3 hx
             obtain ⟨⟨c0, c1, c2, c3⟩, ⟨d0, d1, d2⟩, ⟨⟨e0, e1, e2, e3⟩, ⟨g0, g1, g2, g3⟩⟩, ⟨n0, n1, n2, n3⟩, hz⟩ := HZ9.out.facts
             have x0 := HXZ.out.cell (i := 0) rfl; have x1 := HXZ.out.cell (i := 1) rfl; have x2 := HXZ.out.cell (i := 2) rfl; have x3 := HXZ.out.cell (i := 3) rfl; have y0 := HXZ.out.frz 0; have y1 := HXZ.out.frz 1; have y2 := HXZ.out.frz 2; have y3 := HXZ.out.frz 3; have hx := HXZ.out.lt
             refine hK.out _ _ (by exact ⟨c0, c1, c2, c3, d0, d1, d2⟩) (fun hHf9 => ?_)
             clear hK K
             try simp only [Act.put, List.setIfInBounds_toArray, List.set_cons_zero, List.set_cons_succ]
             refine wpAnyH_done (by kernel_rfl) ?_ _
             by_cases hbig : 1024 < tx.length
             ·rw [if_pos hbig] at hcs0
              have hbi : (1024 : Int) < (tx.length : Int) := by omega
              rw [hcs0, if_neg (by decide)] at hsa0
              have HC := Lib.hid hsa0
              have HCS := Lib.hid hcs0
              clear hsa0 hcs0
              go_wp2_with (go_at_call 72; refine (HTXT.out _).mono ?_; rintro e w10 ⟨rfl, hb10⟩; have HS10 := Lib.hid (HZ9.out.older hb10); have HX10 := Lib.hid (HXZ.out.older hb10); clear c0 c1 c2 c3 d0 d1 d2 e0 e1 e2 e3 g0 g1 g2 g3 n0 n1 n2 n3 hz; clear x0 x1 x2 x3 y0 y1 y2 y3 hx; clear hb10; obtain ⟨⟨c0, c1, c2, c3⟩, ⟨d0, d1, d2⟩, ⟨⟨e0, e1, e2, e3⟩, ⟨g0, g1, g2, g3⟩⟩, ⟨n0, n1, n2, n3⟩, hz⟩ := HS10.out.facts; have x0 := HX10.out.cell (i := 0) rfl; have x1 := HX10.out.cell (i := 1) rfl; have x2 := HX10.out.cell (i := 2) rfl; have x3 := HX10.out.cell (i := 3) rfl; have y0 := HX10.out.frz 0; have y1 := HX10.out.frz 1; have y2 := HX10.out.frz 2; have y3 := HX10.out.frz 3; have hx := HX10.out.lt)
              obtain ⟨⟨z0, z1, z2, z3⟩, hbf⟩ := HS10.out.bg.cells4 (.string ⟨#[]⟩) (.string ⟨#[]⟩) (.string ⟨#[]⟩) (.bool false)
              refine bodyPost_ret (v := .tuple #[adV ⟨[], [], [], false⟩, .int .i64 5]) (by simp [results, Tryz.results28, go_sem, z0, z1, z2, z3]) rfl ⟨?_, hbf⟩
              rw [HC.out, HCS.out]
             ·rw [if_neg hbig] at hcs0
              have hbi : ¬ (1024 : Int) < (tx.length : Int) := by omega
              rw [hcs0, if_pos rfl] at hsa0
              have HC := Lib.hid hsa0
              have HCS := Lib.hid hcs0
              clear hsa0 hcs0
              go_wp2_with (go_at_call 72; refine (HTXT.out _).mono ?_; rintro e w10 ⟨rfl, hb10⟩; have HS10 := Lib.hid (HZ9.out.older hb10); have HX10 := Lib.hid (HXZ.out.older hb10); clear c0 c1 c2 c3 d0 d1 d2 e0 e1 e2 e3 g0 g1 g2 g3 n0 n1 n2 n3 hz; clear x0 x1 x2 x3 y0 y1 y2 y3 hx; clear hb10; obtain ⟨⟨c0, c1, c2, c3⟩, ⟨d0, d1, d2⟩, ⟨⟨e0, e1, e2, e3⟩, ⟨g0, g1, g2, g3⟩⟩, ⟨n0, n1, n2, n3⟩, hz⟩ := HS10.out.facts; have x0 := HX10.out.cell (i := 0) rfl; have x1 := HX10.out.cell (i := 1) rfl; have x2 := HX10.out.cell (i := 2) rfl; have x3 := HX10.out.cell (i := 3) rfl; have y0 := HX10.out.frz 0; have y1 := HX10.out.frz 1; have y2 := HX10.out.frz 2; have y3 := HX10.out.frz 3; have hx := HX10.out.lt)
              obtain ⟨⟨z0, z1, z2, z3⟩, hbf⟩ := HS10.out.bg.cells4 (.string ⟨h4.toArray⟩) (.string ⟨p4.toArray⟩) (.string ⟨q4.toArray⟩) (.bool b4)
              refine bodyPost_ret (v := .tuple #[adV ⟨h4, p4, q4, b4⟩, .int .i64 0]) (by simp [results, Tryz.results28, go_sem, z0, z1, z2, z3]) rfl ⟨?_, hbf⟩
              rw [HC.out, HCS.out]
            ·go_simp
             have HV32 := Lib.hid (HV31.out.older ((Below.refl _ _).alloc (Nat.le_refl _) (.cells ((#[.string ⟨#[]⟩, .string ⟨#[]⟩, .string ⟨#[]⟩, .bool false])) 63)))
             have HY32 := Lib.hid (Bx.new v31 63 (#[.string ⟨#[]⟩, .string ⟨#[]⟩, .string ⟨#[]⟩, .bool false]))
             have hR9 := HV31.out.nb.lt
             obtain ⟨a32, hwa32⟩ : ∃ x, (v31).alloc (.cells ((#[.string ⟨#[]⟩, .string ⟨#[]⟩, .string ⟨#[]⟩, .bool false])) 63) = x := ⟨_, rfl⟩
             rw [hwa32] at HV32 HY32 ⊢
             clear hwa32
             clear c0 c1 c2 c3 d0 d1 d2 e0 e1 e2 e3 g0 g1 g2 g3 n0 n1 n2 n3 hz
             obtain ⟨⟨c0, c1, c2, c3⟩, ⟨d0, d1, d2⟩, ⟨⟨e0, e1, e2, e3⟩, ⟨g0, g1, g2, g3⟩⟩, ⟨n0, n1, n2, n3⟩, hz⟩ := HV32.out.facts
             have x0 := HY32.out.cell (i := 0) rfl; have x1 := HY32.out.cell (i := 1) rfl; have x2 := HY32.out.cell (i := 2) rfl; have x3 := HY32.out.cell (i := 3) rfl; have y0 := HY32.out.frz 0; have y1 := HY32.out.frz 1; have y2 := HY32.out.frz 2; have y3 := HY32.out.frz 3; have hx := HY32.out.lt
             refine hK.out _ _ (by exact ⟨c0, c1, c2, c3, d0, d1, d2⟩) (fun hHf32 => ?_)
             clear hK K
             try simp only [Act.put, List.setIfInBounds_toArray, List.set_cons_zero, List.set_cons_succ]
             refine wpAnyH_ready (rs := [8]) (by kernel_rfl) (by simp) (AllReadyH.cons (by simp only [List.getElem?_toArray, List.getElem?_cons_succ, List.getElem?_cons_zero]; rfl) (fun K hK => ?_) AllReadyH.nil)
             go_simp
             go_at_call 69
             refine (HWTH.out _).mono ?_
             rintro e v33 ⟨rfl, hb33⟩
             have HV33 := Lib.hid (HV32.out.older hb33)
             have HY33 := Lib.hid (HY32.out.older hb33)
             clear x0 x1 x2 x3 y0 y1 y2 y3 hx
             have x0 := HY33.out.cell (i := 0) rfl; have x1 := HY33.out.cell (i := 1) rfl; have x2 := HY33.out.cell (i := 2) rfl; have x3 := HY33.out.cell (i := 3) rfl; have y0 := HY33.out.frz 0; have y1 := HY33.out.frz 1; have y2 := HY33.out.frz 2; have y3 := HY33.out.frz 3; have hx := HY33.out.lt
             clear c0 c1 c2 c3 d0 d1 d2 e0 e1 e2 e3 g0 g1 g2 g3 n0 n1 n2 n3 hz
             obtain ⟨⟨c0, c1, c2, c3⟩, ⟨d0, d1, d2⟩, ⟨⟨e0, e1, e2, e3⟩, ⟨g0, g1, g2, g3⟩⟩, ⟨n0, n1, n2, n3⟩, hz⟩ := HV33.out.facts
             clear hb33
             go_wp2_with fail
             refine hK.out _ _ (by exact ⟨c0, c1, c2, c3, d0, d1, d2⟩) (fun hHf33 => ?_)
             clear hK K
             try simp only [Act.put, List.setIfInBounds_toArray, List.set_cons_zero, List.set_cons_succ]
             refine wpAnyH_ready (rs := [10]) (by kernel_rfl) (by simp) (AllReadyH.cons (by simp only [List.getElem?_toArray, List.getElem?_cons_succ, List.getElem?_cons_zero]; rfl) (fun K hK => ?_) AllReadyH.nil)
             go_simp
             have HZ9 := Lib.hid (HV33.out.set4 hR9 (.string ⟨h4.toArray⟩) (.string ⟨p4.toArray⟩) (.string ⟨q4.toArray⟩) (.bool b4))
             have HXZ := Lib.hid (show Bx ((((v33.setCell ⟨v31.heap.size, 0, none⟩ (.string ⟨h4.toArray⟩)).setCell ⟨v31.heap.size, 1, none⟩ (.string ⟨p4.toArray⟩)).setCell ⟨v31.heap.size, 2, none⟩ (.string ⟨q4.toArray⟩)).setCell ⟨v31.heap.size, 3, none⟩ (.bool b4)) v31.heap.size 63 #[.string ⟨h4.toArray⟩, .string ⟨p4.toArray⟩, .string ⟨q4.toArray⟩, .bool b4] from ((((HY33.out.set 0 (.string ⟨h4.toArray⟩)).set 1 (.string ⟨p4.toArray⟩)).set 2 (.string ⟨q4.toArray⟩)).set 3 (.bool b4)))
             obtain ⟨w9, hw9⟩ : ∃ x, ((((v33.setCell ⟨v31.heap.size, 0, none⟩ (.string ⟨h4.toArray⟩)).setCell ⟨v31.heap.size, 1, none⟩ (.string ⟨p4.toArray⟩)).setCell ⟨v31.heap.size, 2, none⟩ (.string ⟨q4.toArray⟩)).setCell ⟨v31.heap.size, 3, none⟩ (.bool b4)) = x := ⟨_, rfl⟩
             rw [hw9] at HZ9 HXZ ⊢
             clear hw9
             clear c0 c1 c2 c3 d0 d1 d2 e0 e1 e2 e3 g0 g1 g2 g3 n0 n1 n2 n3 hz
             clear x0 x1 x2 x3 y0 y1 y2 y3 hx
             obtain ⟨⟨c0, c1, c2, c3⟩, ⟨d0, d1, d2⟩, ⟨⟨e0, e1, e2, e3⟩, ⟨g0, g1, g2, g3⟩⟩, ⟨n0, n1, n2, n3⟩, hz⟩ := HZ9.out.facts
             have x0 := HXZ.out.cell (i := 0) rfl; have x1 := HXZ.out.cell (i := 1) rfl; have x2 := HXZ.out.cell (i := 2) rfl; have x3 := HXZ.out.cell (i := 3) rfl; have y0 := HXZ.out.frz 0; have y1 := HXZ.out.frz 1; have y2 := HXZ.out.frz 2; have y3 := HXZ.out.frz 3; have hx := HXZ.out.lt
             refine hK.out _ _ (by exact ⟨c0, c1, c2, c3, d0, d1, d2⟩) (fun hHf9 => ?_)
             clear hK K
             try simp only [Act.put, List.setIfInBounds_toArray, List.set_cons_zero, List.set_cons_succ]
             refine wpAnyH_done (by kernel_rfl) ?_ _
             by_cases hbig : 1024 < tx.length
             ·rw [if_pos hbig] at hcs0
              have hbi : (1024 : Int) < (tx.length : Int) := by omega
              rw [hcs0, if_neg (by decide)] at hsa0
              have HC := Lib.hid hsa0
              have HCS := Lib.hid hcs0
              clear hsa0 hcs0
              go_wp2_with (go_at_call 72; refine (HTXT.out _).mono ?_; rintro e w10 ⟨rfl, hb10⟩; have HS10 := Lib.hid (HZ9.out.older hb10); have HX10 := Lib.hid (HXZ.out.older hb10); clear c0 c1 c2 c3 d0 d1 d2 e0 e1 e2 e3 g0 g1 g2 g3 n0 n1 n2 n3 hz; clear x0 x1 x2 x3 y0 y1 y2 y3 hx; clear hb10; obtain ⟨⟨c0, c1, c2, c3⟩, ⟨d0, d1, d2⟩, ⟨⟨e0, e1, e2, e3⟩, ⟨g0, g1, g2, g3⟩⟩, ⟨n0, n1, n2, n3⟩, hz⟩ := HS10.out.facts; have x0 := HX10.out.cell (i := 0) rfl; have x1 := HX10.out.cell (i := 1) rfl; have x2 := HX10.out.cell (i := 2) rfl; have x3 := HX10.out.cell (i := 3) rfl; have y0 := HX10.out.frz 0; have y1 := HX10.out.frz 1; have y2 := HX10.out.frz 2; have y3 := HX10.out.frz 3; have hx := HX10.out.lt)
              obtain ⟨⟨z0, z1, z2, z3⟩, hbf⟩ := HS10.out.bg.cells4 (.string ⟨#[]⟩) (.string ⟨#[]⟩) (.string ⟨#[]⟩) (.bool false)
              refine bodyPost_ret (v := .tuple #[adV ⟨[], [], [], false⟩, .int .i64 5]) (by simp [results, Tryz.results28, go_sem, z0, z1, z2, z3]) rfl ⟨?_, hbf⟩
              rw [HC.out, HCS.out]
             ·rw [if_neg hbig] at hcs0
              have hbi : ¬ (1024 : Int) < (tx.length : Int) := by omega
              rw [hcs0, if_pos rfl] at hsa0
              have HC := Lib.hid hsa0
              have HCS := Lib.hid hcs0
              clear hsa0 hcs0
              go_wp2_with (go_at_call 72; refine (HTXT.out _).mono ?_; rintro e w10 ⟨rfl, hb10⟩; have HS10 := Lib.hid (HZ9.out.older hb10); have HX10 := Lib.hid (HXZ.out.older hb10); clear c0 c1 c2 c3 d0 d1 d2 e0 e1 e2 e3 g0 g1 g2 g3 n0 n1 n2 n3 hz; clear x0 x1 x2 x3 y0 y1 y2 y3 hx; clear hb10; obtain ⟨⟨c0, c1, c2, c3⟩, ⟨d0, d1, d2⟩, ⟨⟨e0, e1, e2, e3⟩, ⟨g0, g1, g2, g3⟩⟩, ⟨n0, n1, n2, n3⟩, hz⟩ := HS10.out.facts; have x0 := HX10.out.cell (i := 0) rfl; have x1 := HX10.out.cell (i := 1) rfl; have x2 := HX10.out.cell (i := 2) rfl; have x3 := HX10.out.cell (i := 3) rfl; have y0 := HX10.out.frz 0; have y1 := HX10.out.frz 1; have y2 := HX10.out.frz 2; have y3 := HX10.out.frz 3; have hx := HX10.out.lt)
              obtain ⟨⟨z0, z1, z2, z3⟩, hbf⟩ := HS10.out.bg.cells4 (.string ⟨h4.toArray⟩) (.string ⟨p4.toArray⟩) (.string ⟨q4.toArray⟩) (.bool b4)
              refine bodyPost_ret (v := .tuple #[adV ⟨h4, p4, q4, b4⟩, .int .i64 0]) (by simp [results, Tryz.results28, go_sem, z0, z1, z2, z3]) rfl ⟨?_, hbf⟩
              rw [HC.out, HCS.out]
           ·go_simp
            have HV31 := Lib.hid (HV30.out.older ((Below.refl _ _).alloc (Nat.le_refl _) (.cells ((#[.string ⟨#[]⟩, .string ⟨#[]⟩, .string ⟨#[]⟩, .bool false])) 63)))
            have HY31 := Lib.hid (Bx.new v30 63 (#[.string ⟨#[]⟩, .string ⟨#[]⟩, .string ⟨#[]⟩, .bool false]))
            have hR9 := HV30.out.nb.lt
            obtain ⟨a31, hwa31⟩ : ∃ x, (v30).alloc (.cells ((#[.string ⟨#[]⟩, .string ⟨#[]⟩, .string ⟨#[]⟩, .bool false])) 63) = x := ⟨_, rfl⟩
            rw [hwa31] at HV31 HY31 ⊢
            clear hwa31
            clear c0 c1 c2 c3 d0 d1 d2 e0 e1 e2 e3 g0 g1 g2 g3 n0 n1 n2 n3 hz
            obtain ⟨⟨c0, c1, c2, c3⟩, ⟨d0, d1, d2⟩, ⟨⟨e0, e1, e2, e3⟩, ⟨g0, g1, g2, g3⟩⟩, ⟨n0, n1, n2, n3⟩, hz⟩ := HV31.out.facts
            have x0 := HY31.out.cell (i := 0) rfl; have x1 := HY31.out.cell (i := 1) rfl; have x2 := HY31.out.cell (i := 2) rfl; have x3 := HY31.out.cell (i := 3) rfl; have y0 := HY31.out.frz 0; have y1 := HY31.out.frz 1; have y2 := HY31.out.frz 2; have y3 := HY31.out.frz 3; have hx := HY31.out.lt
            refine hK.out _ _ (by exact ⟨c0, c1, c2, c3, d0, d1, d2⟩) (fun hHf31 => ?_)
            clear hK K
            try simp only [Act.put, List.setIfInBounds_toArray, List.set_cons_zero, List.set_cons_succ]
            refine wpAnyH_ready (rs := [6]) (by kernel_rfl) (by simp) (AllReadyH.cons (by simp only [List.getElem?_toArray, List.getElem?_cons_succ, List.getElem?_cons_zero]; rfl) (fun K hK => ?_) AllReadyH.nil)
            go_simp
            go_at_call 71
            refine (HSIG.out _ (HSC.out.older HV31.out.bg.bel)).mono ?_
            rintro e v32 ⟨rfl, hb32⟩
            have HV32 := Lib.hid (HV31.out.older hb32)
            have HY32 := Lib.hid (HY31.out.older hb32)
            clear x0 x1 x2 x3 y0 y1 y2 y3 hx
            have x0 := HY32.out.cell (i := 0) rfl; have x1 := HY32.out.cell (i := 1) rfl; have x2 := HY32.out.cell (i := 2) rfl; have x3 := HY32.out.cell (i := 3) rfl; have y0 := HY32.out.frz 0; have y1 := HY32.out.frz 1; have y2 := HY32.out.frz 2; have y3 := HY32.out.frz 3; have hx := HY32.out.lt
            clear c0 c1 c2 c3 d0 d1 d2 e0 e1 e2 e3 g0 g1 g2 g3 n0 n1 n2 n3 hz
            obtain ⟨⟨c0, c1, c2, c3⟩, ⟨d0, d1, d2⟩, ⟨⟨e0, e1, e2, e3⟩, ⟨g0, g1, g2, g3⟩⟩, ⟨n0, n1, n2, n3⟩, hz⟩ := HV32.out.facts
            clear hb32
            go_wp2_with fail
            refine hK.out _ _ (by exact ⟨c0, c1, c2, c3, d0, d1, d2⟩) (fun hHf32 => ?_)
            clear hK K
            try simp only [Act.put, List.setIfInBounds_toArray, List.set_cons_zero, List.set_cons_succ]
            refine wpAnyH_take (i := 7) (v := ?_) (by simp only [List.getElem?_toArray, List.getElem?_cons_succ, List.getElem?_cons_zero]; rfl) (by kernel_rfl) (by kernel_rfl) (by kernel_rfl) (by intro _ _ _ h; exact h) (Or.inl ⟨by rfl, ?_⟩) (by assumption) ?_
            rotate_left
            focus (intro wT hT; (try dsimp only at hT); go_simp; try with_reducible rfl)
            try simp only [Act.put, List.setIfInBounds_toArray, List.set_cons_zero, List.set_cons_succ]
            refine wpAnyH_ready (rs := [8]) (by kernel_rfl) (by simp) (AllReadyH.cons (by simp only [List.getElem?_toArray, List.getElem?_cons_succ, List.getElem?_cons_zero]; rfl) (fun K hK => ?_) AllReadyH.nil)
            go_simp
            go_at_call 69
            refine (HWTH.out _).mono ?_
            rintro e v33 ⟨rfl, hb33⟩
            have HV33 := Lib.hid (HV32.out.older hb33)
            have HY33 := Lib.hid (HY32.out.older hb33)
            clear x0 x1 x2 x3 y0 y1 y2 y3 hx
            have x0 := HY33.out.cell (i := 0) rfl; have x1 := HY33.out.cell (i := 1) rfl; have x2 := HY33.out.cell (i := 2) rfl; have x3 := HY33.out.cell (i := 3) rfl; have y0 := HY33.out.frz 0; have y1 := HY33.out.frz 1; have y2 := HY33.out.frz 2; have y3 := HY33.out.frz 3; have hx := HY33.out.lt
            clear c0 c1 c2 c3 d0 d1 d2 e0 e1 e2 e3 g0 g1 g2 g3 n0 n1 n2 n3 hz
            obtain ⟨⟨c0, c1, c2, c3⟩, ⟨d0, d1, d2⟩, ⟨⟨e0, e1, e2, e3⟩, ⟨g0, g1, g2, g3⟩⟩, ⟨n0, n1, n2, n3⟩, hz⟩ := HV33.out.facts
            clear hb33
            go_wp2_with fail
            refine hK.out _ _ (by exact ⟨c0, c1, c2, c3, d0, d1, d2⟩) (fun hHf33 => ?_)
            clear hK K
            try simp only [Act.put, List.setIfInBounds_toArray, List.set_cons_zero, List.set_cons_succ]
            refine wpAnyH_ready (rs := [10]) (by kernel_rfl) (by simp) (AllReadyH.cons (by simp only [List.getElem?_toArray, List.getElem?_cons_succ, List.getElem?_cons_zero]; rfl) (fun K hK => ?_) AllReadyH.nil)
            go_simp
            have HZ9 := Lib.hid (HV33.out.set4 hR9 (.string ⟨h4.toArray⟩) (.string ⟨p4.toArray⟩) (.string ⟨q4.toArray⟩) (.bool b4))
            have HXZ := Lib.hid (show Bx ((((v33.setCell ⟨v30.heap.size, 0, none⟩ (.string ⟨h4.toArray⟩)).setCell ⟨v30.heap.size, 1, none⟩ (.string ⟨p4.toArray⟩)).setCell ⟨v30.heap.size, 2, none⟩ (.string ⟨q4.toArray⟩)).setCell ⟨v30.heap.size, 3, none⟩ (.bool b4)) v30.heap.size 63 #[.string ⟨h4.toArray⟩, .string ⟨p4.toArray⟩, .string ⟨q4.toArray⟩, .bool b4] from ((((HY33.out.set 0 (.string ⟨h4.toArray⟩)).set 1 (.string ⟨p4.toArray⟩)).set 2 (.string ⟨q4.toArray⟩)).set 3 (.bool b4)))
            obtain ⟨w9, hw9⟩ : ∃ x, ((((v33.setCell ⟨v30.heap.size, 0, none⟩ (.string ⟨h4.toArray⟩)).setCell ⟨v30.heap.size, 1, none⟩ (.string ⟨p4.toArray⟩)).setCell ⟨v30.heap.size, 2, none⟩ (.string ⟨q4.toArray⟩)).setCell ⟨v30.heap.size, 3, none⟩ (.bool b4)) = x := ⟨_, rfl⟩
            rw [hw9] at HZ9 HXZ ⊢
            clear hw9
            clear c0 c1 c2 c3 d0 d1 d2 e0 e1 e2 e3 g0 g1 g2 g3 n0 n1 n2 n3 hz
            clear x0 x1 x2 x3 y0 y1 y2 y3 hx
            obtain ⟨⟨c0, c1, c2, c3⟩, ⟨d0, d1, d2⟩, ⟨⟨e0, e1, e2, e3⟩, ⟨g0, g1, g2, g3⟩⟩, ⟨n0, n1, n2, n3⟩, hz⟩ := HZ9.out.facts
            have x0 := HXZ.out.cell (i := 0) rfl; have x1 := HXZ.out.cell (i := 1) rfl; have x2 := HXZ.out.cell (i := 2) rfl; have x3 := HXZ.out.cell (i := 3) rfl; have y0 := HXZ.out.frz 0; have y1 := HXZ.out.frz 1; have y2 := HXZ.out.frz 2; have y3 := HXZ.out.frz 3; have hx := HXZ.out.lt
            refine hK.out _ _ (by exact ⟨c0, c1, c2, c3, d0, d1, d2⟩) (fun hHf9 => ?_)
            clear hK K
            try simp only [Act.put, List.setIfInBounds_toArray, List.set_cons_zero, List.set_cons_succ]
            refine wpAnyH_done (by kernel_rfl) ?_ _
            by_cases hbig : 1024 < tx.length
            ·rw [if_pos hbig] at hcs0
             have hbi : (1024 : Int) < (tx.length : Int) := by omega
             rw [hcs0, if_neg (by decide)] at hsa0
             have HC := Lib.hid hsa0
             have HCS := Lib.hid hcs0
             clear hsa0 hcs0
             go_wp2_with (go_at_call 72; refine (HTXT.out _).mono ?_; rintro e w10 ⟨rfl, hb10⟩; have HS10 := Lib.hid (HZ9.out.older hb10); have HX10 := Lib.hid (HXZ.out.older hb10); clear c0 c1 c2 c3 d0 d1 d2 e0 e1 e2 e3 g0 g1 g2 g3 n0 n1 n2 n3 hz; clear x0 x1 x2 x3 y0 y1 y2 y3 hx; clear hb10; obtain ⟨⟨c0, c1, c2, c3⟩, ⟨d0, d1, d2⟩, ⟨⟨e0, e1, e2, e3⟩, ⟨g0, g1, g2, g3⟩⟩, ⟨n0, n1, n2, n3⟩, hz⟩ := HS10.out.facts; have x0 := HX10.out.cell (i := 0) rfl; have x1 := HX10.out.cell (i := 1) rfl; have x2 := HX10.out.cell (i := 2) rfl; have x3 := HX10.out.cell (i := 3) rfl; have y0 := HX10.out.frz 0; have y1 := HX10.out.frz 1; have y2 := HX10.out.frz 2; have y3 := HX10.out.frz 3; have hx := HX10.out.lt)
             obtain ⟨⟨z0, z1, z2, z3⟩, hbf⟩ := HS10.out.bg.cells4 (.string ⟨#[]⟩) (.string ⟨#[]⟩) (.string ⟨#[]⟩) (.bool false)
             refine bodyPost_ret (v := .tuple #[adV ⟨[], [], [], false⟩, .int .i64 5]) (by simp [results, Tryz.results28, go_sem, z0, z1, z2, z3]) rfl ⟨?_, hbf⟩
             rw [HC.out, HCS.out]
            ·rw [if_neg hbig] at hcs0
             have hbi : ¬ (1024 : Int) < (tx.length : Int) := by omega
             rw [hcs0, if_pos rfl] at hsa0
             have HC := Lib.hid hsa0
             have HCS := Lib.hid hcs0
             clear hsa0 hcs0
             go_wp2_with (go_at_call 72; refine (HTXT.out _).mono ?_; rintro e w10 ⟨rfl, hb10⟩; have HS10 := Lib.hid (HZ9.out.older hb10); have HX10 := Lib.hid (HXZ.out.older hb10); clear c0 c1 c2 c3 d0 d1 d2 e0 e1 e2 e3 g0 g1 g2 g3 n0 n1 n2 n3 hz; clear x0 x1 x2 x3 y0 y1 y2 y3 hx; clear hb10; obtain ⟨⟨c0, c1, c2, c3⟩, ⟨d0, d1, d2⟩, ⟨⟨e0, e1, e2, e3⟩, ⟨g0, g1, g2, g3⟩⟩, ⟨n0, n1, n2, n3⟩, hz⟩ := HS10.out.facts; have x0 := HX10.out.cell (i := 0) rfl; have x1 := HX10.out.cell (i := 1) rfl; have x2 := HX10.out.cell (i := 2) rfl; have x3 := HX10.out.cell (i := 3) rfl; have y0 := HX10.out.frz 0; have y1 := HX10.out.frz 1; have y2 := HX10.out.frz 2; have y3 := HX10.out.frz 3; have hx := HX10.out.lt)
             obtain ⟨⟨z0, z1, z2, z3⟩, hbf⟩ := HS10.out.bg.cells4 (.string ⟨h4.toArray⟩) (.string ⟨p4.toArray⟩) (.string ⟨q4.toArray⟩) (.bool b4)
             refine bodyPost_ret (v := .tuple #[adV ⟨h4, p4, q4, b4⟩, .int .i64 0]) (by simp [results, Tryz.results28, go_sem, z0, z1, z2, z3]) rfl ⟨?_, hbf⟩
             rw [HC.out, HCS.out]
          ·go_simp
           have HV30 := Lib.hid ((HS2.out.older ((Below.refl _ _).alloc (Nat.le_refl _) (.cells ((#[.string ⟨#[]⟩, .string ⟨#[]⟩, .string ⟨#[]⟩, .bool false])) 63))).older ((Below.refl _ _).drew))
           have HY30 := Lib.hid ((Bx.new w2 63 (#[.string ⟨#[]⟩, .string ⟨#[]⟩, .string ⟨#[]⟩, .bool false])).older ((Below.refl _ _).drew))
           have hR9 := HS2.out.nb.lt
           obtain ⟨a30, hwa30⟩ : ∃ x, (World.alloc w2 (.cells ((#[.string ⟨#[]⟩, .string ⟨#[]⟩, .string ⟨#[]⟩, .bool false])) 63)).drew = x := ⟨_, rfl⟩
           rw [hwa30] at HV30 HY30 ⊢
           clear hwa30
           clear c0 c1 c2 c3 d0 d1 d2 e0 e1 e2 e3 g0 g1 g2 g3 n0 n1 n2 n3 hz
           obtain ⟨⟨c0, c1, c2, c3⟩, ⟨d0, d1, d2⟩, ⟨⟨e0, e1, e2, e3⟩, ⟨g0, g1, g2, g3⟩⟩, ⟨n0, n1, n2, n3⟩, hz⟩ := HV30.out.facts
           have x0 := HY30.out.cell (i := 0) rfl; have x1 := HY30.out.cell (i := 1) rfl; have x2 := HY30.out.cell (i := 2) rfl; have x3 := HY30.out.cell (i := 3) rfl; have y0 := HY30.out.frz 0; have y1 := HY30.out.frz 1; have y2 := HY30.out.frz 2; have y3 := HY30.out.frz 3; have hx := HY30.out.lt
           refine hK.out _ _ (by exact ⟨c0, c1, c2, c3, d0, d1, d2⟩) (fun hHf30 => ?_)
           clear hK K
           try simp only [Act.put, List.setIfInBounds_toArray, List.set_cons_zero, List.set_cons_succ]
           refine wpAnyH_ready (rs := [2]) (by kernel_rfl) (by simp) (AllReadyH.cons (by simp only [List.getElem?_toArray, List.getElem?_cons_succ, List.getElem?_cons_zero]; rfl) (fun K hK => ?_) AllReadyH.nil)
           go_simp
           go_at_call 70
           refine (HPAR.out _).mono ?_
           rintro e v31 ⟨rfl, hb31⟩
           have HV31 := Lib.hid (HV30.out.older hb31)
           have HY31 := Lib.hid (HY30.out.older hb31)
           clear x0 x1 x2 x3 y0 y1 y2 y3 hx
           have x0 := HY31.out.cell (i := 0) rfl; have x1 := HY31.out.cell (i := 1) rfl; have x2 := HY31.out.cell (i := 2) rfl; have x3 := HY31.out.cell (i := 3) rfl; have y0 := HY31.out.frz 0; have y1 := HY31.out.frz 1; have y2 := HY31.out.frz 2; have y3 := HY31.out.frz 3; have hx := HY31.out.lt
           clear c0 c1 c2 c3 d0 d1 d2 e0 e1 e2 e3 g0 g1 g2 g3 n0 n1 n2 n3 hz
           obtain ⟨⟨c0, c1, c2, c3⟩, ⟨d0, d1, d2⟩, ⟨⟨e0, e1, e2, e3⟩, ⟨g0, g1, g2, g3⟩⟩, ⟨n0, n1, n2, n3⟩, hz⟩ := HV31.out.facts
           clear hb31
           go_wp2_with fail
           refine hK.out _ _ (by exact ⟨c0, c1, c2, c3, d0, d1, d2⟩) (fun hHf31 => ?_)
           clear hK K
           try simp only [Act.put, List.setIfInBounds_toArray, List.set_cons_zero, List.set_cons_succ]
           refine wpAnyH_ready (rs := [6]) (by kernel_rfl) (by simp) (AllReadyH.cons (by simp only [List.getElem?_toArray, List.getElem?_cons_succ, List.getElem?_cons_zero]; rfl) (fun K hK => ?_) AllReadyH.nil)
           go_simp
           go_at_call 71
           refine (HSIG.out _ (HSC.out.older HV31.out.bg.bel)).mono ?_
           rintro e v32 ⟨rfl, hb32⟩
           have HV32 := Lib.hid (HV31.out.older hb32)
           have HY32 := Lib.hid (HY31.out.older hb32)
           clear x0 x1 x2 x3 y0 y1 y2 y3 hx
           have x0 := HY32.out.cell (i := 0) rfl; have x1 := HY32.out.cell (i := 1) rfl; have x2 := HY32.out.cell (i := 2) rfl; have x3 := HY32.out.cell (i := 3) rfl; have y0 := HY32.out.frz 0; have y1 := HY32.out.frz 1; have y2 := HY32.out.frz 2; have y3 := HY32.out.frz 3; have hx := HY32.out.lt
           clear c0 c1 c2 c3 d0 d1 d2 e0 e1 e2 e3 g0 g1 g2 g3 n0 n1 n2 n3 hz
           obtain ⟨⟨c0, c1, c2, c3⟩, ⟨d0, d1, d2⟩, ⟨⟨e0, e1, e2, e3⟩, ⟨g0, g1, g2, g3⟩⟩, ⟨n0, n1, n2, n3⟩, hz⟩ := HV32.out.facts
           clear hb32
           go_wp2_with fail
           refine hK.out _ _ (by exact ⟨c0, c1, c2, c3, d0, d1, d2⟩) (fun hHf32 => ?_)
           clear hK K
           try simp only [Act.put, List.setIfInBounds_toArray, List.set_cons_zero, List.set_cons_succ]
           refine wpAnyH_take (i := 7) (v := ?_) (by simp only [List.getElem?_toArray, List.getElem?_cons_succ, List.getElem?_cons_zero]; rfl) (by kernel_rfl) (by kernel_rfl) (by kernel_rfl) (by intro _ _ _ h; exact h) (Or.inl ⟨by rfl, ?_⟩) (by assumption) ?_
           rotate_left
           focus (intro wT hT; (try dsimp only at hT); go_simp; try with_reducible rfl)
           try simp only [Act.put, List.setIfInBounds_toArray, List.set_cons_zero, List.set_cons_succ]
           refine wpAnyH_ready (rs := [8]) (by kernel_rfl) (by simp) (AllReadyH.cons (by simp only [List.getElem?_toArray, List.getElem?_cons_succ, List.getElem?_cons_zero]; rfl) (fun K hK => ?_) AllReadyH.nil)
           go_simp
           go_at_call 69
           refine (HWTH.out _).mono ?_
           rintro e v33 ⟨rfl, hb33⟩
           have HV33 := Lib.hid (HV32.out.older hb33)
           have HY33 := Lib.hid (HY32.out.older hb33)
           clear x0 x1 x2 x3 y0 y1 y2 y3 hx
           have x0 := HY33.out.cell (i := 0) rfl; have x1 := HY33.out.cell (i := 1) rfl; have x2 := HY33.out.cell (i := 2) rfl; have x3 := HY33.out.cell (i := 3) rfl; have y0 := HY33.out.frz 0; have y1 := HY33.out.frz 1; have y2 := HY33.out.frz 2; have y3 := HY33.out.frz 3; have hx := HY33.out.lt
           clear c0 c1 c2 c3 d0 d1 d2 e0 e1 e2 e3 g0 g1 g2 g3 n0 n1 n2 n3 hz
           obtain ⟨⟨c0, c1, c2, c3⟩, ⟨d0, d1, d2⟩, ⟨⟨e0, e1, e2, e3⟩, ⟨g0, g1, g2, g3⟩⟩, ⟨n0, n1, n2, n3⟩, hz⟩ := HV33.out.facts
           clear hb33
           go_wp2_with fail
           refine hK.out _ _ (by exact ⟨c0, c1, c2, c3, d0, d1, d2⟩) (fun hHf33 => ?_)
           clear hK K
           try simp only [Act.put, List.setIfInBounds_toArray, List.set_cons_zero, List.set_cons_succ]
           refine wpAnyH_ready (rs := [10]) (by kernel_rfl) (by simp) (AllReadyH.cons (by simp only [List.getElem?_toArray, List.getElem?_cons_succ, List.getElem?_cons_zero]; rfl) (fun K hK => ?_) AllReadyH.nil)
           go_simp
           have HZ9 := Lib.hid (HV33.out.set4 hR9 (.string ⟨h4.toArray⟩) (.string ⟨p4.toArray⟩) (.string ⟨q4.toArray⟩) (.bool b4))
           have HXZ := Lib.hid (show Bx ((((v33.setCell ⟨w2.heap.size, 0, none⟩ (.string ⟨h4.toArray⟩)).setCell ⟨w2.heap.size, 1, none⟩ (.string ⟨p4.toArray⟩)).setCell ⟨w2.heap.size, 2, none⟩ (.string ⟨q4.toArray⟩)).setCell ⟨w2.heap.size, 3, none⟩ (.bool b4)) w2.heap.size 63 #[.string ⟨h4.toArray⟩, .string ⟨p4.toArray⟩, .string ⟨q4.toArray⟩, .bool b4] from ((((HY33.out.set 0 (.string ⟨h4.toArray⟩)).set 1 (.string ⟨p4.toArray⟩)).set 2 (.string ⟨q4.toArray⟩)).set 3 (.bool b4)))
           obtain ⟨w9, hw9⟩ : ∃ x, ((((v33.setCell ⟨w2.heap.size, 0, none⟩ (.string ⟨h4.toArray⟩)).setCell ⟨w2.heap.size, 1, none⟩ (.string ⟨p4.toArray⟩)).setCell ⟨w2.heap.size, 2, none⟩ (.string ⟨q4.toArray⟩)).setCell ⟨w2.heap.size, 3, none⟩ (.bool b4)) = x := ⟨_, rfl⟩
           rw [hw9] at HZ9 HXZ ⊢
           clear hw9
           clear c0 c1 c2 c3 d0 d1 d2 e0 e1 e2 e3 g0 g1 g2 g3 n0 n1 n2 n3 hz
           clear x0 x1 x2 x3 y0 y1 y2 y3 hx
           obtain ⟨⟨c0, c1, c2, c3⟩, ⟨d0, d1, d2⟩, ⟨⟨e0, e1, e2, e3⟩, ⟨g0, g1, g2, g3⟩⟩, ⟨n0, n1, n2, n3⟩, hz⟩ := HZ9.out.facts
           have x0 := HXZ.out.cell (i := 0) rfl; have x1 := HXZ.out.cell (i := 1) rfl; have x2 := HXZ.out.cell (i := 2) rfl; have x3 := HXZ.out.cell (i := 3) rfl; have y0 := HXZ.out.frz 0; have y1 := HXZ.out.frz 1; have y2 := HXZ.out.frz 2; have y3 := HXZ.out.frz 3; have hx := HXZ.out.lt
           refine hK.out _ _ (by exact ⟨c0, c1, c2, c3, d0, d1, d2⟩) (fun hHf9 => ?_)
           clear hK K
           try simp only [Act.put, List.setIfInBounds_toArray, List.set_cons_zero, List.set_cons_succ]
           refine wpAnyH_done (by kernel_rfl) ?_ _
           by_cases hbig : 1024 < tx.length
           ·rw [if_pos hbig] at hcs0
            have hbi : (1024 : Int) < (tx.length : Int) := by omega
            rw [hcs0, if_neg (by decide)] at hsa0
            have HC := Lib.hid hsa0
            have HCS := Lib.hid hcs0
            clear hsa0 hcs0
            go_wp2_with (go_at_call 72; refine (HTXT.out _).mono ?_; rintro e w10 ⟨rfl, hb10⟩; have HS10 := Lib.hid (HZ9.out.older hb10); have HX10 := Lib.hid (HXZ.out.older hb10); clear c0 c1 c2 c3 d0 d1 d2 e0 e1 e2 e3 g0 g1 g2 g3 n0 n1 n2 n3 hz; clear x0 x1 x2 x3 y0 y1 y2 y3 hx; clear hb10; obtain ⟨⟨c0, c1, c2, c3⟩, ⟨d0, d1, d2⟩, ⟨⟨e0, e1, e2, e3⟩, ⟨g0, g1, g2, g3⟩⟩, ⟨n0, n1, n2, n3⟩, hz⟩ := HS10.out.facts; have x0 := HX10.out.cell (i := 0) rfl; have x1 := HX10.out.cell (i := 1) rfl; have x2 := HX10.out.cell (i := 2) rfl; have x3 := HX10.out.cell (i := 3) rfl; have y0 := HX10.out.frz 0; have y1 := HX10.out.frz 1; have y2 := HX10.out.frz 2; have y3 := HX10.out.frz 3; have hx := HX10.out.lt)
            obtain ⟨⟨z0, z1, z2, z3⟩, hbf⟩ := HS10.out.bg.cells4 (.string ⟨#[]⟩) (.string ⟨#[]⟩) (.string ⟨#[]⟩) (.bool false)
            refine bodyPost_ret (v := .tuple #[adV ⟨[], [], [], false⟩, .int .i64 5]) (by simp [results, Tryz.results28, go_sem, z0, z1, z2, z3]) rfl ⟨?_, hbf⟩
            rw [HC.out, HCS.out]
           ·rw [if_neg hbig] at hcs0
            have hbi : ¬ (1024 : Int) < (tx.length : Int) := by omega
            rw [hcs0, if_pos rfl] at hsa0
            have HC := Lib.hid hsa0
            have HCS := Lib.hid hcs0
            clear hsa0 hcs0
            go_wp2_with (go_at_call 72; refine (HTXT.out _).mono ?_; rintro e w10 ⟨rfl, hb10⟩; have HS10 := Lib.hid (HZ9.out.older hb10); have HX10 := Lib.hid (HXZ.out.older hb10); clear c0 c1 c2 c3 d0 d1 d2 e0 e1 e2 e3 g0 g1 g2 g3 n0 n1 n2 n3 hz; clear x0 x1 x2 x3 y0 y1 y2 y3 hx; clear hb10; obtain ⟨⟨c0, c1, c2, c3⟩, ⟨d0, d1, d2⟩, ⟨⟨e0, e1, e2, e3⟩, ⟨g0, g1, g2, g3⟩⟩, ⟨n0, n1, n2, n3⟩, hz⟩ := HS10.out.facts; have x0 := HX10.out.cell (i := 0) rfl; have x1 := HX10.out.cell (i := 1) rfl; have x2 := HX10.out.cell (i := 2) rfl; have x3 := HX10.out.cell (i := 3) rfl; have y0 := HX10.out.frz 0; have y1 := HX10.out.frz 1; have y2 := HX10.out.frz 2; have y3 := HX10.out.frz 3; have hx := HX10.out.lt)
            obtain ⟨⟨z0, z1, z2, z3⟩, hbf⟩ := HS10.out.bg.cells4 (.string ⟨h4.toArray⟩) (.string ⟨p4.toArray⟩) (.string ⟨q4.toArray⟩) (.bool b4)
            refine bodyPost_ret (v := .tuple #[adV ⟨h4, p4, q4, b4⟩, .int .i64 0]) (by simp [results, Tryz.results28, go_sem, z0, z1, z2, z3]) rfl ⟨?_, hbf⟩
            rw [HC.out, HCS.out]
end Sg
end Go.Proofs.YtpkhbhdidkkebaaGreatDoor
end

