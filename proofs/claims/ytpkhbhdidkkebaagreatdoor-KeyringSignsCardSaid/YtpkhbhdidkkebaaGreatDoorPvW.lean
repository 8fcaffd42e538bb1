/- Contracts and plain facts that the statement's proof leans on (texts joined). No condition beyond those that each names. -/
import Derived.Test.YtpkhbhdidkkebaaGreatDoorPvL
section
namespace Go.Proofs.YtpkhbhdidkkebaaGreatDoor
open Go.RowKit Pl Ad Go.Shelf
attribute [local go_sem] ba_get ba_append ba_extract_end ba_extract_zero ba_extract conv_one
set_option maxRecDepth 100000
set_option maxHeartbeats 4000000
set_option linter.unusedVariables false
set_option linter.unusedSimpArgs false
namespace Sg
open Kr A1
theorem parts_any (a : Adr) (t : TokM) (w : World) (h3 : a.query.length ≤ 33554432) (hid : t.id.length ≤ 33554432) (hf0 : 0 ≤ t.frm) (hf1 : t.frm ≤ 1099511627776) (hu0 : 0 ≤ t.til) (hu1 : t.til ≤ 1099511627776) :
 Calls Tryz.prog 70 #[adV a, tkV t] w fun e w' => e = .returned (adV (Ad.begun a t)) ∧ Below w.heap.size w w' := by
 obtain ⟨h, p, q, b⟩ := a
 obtain ⟨id, frm, til⟩ := t
 simp only at h3 hid hf0 hf1 hu0 hu1
 have HW1 : Hid (∀ wz, Calls Tryz.prog 69 #[.agg #[.string ⟨h.toArray⟩, .string ⟨p.toArray⟩, .string ⟨q.toArray⟩, .bool b], .string ⟨(pK ++ id).toArray⟩] wz fun e w' => e = .returned (adV ((Adr.mk h p q b).plus (pK ++ id))) ∧ Below wz.heap.size wz w') := Lib.hid (fun wz => rwith_any ⟨h, p, q, b⟩ _ wz (by simp only; omega) (by simp [pK]; omega))
 have hl1 : ((Adr.mk h p q b).plus (pK ++ id)).query.length ≤ 67108900 := by cases b <;> simp [Adr.plus, pK] <;> omega
 obtain ⟨a1, ha1⟩ : ∃ x, (Adr.mk h p q b).plus (pK ++ id) = x := ⟨_, rfl⟩
 rw [ha1] at HW1 hl1
 obtain ⟨fs, hfs⟩ : ∃ x, decI frm = x := ⟨_, rfl⟩
 have hfl : fs.length ≤ 13 := by rw [← hfs]; exact decI_len hf1
 obtain ⟨us, hus⟩ : ∃ x, decI til = x := ⟨_, rfl⟩
 have hul : us.length ≤ 13 := by rw [← hus]; exact decI_len hu1
 obtain ⟨h1, p1, q1, b1⟩ := a1
 simp only at hl1
 have HW2 : Hid (∀ wz, Calls Tryz.prog 69 #[.agg #[.string ⟨h1.toArray⟩, .string ⟨p1.toArray⟩, .string ⟨q1.toArray⟩, .bool b1], .string ⟨(pF ++ fs).toArray⟩] wz fun e w' => e = .returned (adV ((Adr.mk h1 p1 q1 b1).plus (pF ++ fs))) ∧ Below wz.heap.size wz w') := Lib.hid (fun wz => rwith_any ⟨h1, p1, q1, b1⟩ _ wz (by simp only; omega) (by simp [pF]; omega))
 have hl2 : ((Adr.mk h1 p1 q1 b1).plus (pF ++ fs)).query.length ≤ 67109000 := by cases b1 <;> simp [Adr.plus, pF] <;> omega
 obtain ⟨a2, ha2⟩ : ∃ x, (Adr.mk h1 p1 q1 b1).plus (pF ++ fs) = x := ⟨_, rfl⟩
 rw [ha2] at HW2 hl2
 obtain ⟨h2, p2, q2, b2⟩ := a2
 simp only at hl2
 have HW3 : Hid (∀ wz, Calls Tryz.prog 69 #[.agg #[.string ⟨h2.toArray⟩, .string ⟨p2.toArray⟩, .string ⟨q2.toArray⟩, .bool b2], .string ⟨(pU ++ us).toArray⟩] wz fun e w' => e = .returned (adV ((Adr.mk h2 p2 q2 b2).plus (pU ++ us))) ∧ Below wz.heap.size wz w') := Lib.hid (fun wz => rwith_any ⟨h2, p2, q2, b2⟩ _ wz (by simp only; omega) (by simp [pU]; omega))
 obtain ⟨a3, ha3⟩ : ∃ x, (Adr.mk h2 p2 q2 b2).plus (pU ++ us) = x := ⟨_, rfl⟩
 rw [ha3] at HW3
 have HFIN := Lib.hid (show Ad.begun ⟨h, p, q, b⟩ ⟨id, frm, til⟩ = a3 by unfold Ad.begun; rw [ha1]; simp only; rw [hfs, ha2, hus, ha3])
 obtain ⟨h3', p3, q3, b3⟩ := a3
 have HIF : Hid (∀ wz,  Calls Tryz.prog 98 #[.int .i64 frm] wz fun e w' => e = .returned (.string ⟨fs.toArray⟩) ∧ Below wz.heap.size wz w') := Lib.hid (fun wz  => by have h9 := rtext_any frm wz hf0 hf1; rw [hfs] at h9; exact h9)
 have HIU : Hid (∀ wz,  Calls Tryz.prog 98 #[.int .i64 til] wz fun e w' => e = .returned (.string ⟨us.toArray⟩) ∧ Below wz.heap.size wz w') := Lib.hid (fun wz  => by have h9 := rtext_any til wz hu0 hu1; rw [hus] at h9; exact h9)
 have HS0 := Lib.hid (show BgS w (((w.alloc (.cells #[.string ⟨h.toArray⟩, .string ⟨p.toArray⟩, .string ⟨q.toArray⟩, .bool b] 63)).alloc (.cells #[.string ⟨id.toArray⟩, .int .i64 frm, .int .i64 til] 64)).alloc (.cells #[.string ⟨#[]⟩, .string ⟨#[]⟩, .string ⟨#[]⟩, .bool false] 63)) 63 64 ⟨h, p, q, b⟩ ⟨id, frm, til⟩ #[.string ⟨#[]⟩, .string ⟨#[]⟩, .string ⟨#[]⟩, .bool false] from
   ⟨(((Below.refl _ _).alloc (Nat.le_refl _) _).alloc (by simp) _).alloc (by simp; omega) _, ((Bx.new w _ _).older ((Below.refl _ _).alloc (Nat.le_refl _) _)).older ((Below.refl _ _).alloc (Nat.le_refl _) _),
    by have h9 := (Bx.new (w.alloc (.cells #[.string ⟨h.toArray⟩, .string ⟨p.toArray⟩, .string ⟨q.toArray⟩, .bool b] 63)) 64 #[.string ⟨id.toArray⟩, .int .i64 frm, .int .i64 til]).older ((Below.refl _ _).alloc (Nat.le_refl _) (.cells #[.string ⟨#[]⟩, .string ⟨#[]⟩, .string ⟨#[]⟩, .bool false] 63)); rw [show (w.alloc (.cells #[.string ⟨h.toArray⟩, .string ⟨p.toArray⟩, .string ⟨q.toArray⟩, .bool b] 63)).heap.size = w.heap.size + 1 by simp] at h9; exact h9,
    by have h9 := Bx.new ((w.alloc (.cells #[.string ⟨h.toArray⟩, .string ⟨p.toArray⟩, .string ⟨q.toArray⟩, .bool b] 63)).alloc (.cells #[.string ⟨id.toArray⟩, .int .i64 frm, .int .i64 til] 64)) 63 #[.string ⟨#[]⟩, .string ⟨#[]⟩, .string ⟨#[]⟩, .bool false]; rw [show ((w.alloc (.cells #[.string ⟨h.toArray⟩, .string ⟨p.toArray⟩, .string ⟨q.toArray⟩, .bool b] 63)).alloc (.cells #[.string ⟨id.toArray⟩, .int .i64 frm, .int .i64 til] 64)).heap.size = w.heap.size + 2 by simp] at h9; exact h9⟩)
 clear ha1 hfs hus ha2 ha3
 go_enter Tryz.func70, Tryz.ntmps70
 go_wp2_with (go_at_call 69; refine (HW1.out _).mono ?_; rintro e w2 ⟨rfl, hb2⟩; have HS2 := Lib.hid (HS0.out.older hb2); clear hb2; obtain ⟨⟨⟨c0, c1, c2, c3⟩, ⟨f0, f1, f2, f3⟩⟩, ⟨d0, d1, d2⟩, ⟨⟨e0, e1, e2, e3⟩, ⟨g0, g1, g2, g3⟩⟩, hz⟩ := HS2.out.facts)
 have HS3 := Lib.hid (HS2.out.setA ⟨h1, p1, q1, b1⟩)
 clear c0 c1 c2 c3 f0 f1 f2 f3 d0 d1 d2 e0 e1 e2 e3 g0 g1 g2 g3 hz
 obtain ⟨w3, hw3⟩ : ∃ x, ((((w2.setCell ⟨w.heap.size, 0, none⟩ (.string ⟨h1.toArray⟩)).setCell ⟨w.heap.size, 1, none⟩ (.string ⟨p1.toArray⟩)).setCell ⟨w.heap.size, 2, none⟩ (.string ⟨q1.toArray⟩)).setCell ⟨w.heap.size, 3, none⟩ (.bool b1)) = x := ⟨_, rfl⟩
 rw [hw3] at HS3 ⊢
 clear hw3 HS2 HS0
 obtain ⟨⟨⟨c0, c1, c2, c3⟩, ⟨f0, f1, f2, f3⟩⟩, ⟨d0, d1, d2⟩, ⟨⟨e0, e1, e2, e3⟩, ⟨g0, g1, g2, g3⟩⟩, hz⟩ := HS3.out.facts
 go_region_with (first
  | (go_at_call 98; refine (HIF.out _ ).mono ?_; rintro e w4 ⟨rfl, hb4⟩; have HS4 := Lib.hid ((HS3.out.older ((Below.refl _ _).drew)).older hb4); clear hb4; clear c0 c1 c2 c3 f0 f1 f2 f3 d0 d1 d2 e0 e1 e2 e3 g0 g1 g2 g3 hz; obtain ⟨⟨⟨c0, c1, c2, c3⟩, ⟨f0, f1, f2, f3⟩⟩, ⟨d0, d1, d2⟩, ⟨⟨e0, e1, e2, e3⟩, ⟨g0, g1, g2, g3⟩⟩, hz⟩ := HS4.out.facts)
  | (go_at_call 69; refine (HW2.out _).mono ?_; rintro e w5 ⟨rfl, hb5⟩; have HS5 := Lib.hid (HS4.out.older hb5); clear hb5; clear c0 c1 c2 c3 f0 f1 f2 f3 d0 d1 d2 e0 e1 e2 e3 g0 g1 g2 g3 hz; obtain ⟨⟨⟨c0, c1, c2, c3⟩, ⟨f0, f1, f2, f3⟩⟩, ⟨d0, d1, d2⟩, ⟨⟨e0, e1, e2, e3⟩, ⟨g0, g1, g2, g3⟩⟩, hz⟩ := HS5.out.facts))
 all_goals
   go_wp2_with fail
   have HS6 := Lib.hid (HS5.out.setA ⟨h2, p2, q2, b2⟩)
   clear c0 c1 c2 c3 f0 f1 f2 f3 d0 d1 d2 e0 e1 e2 e3 g0 g1 g2 g3 hz
   obtain ⟨w6, hw6⟩ : ∃ x, ((((w5.setCell ⟨w.heap.size, 0, none⟩ (.string ⟨h2.toArray⟩)).setCell ⟨w.heap.size, 1, none⟩ (.string ⟨p2.toArray⟩)).setCell ⟨w.heap.size, 2, none⟩ (.string ⟨q2.toArray⟩)).setCell ⟨w.heap.size, 3, none⟩ (.bool b2)) = x := ⟨_, rfl⟩
   rw [hw6] at HS6 ⊢
   clear hw6 HS5
   obtain ⟨⟨⟨c0, c1, c2, c3⟩, ⟨f0, f1, f2, f3⟩⟩, ⟨d0, d1, d2⟩, ⟨⟨e0, e1, e2, e3⟩, ⟨g0, g1, g2, g3⟩⟩, hz⟩ := HS6.out.facts
   go_region_with (first
    | (go_at_call 98; refine (HIU.out _ ).mono ?_; rintro e w7 ⟨rfl, hb7⟩; have HS7 := Lib.hid ((HS6.out.older ((Below.refl _ _).drew)).older hb7); clear hb7; clear c0 c1 c2 c3 f0 f1 f2 f3 d0 d1 d2 e0 e1 e2 e3 g0 g1 g2 g3 hz; obtain ⟨⟨⟨c0, c1, c2, c3⟩, ⟨f0, f1, f2, f3⟩⟩, ⟨d0, d1, d2⟩, ⟨⟨e0, e1, e2, e3⟩, ⟨g0, g1, g2, g3⟩⟩, hz⟩ := HS7.out.facts)
    | (go_at_call 69; refine (HW3.out _).mono ?_; rintro e w8 ⟨rfl, hb8⟩; have HS8 := Lib.hid (HS7.out.older hb8); clear hb8; clear c0 c1 c2 c3 f0 f1 f2 f3 d0 d1 d2 e0 e1 e2 e3 g0 g1 g2 g3 hz; obtain ⟨⟨⟨c0, c1, c2, c3⟩, ⟨f0, f1, f2, f3⟩⟩, ⟨d0, d1, d2⟩, ⟨⟨e0, e1, e2, e3⟩, ⟨g0, g1, g2, g3⟩⟩, hz⟩ := HS8.out.facts))
   all_goals
     go_wp2_with fail
     have hr := ((((HS8.out.rb.set 0 (.string ⟨h3'.toArray⟩)).set 1 (.string ⟨p3.toArray⟩)).set 2 (.string ⟨q3.toArray⟩)).set 3 (.bool b3))
     have z0 := hr.cell (i := 0) rfl
     have z1 := hr.cell (i := 1) rfl
     have z2 := hr.cell (i := 2) rfl
     have z3 := hr.cell (i := 3) rfl
     refine bodyPost_ret (v := adV ⟨h3', p3, q3, b3⟩) (by simp [results, Tryz.results70, go_sem, z0, z1, z2, z3]) rfl ⟨by rw [HFIN.out], ?_⟩
     exact Box.set HS8.out.bel (by omega) _ _ _ _
end Sg
end Go.Proofs.YtpkhbhdidkkebaaGreatDoor
end

