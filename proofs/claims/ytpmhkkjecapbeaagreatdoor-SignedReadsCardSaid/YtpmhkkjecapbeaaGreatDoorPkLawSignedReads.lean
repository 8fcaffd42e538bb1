/- PROVED: SignedReads returns true for every input and leaves its arguments as they were. No condition beyond the statement's own (the listed variables read as the program's text lays them, which the card ties). -/
import Derived.Deep.RegionHeld3
import Derived.OrdersHeld
import Derived.Test.YtpmhkkjecapbeaaGreatDoorPkG
import Derived.Test.YtpmhkkjecapbeaaGreatDoorPkU
import Derived.Test.YtpmhkkjecapbeaaGreatDoorPkX
namespace Go.Proofs.YtpmhkkjecapbeaaGreatDoor.lawSignedReads
open Go.ChangeShapes Go.WideShapes Go.ChangeAt Go.RowKit Pl Ad
open Go.ChangeMaps (open_string shut_string)
attribute [local go_sem] ba_get ba_append ba_extract_end ba_extract_zero ba_extract conv_one
set_option maxRecDepth 100000
set_option maxHeartbeats 4000000
set_option linter.unusedVariables false
set_option linter.unusedSimpArgs false
open Sg Dg Kr A1
/-- An address and a token in two boxes. -/
structure PrS (w0 w : World) (R U1 U2 : Nat) (r : Adr) (t : TokM) : Prop where
  bel : Below w0.heap.size w0 w
  kb : Bx w R U1 #[.string ⟨r.host.toArray⟩, .string ⟨r.path.toArray⟩, .string ⟨r.query.toArray⟩, .bool r.has]
  tb : Bx w (R + 1) U2 #[.string ⟨t.id.toArray⟩, .int .i64 t.frm, .int .i64 t.til]
theorem PrS.older {w0 w w' : World} {R U1 U2 : Nat} {r : Adr} {t : TokM} (h : PrS w0 w R U1 U2 r t) (hb : Below w.heap.size w w') : PrS w0 w' R U1 U2 r t := ⟨h.bel.trans (hb.mono h.bel.size), h.kb.older hb, h.tb.older hb⟩
theorem prS_new {w0 w : World} (U1 U2 : Nat) (h : Below w0.heap.size w0 w) (hh pp qq id : Bs) (bb : Bool) (frm til : Int) : PrS w0 ((w.alloc (.cells #[.string ⟨hh.toArray⟩, .string ⟨pp.toArray⟩, .string ⟨qq.toArray⟩, .bool bb] U1)).alloc (.cells #[.string ⟨id.toArray⟩, .int .i64 frm, .int .i64 til] U2)) w.heap.size U1 U2 ⟨hh, pp, qq, bb⟩ ⟨id, frm, til⟩ :=
  have b1 : Below w.heap.size w (w.alloc (.cells #[.string ⟨hh.toArray⟩, .string ⟨pp.toArray⟩, .string ⟨qq.toArray⟩, .bool bb] U1)) := (Below.refl _ _).alloc (Nat.le_refl _) _
  ⟨h.trans ((b1.alloc b1.size _).mono h.size), (Bx.new _ _ _).older ((Below.refl _ _).alloc (Nat.le_refl _) _),
   by have h9 := Bx.new (w.alloc (.cells #[.string ⟨hh.toArray⟩, .string ⟨pp.toArray⟩, .string ⟨qq.toArray⟩, .bool bb] U1)) U2 #[.string ⟨id.toArray⟩, .int .i64 frm, .int .i64 til]; rw [show (w.alloc (.cells #[.string ⟨hh.toArray⟩, .string ⟨pp.toArray⟩, .string ⟨qq.toArray⟩, .bool bb] U1)).heap.size = w.heap.size + 1 by simp] at h9; exact h9⟩
theorem PrS.facts {w0 w : World} {R U1 U2 : Nat} {r : Adr} {t : TokM} (h : PrS w0 w R U1 U2 r t) :
    (w.cell? ⟨R, 0, none⟩ = some (.string ⟨r.host.toArray⟩) ∧ w.cell? ⟨R, 1, none⟩ = some (.string ⟨r.path.toArray⟩) ∧ w.cell? ⟨R, 2, none⟩ = some (.string ⟨r.query.toArray⟩) ∧ w.cell? ⟨R, 3, none⟩ = some (.bool r.has)) ∧
    (w.cell? ⟨R + 1, 0, none⟩ = some (.string ⟨t.id.toArray⟩) ∧ w.cell? ⟨R + 1, 1, none⟩ = some (.int .i64 t.frm) ∧ w.cell? ⟨R + 1, 2, none⟩ = some (.int .i64 t.til)) ∧ R + 1 < w.heap.size :=
  ⟨⟨h.kb.cell (i := 0) rfl, h.kb.cell (i := 1) rfl, h.kb.cell (i := 2) rfl, h.kb.cell (i := 3) rfl⟩, ⟨h.tb.cell (i := 0) rfl, h.tb.cell (i := 1) rfl, h.tb.cell (i := 2) rfl⟩, h.tb.lt⟩
attribute [local go_sem] guard_pa guard_ra guard_pt eql_ra eql_pt
attribute [-go_sem] run_eql_struct run_eqGuard_agg
theorem adB_refl (h p q : Bs) (b : Bool) : adB h p q b h p q b = true := by rw [adB_iff]; exact decide_eq_true rfl
theorem tkB_refl (id : Bs) (f t : Int) : tkB id f t id f t = true := by rw [tkB_iff]; exact decide_eq_true rfl
theorem walk (h p q : Bs) (b : Bool) (w : World) (hg : Sg.SgnAt w) (z0 : h.length ≤ 140737488351232) (z1 : p.length ≤ 140737488351232) (z2 : q.length ≤ 140737488351232) :
    Calls Tryz.prog 5 #[adV ⟨h, p, q, b⟩] w fun e w' => e = .returned (.bool true) ∧ Below w.heap.size w w' := by
  have HG := Lib.hid hg
  have HB0 := Lib.hid ((Below.refl w.heap.size w).alloc (Nat.le_refl _) (.cells #[.string ⟨h.toArray⟩, .string ⟨p.toArray⟩, .string ⟨q.toArray⟩, .bool b] 62))
  have HX0 := Lib.hid (Bx.new w 62 #[.string ⟨h.toArray⟩, .string ⟨p.toArray⟩, .string ⟨q.toArray⟩, .bool b])
  have HSH : Hid (∀ wz, Calls Tryz.prog 31 #[.agg #[.string ⟨h.toArray⟩, .string ⟨p.toArray⟩, .string ⟨q.toArray⟩, .bool b], .slice none 0 0] wz fun e w' => e = .returned (.bool (decide (h.length + p.length + q.length ≤ 3000))) ∧ Below wz.heap.size wz w') := Lib.hid (fun wz => by have h9 := short_any ⟨h, p, q, b⟩ none 0 [] wz (.inl ⟨rfl, rfl, rfl⟩) (by decide) (fun n hn => by cases hn) (by simp only; omega) (by simp only; omega) (by simp only; omega); simp only [List.sum_nil, Nat.add_zero] at h9; exact h9)
  clear hg
  go_enter Tryz.func5, Tryz.ntmps5
  go_wp2_with fail
  refine (awake49_any _ (HG.out.below HB0.out)).mono ?_
  rintro e w1 ⟨rfl, hb1⟩
  have HB1 := Lib.hid (HB0.out.trans (hb1.mono HB0.out.size))
  have HX1 := Lib.hid (HX0.out.older hb1)
  clear hb1
  have c0 := HX1.out.cell (i := 0) rfl
  have c1 := HX1.out.cell (i := 1) rfl
  have c2 := HX1.out.cell (i := 2) rfl
  have c3 := HX1.out.cell (i := 3) rfl
  have hz := HX1.out.lt
  go_wp2_with fail
  refine (HSH.out _).mono ?_
  rintro e w2 ⟨rfl, hb2⟩
  have HB2 := Lib.hid (HB1.out.trans (hb2.mono HB1.out.size))
  have HX2 := Lib.hid (HX1.out.older hb2)
  clear hb2 c0 c1 c2 c3 hz
  by_cases hs : h.length + p.length + q.length ≤ 3000
  · have hsd : decide (h.length + p.length + q.length ≤ 3000) = true := decide_eq_true hs
    have c0 := HX2.out.cell (i := 0) rfl
    have c1 := HX2.out.cell (i := 1) rfl
    have c2 := HX2.out.cell (i := 2) rfl
    have c3 := HX2.out.cell (i := 3) rfl
    have hz := HX2.out.lt
    go_wp2_with fail
    refine (of_any ⟨h, p, q, b⟩ _).mono ?_
    rintro e w3 ⟨rfl, hb3⟩
    have HB3 := Lib.hid (HB2.out.trans (hb3.mono HB2.out.size))
    have HX3 := Lib.hid (HX2.out.older hb3)
    clear hb3 c0 c1 c2 c3 hz
    go_wp2_with fail
    have HRD : Hid (∀ wz, Sg.SgnAt wz → Calls Tryz.prog 27 #[.agg #[.string ⟨h.toArray⟩, .string ⟨p.toArray⟩, .string ⟨q.toArray⟩, .bool b]] wz fun e w' => e = .returned (rdV (readS ⟨h, p, q, b⟩)) ∧ Below wz.heap.size wz w') := Lib.hid (fun wz hz => read_any ⟨h, p, q, b⟩ wz hz (by simp only; omega) (by simp only; omega) (by simp only; omega))
    have HRR : Hid (∀ wz, Calls Tryz.prog 37 #[.agg #[.string ⟨h.toArray⟩, .string ⟨p.toArray⟩, .string ⟨q.toArray⟩, .bool b]] wz fun e w' => e = .returned (rrV (readS ⟨h, p, q, b⟩)) ∧ Below wz.heap.size wz w') := Lib.hid (fun wz => rread_any ⟨h, p, q, b⟩ wz (by simp only; omega) (by simp only; omega) (by simp only; omega))
    cases hr : readS ⟨h, p, q, b⟩ with
    | none =>
      rw [hr] at HRR HRD
      clear hr
      have HR1 : Hid (∀ wz, Sg.SgnAt wz → Calls Tryz.prog 27 #[.agg #[.string ⟨h.toArray⟩, .string ⟨p.toArray⟩, .string ⟨q.toArray⟩, .bool b]] wz fun e w' => e = .returned (.tuple #[adZ, tkZ, .string ⟨#[]⟩, errV 2]) ∧ Below wz.heap.size wz w') := HRD
      have HR2 : Hid (∀ wz, Calls Tryz.prog 37 #[.agg #[.string ⟨h.toArray⟩, .string ⟨p.toArray⟩, .string ⟨q.toArray⟩, .bool b]] wz fun e w' => e = .returned (.tuple #[adZ, tkZ, .string ⟨#[]⟩, .bool false]) ∧ Below wz.heap.size wz w') := HRR
      refine (HR1.out _ (HG.out.below HB3.out)).mono ?_
      rintro e w4 ⟨rfl, hb4⟩
      have HB4 := Lib.hid (HB3.out.trans (hb4.mono HB3.out.size))
      have HX4 := Lib.hid (HX3.out.older hb4)
      clear hb4 HRD HRR
      have HPR := Lib.hid (prS_new 27 51 HB4.out [] [] [] [] false 0 0)
      have c0 := HX4.out.cell (i := 0) rfl
      have c1 := HX4.out.cell (i := 1) rfl
      have c2 := HX4.out.cell (i := 2) rfl
      have c3 := HX4.out.cell (i := 3) rfl
      have hz := HX4.out.lt
      have hq4 := HB4.out.size
      go_wp2_with fail
      refine (HR2.out _).mono ?_
      rintro e w5 ⟨rfl, hb5⟩
      have HPR5 := Lib.hid (HPR.out.older hb5)
      clear hb5 c0 c1 c2 c3 hz hq4
      have HPQ := Lib.hid (prS_new 62 63 HPR5.out.bel [] [] [] [] false 0 0)
      have HPP := Lib.hid (HPR5.out.older (((Below.refl w5.heap.size w5).alloc (Nat.le_refl _) (.cells #[.string ⟨#[]⟩, .string ⟨#[]⟩, .string ⟨#[]⟩, .bool false] 62)).alloc (by simp) (.cells #[.string ⟨#[]⟩, .int .i64 0, .int .i64 0] 63)))
      go_wp2_with (go_at_call 18; refine (is_err 2 _ (by decide)).mono ?_; rintro e w' ⟨rfl, rfl⟩)
      obtain ⟨w6, hw6⟩ : ∃ z, ((w5.alloc (.cells #[.string ⟨#[]⟩, .string ⟨#[]⟩, .string ⟨#[]⟩, .bool false] 62)).alloc (.cells #[.string ⟨#[]⟩, .int .i64 0, .int .i64 0] 63)) = z := ⟨_, rfl⟩
      rw [hw6] at HPQ HPP ⊢
      clear hw6
      obtain ⟨R4, hR4⟩ : ∃ z, w4.heap.size = z := ⟨_, rfl⟩
      obtain ⟨R5, hR5⟩ : ∃ z, w5.heap.size = z := ⟨_, rfl⟩
      rw [hR4] at HPP ⊢
      rw [hR5] at HPQ ⊢
      obtain ⟨⟨a0, a1, a2, a3⟩, ⟨t0, t1, t2⟩, hza⟩ := HPP.out.facts
      obtain ⟨⟨b0, b1, b2, b3⟩, ⟨s0, s1, s2⟩, hzb⟩ := HPQ.out.facts
      have HAB := adB_refl [] [] [] false
      have HTB := tkB_refl [] 0 0
      have HPPd := Lib.hid (HPP.out.older ((Below.refl _ _).drew))
      have HPQd := Lib.hid (HPQ.out.older ((Below.refl _ _).drew))
      refine wp_region_held_drew (S := fun w' => w'.cell? ⟨R4, 0, none⟩ = some (.string ⟨#[]⟩) ∧ w'.cell? ⟨R4, 1, none⟩ = some (.string ⟨#[]⟩) ∧ w'.cell? ⟨R4, 2, none⟩ = some (.string ⟨#[]⟩) ∧ w'.cell? ⟨R4, 3, none⟩ = some (.bool false) ∧ w'.cell? ⟨R4 + 1, 0, none⟩ = some (.string ⟨#[]⟩) ∧ w'.cell? ⟨R4 + 1, 1, none⟩ = some (.int .i64 0) ∧ w'.cell? ⟨R4 + 1, 2, none⟩ = some (.int .i64 0) ∧ w'.cell? ⟨R5, 0, none⟩ = some (.string ⟨#[]⟩) ∧ w'.cell? ⟨R5, 1, none⟩ = some (.string ⟨#[]⟩) ∧ w'.cell? ⟨R5, 2, none⟩ = some (.string ⟨#[]⟩) ∧ w'.cell? ⟨R5, 3, none⟩ = some (.bool false) ∧ w'.cell? ⟨R5 + 1, 0, none⟩ = some (.string ⟨#[]⟩) ∧ w'.cell? ⟨R5 + 1, 1, none⟩ = some (.int .i64 0) ∧ w'.cell? ⟨R5 + 1, 2, none⟩ = some (.int .i64 0)) (by kernel_rfl) (by exact ⟨a0, a1, a2, a3, t0, t1, t2, b0, b1, b2, b3, s0, s1, s2⟩) (fun hHeld => ?_)
      obtain ⟨wd, hwd⟩ : ∃ z, w6.drew = z := ⟨_, rfl⟩
      rw [hwd] at hHeld HPPd HPQd ⊢
      clear hwd
      clear a0 a1 a2 a3 t0 t1 t2 b0 b1 b2 b3 s0 s1 s2 hza hzb
      obtain ⟨⟨a0, a1, a2, a3⟩, ⟨t0, t1, t2⟩, hza⟩ := HPPd.out.facts
      obtain ⟨⟨b0, b1, b2, b3⟩, ⟨s0, s1, s2⟩, hzb⟩ := HPQd.out.facts
      refine wpAnyH_take (i := 0) (v := ?_) (by simp only [List.getElem?_toArray, List.getElem?_cons_succ, List.getElem?_cons_zero]; rfl) (by kernel_rfl) (by kernel_rfl) (by kernel_rfl) (by intro _ _ _ h; exact h) (Or.inl ⟨by rfl, ?_⟩) (by assumption) ?_
      rotate_left
      focus (intro wT hT; (try dsimp only at hT); go_simp; try with_reducible rfl)
      try simp only [Act.put, List.setIfInBounds_toArray, List.set_cons_zero, List.set_cons_succ]
      refine wpAnyH_take (i := 2) (v := ?_) (by simp only [List.getElem?_toArray, List.getElem?_cons_succ, List.getElem?_cons_zero]; rfl) (by kernel_rfl) (by kernel_rfl) (by kernel_rfl) (by intro _ _ _ h; exact h) (Or.inl ⟨by rfl, ?_⟩) (by assumption) ?_
      rotate_left
      focus (intro wT hT; (try dsimp only at hT); go_simp; try with_reducible rfl)
      try simp only [Act.put, List.setIfInBounds_toArray, List.set_cons_zero, List.set_cons_succ]
      refine wpAnyH_ready (rs := [1]) (by kernel_rfl) (by simp) (AllReadyH.cons (by simp only [List.getElem?_toArray, List.getElem?_cons_succ, List.getElem?_cons_zero]; rfl) (fun K hK => ?_) AllReadyH.nil)
      go_simp
      go_at_call 36
      refine (ref_any ⟨[], [], [], false⟩ _).mono ?_
      rintro e v1 ⟨rfl, hv1⟩
      have HPP1 := Lib.hid (HPPd.out.older hv1)
      have HPQ1 := Lib.hid (HPQd.out.older hv1)
      clear a0 a1 a2 a3 t0 t1 t2 b0 b1 b2 b3 s0 s1 s2 hza hzb
      obtain ⟨⟨a0, a1, a2, a3⟩, ⟨t0, t1, t2⟩, hza⟩ := HPP1.out.facts
      obtain ⟨⟨b0, b1, b2, b3⟩, ⟨s0, s1, s2⟩, hzb⟩ := HPQ1.out.facts
      clear hv1
      go_wp2_with fail
      refine hK.out _ _ (by exact ⟨a0, a1, a2, a3, t0, t1, t2, b0, b1, b2, b3, s0, s1, s2⟩) (fun hHf1 => ?_)
      clear hK K
      try simp only [Act.put, List.setIfInBounds_toArray, List.set_cons_zero, List.set_cons_succ]
      refine wpAnyH_take (i := 3) (v := ?_) (by simp only [List.getElem?_toArray, List.getElem?_cons_succ, List.getElem?_cons_zero]; rfl) (by kernel_rfl) (by kernel_rfl) (by kernel_rfl) (by intro _ _ _ h; exact h) (Or.inl ⟨by rfl, ?_⟩) (by assumption) ?_
      rotate_left
      focus (intro wT hT; (try dsimp only at hT); go_simp; try with_reducible rfl)
      try simp only [Act.put, List.setIfInBounds_toArray, List.set_cons_zero, List.set_cons_succ]
      refine wpAnyH_take (i := 4) (v := ?_) (by simp only [List.getElem?_toArray, List.getElem?_cons_succ, List.getElem?_cons_zero]; rfl) (by kernel_rfl) (by kernel_rfl) (by kernel_rfl) (by intro _ _ _ h; exact h) (Or.inl ⟨by rfl, ?_⟩) (by assumption) ?_
      rotate_left
      focus (intro wT hT; (try dsimp only at hT); go_simp; try with_reducible rfl)
      try simp only [Act.put, List.setIfInBounds_toArray, List.set_cons_zero, List.set_cons_succ]
      refine wpAnyH_take (i := 5) (v := ?_) (by simp only [List.getElem?_toArray, List.getElem?_cons_succ, List.getElem?_cons_zero]; rfl) (by kernel_rfl) (by kernel_rfl) (by kernel_rfl) (by intro _ _ _ h; exact h) (Or.inl ⟨by rfl, ?_⟩) (by assumption) ?_
      rotate_left
      focus (intro wT hT; (try dsimp only at hT); go_simp; try with_reducible rfl)
      try simp only [Act.put, List.setIfInBounds_toArray, List.set_cons_zero, List.set_cons_succ]
      refine wpAnyH_take (i := 6) (v := ?_) (by simp only [List.getElem?_toArray, List.getElem?_cons_succ, List.getElem?_cons_zero]; rfl) (by kernel_rfl) (by kernel_rfl) (by kernel_rfl) (by intro _ _ _ h; exact h) (Or.inl ⟨by rfl, ?_⟩) (by assumption) ?_
      rotate_left
      focus (intro wT hT; (try dsimp only at hT); go_simp; try with_reducible rfl)
      try simp only [Act.put, List.setIfInBounds_toArray, List.set_cons_zero, List.set_cons_succ]
      refine wpAnyH_ready (rs := [7]) (by kernel_rfl) (by simp) (AllReadyH.cons (by simp only [List.getElem?_toArray, List.getElem?_cons_succ, List.getElem?_cons_zero]; rfl) (fun K hK => ?_) AllReadyH.nil)
      go_simp
      go_at_call 33
      refine (token_any ⟨[], 0, 0⟩ _).mono ?_
      rintro e v2 ⟨rfl, hv2⟩
      have HPP2 := Lib.hid (HPP1.out.older hv2)
      have HPQ2 := Lib.hid (HPQ1.out.older hv2)
      clear a0 a1 a2 a3 t0 t1 t2 b0 b1 b2 b3 s0 s1 s2 hza hzb
      obtain ⟨⟨a0, a1, a2, a3⟩, ⟨t0, t1, t2⟩, hza⟩ := HPP2.out.facts
      obtain ⟨⟨b0, b1, b2, b3⟩, ⟨s0, s1, s2⟩, hzb⟩ := HPQ2.out.facts
      clear hv2
      go_wp2_with fail
      refine hK.out _ _ (by exact ⟨a0, a1, a2, a3, t0, t1, t2, b0, b1, b2, b3, s0, s1, s2⟩) (fun hHf2 => ?_)
      clear hK K
      try simp only [Act.put, List.setIfInBounds_toArray, List.set_cons_zero, List.set_cons_succ]
      refine wpAnyH_take (i := 8) (v := ?_) (by simp only [List.getElem?_toArray, List.getElem?_cons_succ, List.getElem?_cons_zero]; rfl) (by kernel_rfl) (by kernel_rfl) (by kernel_rfl) (by intro _ _ _ h; exact h) (Or.inl ⟨by rfl, ?_⟩) (by assumption) ?_
      rotate_left
      focus (intro wT hT; (try dsimp only at hT); go_simp; try with_reducible rfl)
      try simp only [Act.put, List.setIfInBounds_toArray, List.set_cons_zero, List.set_cons_succ]
      refine wpAnyH_take (i := 9) (v := ?_) (by simp only [List.getElem?_toArray, List.getElem?_cons_succ, List.getElem?_cons_zero]; rfl) (by kernel_rfl) (by kernel_rfl) (by kernel_rfl) (by intro _ _ _ h; exact h) (Or.inl ⟨by rfl, ?_⟩) (by assumption) ?_
      rotate_left
      focus (intro wT hT; (try dsimp only at hT); go_simp; try with_reducible rfl)
      try simp only [Act.put, List.setIfInBounds_toArray, List.set_cons_zero, List.set_cons_succ]
      refine wpAnyH_take (i := 10) (v := ?_) (by simp only [List.getElem?_toArray, List.getElem?_cons_succ, List.getElem?_cons_zero]; rfl) (by kernel_rfl) (by kernel_rfl) (by kernel_rfl) (by intro _ _ _ h; exact h) (Or.inl ⟨by rfl, ?_⟩) (by assumption) ?_
      rotate_left
      focus (intro wT hT; (try dsimp only at hT); go_simp; try with_reducible rfl)
      try simp only [Act.put, List.setIfInBounds_toArray, List.set_cons_zero, List.set_cons_succ]
      refine wpAnyH_take (i := 11) (v := ?_) (by simp only [List.getElem?_toArray, List.getElem?_cons_succ, List.getElem?_cons_zero]; rfl) (by kernel_rfl) (by kernel_rfl) (by kernel_rfl) (by intro _ _ _ h; exact h) (Or.inl ⟨by rfl, ?_⟩) (by assumption) ?_
      rotate_left
      focus (intro wT hT; (try dsimp only at hT); go_simp; try with_reducible rfl)
      try simp only [Act.put, List.setIfInBounds_toArray, List.set_cons_zero, List.set_cons_succ]
      refine wpAnyH_take (i := 12) (v := ?_) (by simp only [List.getElem?_toArray, List.getElem?_cons_succ, List.getElem?_cons_zero]; rfl) (by kernel_rfl) (by kernel_rfl) (by kernel_rfl) (by intro _ _ _ h; exact h) (Or.inl ⟨by rfl, ?_⟩) (by assumption) ?_
      rotate_left
      focus (intro wT hT; (try dsimp only at hT); go_simp; try with_reducible rfl)
      try simp only [Act.put, List.setIfInBounds_toArray, List.set_cons_zero, List.set_cons_succ]
      refine wpAnyH_take (i := 13) (v := ?_) (by simp only [List.getElem?_toArray, List.getElem?_cons_succ, List.getElem?_cons_zero]; rfl) (by kernel_rfl) (by kernel_rfl) (by kernel_rfl) (by intro _ _ _ h; exact h) (Or.inl ⟨by rfl, ?_⟩) (by assumption) ?_
      rotate_left
      focus (intro wT hT; (try dsimp only at hT); go_simp; try with_reducible rfl)
      try simp only [Act.put, List.setIfInBounds_toArray, List.set_cons_zero, List.set_cons_succ]
      refine wpAnyH_take (i := 14) (v := ?_) (by simp only [List.getElem?_toArray, List.getElem?_cons_succ, List.getElem?_cons_zero]; rfl) (by kernel_rfl) (by kernel_rfl) (by kernel_rfl) (by intro _ _ _ h; exact h) (Or.inl ⟨by rfl, ?_⟩) (by assumption) ?_
      rotate_left
      focus (intro wT hT; (try dsimp only at hT); go_simp; try with_reducible rfl)
      try simp only [Act.put, List.setIfInBounds_toArray, List.set_cons_zero, List.set_cons_succ]
      refine wpAnyH_take (i := 15) (v := ?_) (by simp only [List.getElem?_toArray, List.getElem?_cons_succ, List.getElem?_cons_zero]; rfl) (by kernel_rfl) (by kernel_rfl) (by kernel_rfl) (by intro _ _ _ h; exact h) (Or.inl ⟨by rfl, ?_⟩) (by assumption) ?_
      rotate_left
      focus (intro wT hT; (try dsimp only at hT); go_simp; try with_reducible rfl)
      try simp only [Act.put, List.setIfInBounds_toArray, List.set_cons_zero, List.set_cons_succ]
      refine wpAnyH_done (by kernel_rfl) ?_ _
      go_wp2_with fail
      go_ret
      exact ⟨rfl, HPP2.out.bel⟩
    | some r =>
      obtain ⟨⟨rh, rp, rq, rb⟩, ⟨id, frm, til⟩, sg⟩ := r
      rw [hr] at HRR HRD
      clear hr
      have HR1 : Hid (∀ wz, Sg.SgnAt wz → Calls Tryz.prog 27 #[.agg #[.string ⟨h.toArray⟩, .string ⟨p.toArray⟩, .string ⟨q.toArray⟩, .bool b]] wz fun e w' => e = .returned (.tuple #[adV ⟨rh, rp, rq, rb⟩, tkV ⟨id, frm, til⟩, .string ⟨sg.toArray⟩, .nilIface]) ∧ Below wz.heap.size wz w') := HRD
      have HR2 : Hid (∀ wz, Calls Tryz.prog 37 #[.agg #[.string ⟨h.toArray⟩, .string ⟨p.toArray⟩, .string ⟨q.toArray⟩, .bool b]] wz fun e w' => e = .returned (.tuple #[adV ⟨rh, rp, rq, rb⟩, tkV ⟨id, frm, til⟩, .string ⟨sg.toArray⟩, .bool true]) ∧ Below wz.heap.size wz w') := HRR
      refine (HR1.out _ (HG.out.below HB3.out)).mono ?_
      rintro e w4 ⟨rfl, hb4⟩
      have HB4 := Lib.hid (HB3.out.trans (hb4.mono HB3.out.size))
      have HX4 := Lib.hid (HX3.out.older hb4)
      clear hb4 HRD HRR
      have HPR := Lib.hid (prS_new 27 51 HB4.out rh rp rq id rb frm til)
      have c0 := HX4.out.cell (i := 0) rfl
      have c1 := HX4.out.cell (i := 1) rfl
      have c2 := HX4.out.cell (i := 2) rfl
      have c3 := HX4.out.cell (i := 3) rfl
      have hz := HX4.out.lt
      have hq4 := HB4.out.size
      go_wp2_with fail
      refine (HR2.out _).mono ?_
      rintro e w5 ⟨rfl, hb5⟩
      have HPR5 := Lib.hid (HPR.out.older hb5)
      clear hb5 c0 c1 c2 c3 hz hq4
      have HPQ := Lib.hid (prS_new 62 63 HPR5.out.bel rh rp rq id rb frm til)
      have HPP := Lib.hid (HPR5.out.older (((Below.refl w5.heap.size w5).alloc (Nat.le_refl _) (.cells #[.string ⟨rh.toArray⟩, .string ⟨rp.toArray⟩, .string ⟨rq.toArray⟩, .bool rb] 62)).alloc (by simp) (.cells #[.string ⟨id.toArray⟩, .int .i64 frm, .int .i64 til] 63)))
      go_wp2_with fail
      obtain ⟨w6, hw6⟩ : ∃ z, ((w5.alloc (.cells #[.string ⟨rh.toArray⟩, .string ⟨rp.toArray⟩, .string ⟨rq.toArray⟩, .bool rb] 62)).alloc (.cells #[.string ⟨id.toArray⟩, .int .i64 frm, .int .i64 til] 63)) = z := ⟨_, rfl⟩
      rw [hw6] at HPQ HPP ⊢
      clear hw6
      obtain ⟨R4, hR4⟩ : ∃ z, w4.heap.size = z := ⟨_, rfl⟩
      obtain ⟨R5, hR5⟩ : ∃ z, w5.heap.size = z := ⟨_, rfl⟩
      rw [hR4] at HPP ⊢
      rw [hR5] at HPQ ⊢
      obtain ⟨⟨a0, a1, a2, a3⟩, ⟨t0, t1, t2⟩, hza⟩ := HPP.out.facts
      obtain ⟨⟨b0, b1, b2, b3⟩, ⟨s0, s1, s2⟩, hzb⟩ := HPQ.out.facts
      have HAB := adB_refl rh rp rq rb
      have HTB := tkB_refl id frm til
      have HPPd := Lib.hid (HPP.out.older ((Below.refl _ _).drew))
      have HPQd := Lib.hid (HPQ.out.older ((Below.refl _ _).drew))
      refine wp_region_held_drew (S := fun w' => w'.cell? ⟨R4, 0, none⟩ = some (.string ⟨rh.toArray⟩) ∧ w'.cell? ⟨R4, 1, none⟩ = some (.string ⟨rp.toArray⟩) ∧ w'.cell? ⟨R4, 2, none⟩ = some (.string ⟨rq.toArray⟩) ∧ w'.cell? ⟨R4, 3, none⟩ = some (.bool rb) ∧ w'.cell? ⟨R4 + 1, 0, none⟩ = some (.string ⟨id.toArray⟩) ∧ w'.cell? ⟨R4 + 1, 1, none⟩ = some (.int .i64 frm) ∧ w'.cell? ⟨R4 + 1, 2, none⟩ = some (.int .i64 til) ∧ w'.cell? ⟨R5, 0, none⟩ = some (.string ⟨rh.toArray⟩) ∧ w'.cell? ⟨R5, 1, none⟩ = some (.string ⟨rp.toArray⟩) ∧ w'.cell? ⟨R5, 2, none⟩ = some (.string ⟨rq.toArray⟩) ∧ w'.cell? ⟨R5, 3, none⟩ = some (.bool rb) ∧ w'.cell? ⟨R5 + 1, 0, none⟩ = some (.string ⟨id.toArray⟩) ∧ w'.cell? ⟨R5 + 1, 1, none⟩ = some (.int .i64 frm) ∧ w'.cell? ⟨R5 + 1, 2, none⟩ = some (.int .i64 til)) (by kernel_rfl) (by exact ⟨a0, a1, a2, a3, t0, t1, t2, b0, b1, b2, b3, s0, s1, s2⟩) (fun hHeld => ?_)
      obtain ⟨wd, hwd⟩ : ∃ z, w6.drew = z := ⟨_, rfl⟩
      rw [hwd] at hHeld HPPd HPQd ⊢
      clear hwd
      clear a0 a1 a2 a3 t0 t1 t2 b0 b1 b2 b3 s0 s1 s2 hza hzb
      obtain ⟨⟨a0, a1, a2, a3⟩, ⟨t0, t1, t2⟩, hza⟩ := HPPd.out.facts
      obtain ⟨⟨b0, b1, b2, b3⟩, ⟨s0, s1, s2⟩, hzb⟩ := HPQd.out.facts
      refine wpAnyH_take (i := 0) (v := ?_) (by simp only [List.getElem?_toArray, List.getElem?_cons_succ, List.getElem?_cons_zero]; rfl) (by kernel_rfl) (by kernel_rfl) (by kernel_rfl) (by intro _ _ _ h; exact h) (Or.inl ⟨by rfl, ?_⟩) (by assumption) ?_
      rotate_left
      focus (intro wT hT; (try dsimp only at hT); go_simp; try with_reducible rfl)
      try simp only [Act.put, List.setIfInBounds_toArray, List.set_cons_zero, List.set_cons_succ]
      refine wpAnyH_take (i := 2) (v := ?_) (by simp only [List.getElem?_toArray, List.getElem?_cons_succ, List.getElem?_cons_zero]; rfl) (by kernel_rfl) (by kernel_rfl) (by kernel_rfl) (by intro _ _ _ h; exact h) (Or.inl ⟨by rfl, ?_⟩) (by assumption) ?_
      rotate_left
      focus (intro wT hT; (try dsimp only at hT); go_simp; try with_reducible rfl)
      try simp only [Act.put, List.setIfInBounds_toArray, List.set_cons_zero, List.set_cons_succ]
      refine wpAnyH_ready (rs := [1]) (by kernel_rfl) (by simp) (AllReadyH.cons (by simp only [List.getElem?_toArray, List.getElem?_cons_succ, List.getElem?_cons_zero]; rfl) (fun K hK => ?_) AllReadyH.nil)
      go_simp
      go_at_call 36
      refine (ref_any ⟨rh, rp, rq, rb⟩ _).mono ?_
      rintro e v1 ⟨rfl, hv1⟩
      have HPP1 := Lib.hid (HPPd.out.older hv1)
      have HPQ1 := Lib.hid (HPQd.out.older hv1)
      clear a0 a1 a2 a3 t0 t1 t2 b0 b1 b2 b3 s0 s1 s2 hza hzb
      obtain ⟨⟨a0, a1, a2, a3⟩, ⟨t0, t1, t2⟩, hza⟩ := HPP1.out.facts
      obtain ⟨⟨b0, b1, b2, b3⟩, ⟨s0, s1, s2⟩, hzb⟩ := HPQ1.out.facts
      clear hv1
      go_wp2_with fail
      refine hK.out _ _ (by exact ⟨a0, a1, a2, a3, t0, t1, t2, b0, b1, b2, b3, s0, s1, s2⟩) (fun hHf1 => ?_)
      clear hK K
      try simp only [Act.put, List.setIfInBounds_toArray, List.set_cons_zero, List.set_cons_succ]
      refine wpAnyH_take (i := 3) (v := ?_) (by simp only [List.getElem?_toArray, List.getElem?_cons_succ, List.getElem?_cons_zero]; rfl) (by kernel_rfl) (by kernel_rfl) (by kernel_rfl) (by intro _ _ _ h; exact h) (Or.inl ⟨by rfl, ?_⟩) (by assumption) ?_
      rotate_left
      focus (intro wT hT; (try dsimp only at hT); go_simp; try with_reducible rfl)
      try simp only [Act.put, List.setIfInBounds_toArray, List.set_cons_zero, List.set_cons_succ]
      refine wpAnyH_take (i := 4) (v := ?_) (by simp only [List.getElem?_toArray, List.getElem?_cons_succ, List.getElem?_cons_zero]; rfl) (by kernel_rfl) (by kernel_rfl) (by kernel_rfl) (by intro _ _ _ h; exact h) (Or.inl ⟨by rfl, ?_⟩) (by assumption) ?_
      rotate_left
      focus (intro wT hT; (try dsimp only at hT); go_simp; try with_reducible rfl)
      try simp only [Act.put, List.setIfInBounds_toArray, List.set_cons_zero, List.set_cons_succ]
      refine wpAnyH_take (i := 5) (v := ?_) (by simp only [List.getElem?_toArray, List.getElem?_cons_succ, List.getElem?_cons_zero]; rfl) (by kernel_rfl) (by kernel_rfl) (by kernel_rfl) (by intro _ _ _ h; exact h) (Or.inl ⟨by rfl, ?_⟩) (by assumption) ?_
      rotate_left
      focus (intro wT hT; (try dsimp only at hT); go_simp; try with_reducible rfl)
      try simp only [Act.put, List.setIfInBounds_toArray, List.set_cons_zero, List.set_cons_succ]
      refine wpAnyH_take (i := 6) (v := ?_) (by simp only [List.getElem?_toArray, List.getElem?_cons_succ, List.getElem?_cons_zero]; rfl) (by kernel_rfl) (by kernel_rfl) (by kernel_rfl) (by intro _ _ _ h; exact h) (Or.inl ⟨by rfl, ?_⟩) (by assumption) ?_
      rotate_left
      focus (intro wT hT; (try dsimp only at hT); go_simp; try with_reducible rfl)
      try simp only [Act.put, List.setIfInBounds_toArray, List.set_cons_zero, List.set_cons_succ]
      refine wpAnyH_ready (rs := [7]) (by kernel_rfl) (by simp) (AllReadyH.cons (by simp only [List.getElem?_toArray, List.getElem?_cons_succ, List.getElem?_cons_zero]; rfl) (fun K hK => ?_) AllReadyH.nil)
      go_simp
      go_at_call 33
      refine (token_any ⟨id, frm, til⟩ _).mono ?_
      rintro e v2 ⟨rfl, hv2⟩
      have HPP2 := Lib.hid (HPP1.out.older hv2)
      have HPQ2 := Lib.hid (HPQ1.out.older hv2)
      clear a0 a1 a2 a3 t0 t1 t2 b0 b1 b2 b3 s0 s1 s2 hza hzb
      obtain ⟨⟨a0, a1, a2, a3⟩, ⟨t0, t1, t2⟩, hza⟩ := HPP2.out.facts
      obtain ⟨⟨b0, b1, b2, b3⟩, ⟨s0, s1, s2⟩, hzb⟩ := HPQ2.out.facts
      clear hv2
      go_wp2_with fail
      refine hK.out _ _ (by exact ⟨a0, a1, a2, a3, t0, t1, t2, b0, b1, b2, b3, s0, s1, s2⟩) (fun hHf2 => ?_)
      clear hK K
      try simp only [Act.put, List.setIfInBounds_toArray, List.set_cons_zero, List.set_cons_succ]
      refine wpAnyH_take (i := 8) (v := ?_) (by simp only [List.getElem?_toArray, List.getElem?_cons_succ, List.getElem?_cons_zero]; rfl) (by kernel_rfl) (by kernel_rfl) (by kernel_rfl) (by intro _ _ _ h; exact h) (Or.inl ⟨by rfl, ?_⟩) (by assumption) ?_
      rotate_left
      focus (intro wT hT; (try dsimp only at hT); go_simp; try with_reducible rfl)
      try simp only [Act.put, List.setIfInBounds_toArray, List.set_cons_zero, List.set_cons_succ]
      refine wpAnyH_take (i := 9) (v := ?_) (by simp only [List.getElem?_toArray, List.getElem?_cons_succ, List.getElem?_cons_zero]; rfl) (by kernel_rfl) (by kernel_rfl) (by kernel_rfl) (by intro _ _ _ h; exact h) (Or.inl ⟨by rfl, ?_⟩) (by assumption) ?_
      rotate_left
      focus (intro wT hT; (try dsimp only at hT); go_simp; try with_reducible rfl)
      try simp only [Act.put, List.setIfInBounds_toArray, List.set_cons_zero, List.set_cons_succ]
      refine wpAnyH_take (i := 10) (v := ?_) (by simp only [List.getElem?_toArray, List.getElem?_cons_succ, List.getElem?_cons_zero]; rfl) (by kernel_rfl) (by kernel_rfl) (by kernel_rfl) (by intro _ _ _ h; exact h) (Or.inl ⟨by rfl, ?_⟩) (by assumption) ?_
      rotate_left
      focus (intro wT hT; (try dsimp only at hT); go_simp; try with_reducible rfl)
      try simp only [Act.put, List.setIfInBounds_toArray, List.set_cons_zero, List.set_cons_succ]
      refine wpAnyH_take (i := 11) (v := ?_) (by simp only [List.getElem?_toArray, List.getElem?_cons_succ, List.getElem?_cons_zero]; rfl) (by kernel_rfl) (by kernel_rfl) (by kernel_rfl) (by intro _ _ _ h; exact h) (Or.inl ⟨by rfl, ?_⟩) (by assumption) ?_
      rotate_left
      focus (intro wT hT; (try dsimp only at hT); go_simp; try with_reducible rfl)
      try simp only [Act.put, List.setIfInBounds_toArray, List.set_cons_zero, List.set_cons_succ]
      refine wpAnyH_take (i := 12) (v := ?_) (by simp only [List.getElem?_toArray, List.getElem?_cons_succ, List.getElem?_cons_zero]; rfl) (by kernel_rfl) (by kernel_rfl) (by kernel_rfl) (by intro _ _ _ h; exact h) (Or.inl ⟨by rfl, ?_⟩) (by assumption) ?_
      rotate_left
      focus (intro wT hT; (try dsimp only at hT); go_simp; try with_reducible rfl)
      try simp only [Act.put, List.setIfInBounds_toArray, List.set_cons_zero, List.set_cons_succ]
      refine wpAnyH_take (i := 13) (v := ?_) (by simp only [List.getElem?_toArray, List.getElem?_cons_succ, List.getElem?_cons_zero]; rfl) (by kernel_rfl) (by kernel_rfl) (by kernel_rfl) (by intro _ _ _ h; exact h) (Or.inl ⟨by rfl, ?_⟩) (by assumption) ?_
      rotate_left
      focus (intro wT hT; (try dsimp only at hT); go_simp; try with_reducible rfl)
      try simp only [Act.put, List.setIfInBounds_toArray, List.set_cons_zero, List.set_cons_succ]
      refine wpAnyH_take (i := 14) (v := ?_) (by simp only [List.getElem?_toArray, List.getElem?_cons_succ, List.getElem?_cons_zero]; rfl) (by kernel_rfl) (by kernel_rfl) (by kernel_rfl) (by intro _ _ _ h; exact h) (Or.inl ⟨by rfl, ?_⟩) (by assumption) ?_
      rotate_left
      focus (intro wT hT; (try dsimp only at hT); go_simp; try with_reducible rfl)
      try simp only [Act.put, List.setIfInBounds_toArray, List.set_cons_zero, List.set_cons_succ]
      refine wpAnyH_take (i := 15) (v := ?_) (by simp only [List.getElem?_toArray, List.getElem?_cons_succ, List.getElem?_cons_zero]; rfl) (by kernel_rfl) (by kernel_rfl) (by kernel_rfl) (by intro _ _ _ h; exact h) (Or.inl ⟨by rfl, ?_⟩) (by assumption) ?_
      rotate_left
      focus (intro wT hT; (try dsimp only at hT); go_simp; try with_reducible rfl)
      try simp only [Act.put, List.setIfInBounds_toArray, List.set_cons_zero, List.set_cons_succ]
      refine wpAnyH_done (by kernel_rfl) ?_ _
      go_wp2_with fail
      go_ret
      exact ⟨rfl, HPP2.out.bel⟩
  · have hsd : decide (h.length + p.length + q.length ≤ 3000) = false := decide_eq_false hs
    go_wp2_with fail
    refine (awake49_any _ (HG.out.below HB2.out)).mono ?_
    rintro e w3 ⟨rfl, hb3⟩
    have HB3 := Lib.hid (HB2.out.trans (hb3.mono HB2.out.size))
    clear hb3
    go_wp2_with fail
    go_ret
    exact ⟨rfl, HB3.out⟩

/-- What the walk gives, for every argument. -/
theorem contract (H : Type) (enc : TypeId × Value → H) (W : World) (base : Nat) (args : Array Value) (ds gs : List (DataW H)) (before : List MemPlace)
    (hval : ∀ (j : Nat) t v, Tryz.f5.params[j]? = some t → args[j]? = some v → Value.okWide Tryz.prog W .any base t v)
    (hW : DataW.Whole enc Tryz.prog Tryz.f5.params.toList Rows.signedReadsSpec.vars false W args.toList ds gs before) (hsz : (DataW.weightsEach Tryz.prog Tryz.f5.params.toList (ds ++ gs)).all (· ≤ reachBytes) = true) (hr : Sg.SgnAt W) :
    Calls Tryz.prog 5 args W fun e W' => ∃ v, e = .returned v ∧ Rows.signedReadsSpec.post enc Tryz.prog Tryz.f5 false true false false W args v W' := by
  have hW' := hW
  have hlt := fun p hp => hW.lt p hp
  obtain ⟨p, q, hA0, hV, rfl, hfz, hnd⟩ := hW
  have hA : DataW.TrodAll enc Tryz.prog W 0 (fun _ => true) true Tryz.f5.params.toList args.toList ds p := hA0
  have hA1 := hA
  obtain ⟨rfl, rfl⟩ := trodVars_none hV
  rw [Tryz.params5] at hA hval
  obtain ⟨v0, vs0, d0, ds0, p0, q0, hargs, rfl, rfl, h0, r0⟩ := trodAll_cons hA
  obtain ⟨rfl, rfl, rfl⟩ := trodAll_nil r0
  obtain rfl : args = #[v0] := by cases args; simp_all
  have fin : ∀ W', Below W.heap.size W W' → Rows.signedReadsSpec.post enc Tryz.prog Tryz.f5 false true false false W #[v0] (.bool true) W' := fun W' hb => by
    simp only [List.append_nil] at hA1 hW' hlt
    exact ⟨_, _, _, [], _, [], hW', trodAll_cons_mk (shut_bool Tryz.underlying4 _) trodAll_mk0, Fr.trodAll_below (by kernel_rfl) _ (by kernel_rfl) hA1 hb hlt, rfl, hb.frame _, fun h => by cases h⟩
  clear hW' hA0 hA1 hlt
  rw [Tryz.params5, List.append_nil] at hsz
  obtain ⟨c0, c1, c2, c3, y0, y1, y2, y3, m, rfl, rfl, rfl, hy0, hy1, hy2, hy3⟩ := Go.Joins.open_agg4 Tryz.underlying62 (by kernel_rfl) (show Tryz.prog.cellsOf 62 = 4 by kernel_rfl) (hval 0 62 v0 rfl rfl) h0
  obtain ⟨s0_0, e0, rfl, hs0_0⟩ := DataW.trod_string Tryz.underlying9 hy0
  obtain ⟨s0_1, e1, rfl, hs0_1⟩ := DataW.trod_string Tryz.underlying9 hy1
  obtain ⟨s0_2, e2, rfl, hs0_2⟩ := DataW.trod_string Tryz.underlying9 hy2
  obtain ⟨b0, e3, rfl⟩ := DataW.trod_bool Tryz.underlying4 hy3
  simp only [List.cons.injEq, and_true] at e0 e1 e2 e3
  subst e0 e1 e2 e3
  obtain ⟨⟨l0_0⟩⟩ := s0_0
  obtain ⟨⟨l0_1⟩⟩ := s0_1
  obtain ⟨⟨l0_2⟩⟩ := s0_2
  have z0 : l0_0.length ≤ 140737488351232 ∧ l0_1.length ≤ 140737488351232 ∧ l0_2.length ≤ 140737488351232 := Fr.sized_adr hsz (j := 0) rfl rfl Tryz.underlying62
  refine (walk l0_0 l0_1 l0_2 b0 W hr z0.1 z0.2.1 z0.2.2).mono fun e W' ⟨he, hb⟩ => ?_
  subst he
  exact ⟨_, rfl, fin W' hb⟩

theorem laid_met (os : Os) : laidMet Tryz.prog Rows.signedReadsRow.laid ((Fr.laidE Rows.signedReadsRow.laid os).forCall (fun _ _ => 0) ⟨#[], #[.agg #[.string ⟨#[]⟩, .string ⟨#[]⟩, .string ⟨#[]⟩, .bool false]], []⟩).memory :=
  laidMet_of_run' 8 (by kernel_rfl) (by kernel_rfl)
theorem reads (os : Os) {H : Type} (enc : TypeId × Value → H) : ∃ places, DataW.whole enc Tryz.prog ((Fr.laidE Rows.signedReadsRow.laid os).forCall (fun _ _ => 0) ⟨#[], #[.agg #[.string ⟨#[]⟩, .string ⟨#[]⟩, .string ⟨#[]⟩, .bool false]], []⟩).memory Tryz.f5.params.toList Rows.signedReadsSpec.vars false (#[.agg #[.string ⟨#[]⟩, .string ⟨#[]⟩, .string ⟨#[]⟩, .bool false]] : Array Value).toList 8 = some ([.agg [.lit (.string []), .lit (.string []), .lit (.string []), .lit (.bool false)]], [], places) :=
  ⟨[], by kernel_rfl⟩

theorem lifted (os : Os) (started : os.Started) (H : Type) (enc : TypeId × Value → H) (F : Stop.Interp) :
    ReturnsInHanded {} Tryz.checked os 5 .any ((OpenSpec.ofChange Rows.signedReadsSpec).preRow enc Tryz.prog Tryz.f5 Rows.signedReadsRow.domain false Rows.signedReadsRow.laid) (((OpenSpec.ofChange Rows.signedReadsSpec).at F).post enc Tryz.prog Tryz.f5 false true false false) := by
  obtain ⟨places, hx⟩ := reads os enc
  refine returnsInHanded_of_row (C := Tryz.checked) (s := OpenSpec.ofChange Rows.signedReadsSpec) Fr.own started (by kernel_rfl) Tryz.func5
    (witness_row_at (enc := enc) (C := Tryz.checked) false (Fr.laidE Rows.signedReadsRow.laid os) #[.agg #[.string ⟨#[]⟩, .string ⟨#[]⟩, .string ⟨#[]⟩, .bool false]] rfl (by kernel_rfl) (by kernel_rfl) (by kernel_rfl)
      (OpenSpec.preRow_of_cond 8 hx (by kernel_rfl) (fun k hk => by cases hk) (by kernel_rfl) (laid_met os))) ?_
  intro W base args ds gs before hval hW _ hcond hsz hlaid hsh _
  exact contract H enc W base args ds gs before hval hW (by have h9 : (DataW.weightsEach Tryz.prog (Tryz.f5.params.toList ++ []) (ds ++ gs)).all (· ≤ reachBytes) = true := hsz; rw [List.append_nil] at h9; exact h9) (Fr.sgn_laid hsh hlaid (by kernel_rfl) (by repeat first | exact List.mem_cons_self .. | apply List.mem_cons_of_mem) (by repeat first | exact List.mem_cons_self .. | apply List.mem_cons_of_mem) (by repeat first | exact List.mem_cons_self .. | apply List.mem_cons_of_mem) (by repeat first | exact List.mem_cons_self .. | apply List.mem_cons_of_mem))

theorem k_0 : Rows.signedReadsRow.wf (OpenSpec.ofChange (OpenSpec.ofChange Rows.signedReadsSpec).bare) = true := by kernel_rfl
theorem k_1 : laidOutB Tryz.prog = true := Fr.sf_laidOut
theorem k_2 : mapsRowed Tryz.prog = true := Fr.sf_mapsRowed
theorem k_3 : Tryz.f5.params.all (Tryz.prog.readableRec ·) = true := by kernel_rfl
theorem k_4 : namedTie Tryz.prog Rows.signedReadsRow.named (OpenSpec.ofChange Rows.signedReadsSpec).bare.vars = true := by kernel_rfl
theorem k_5 : (Rows.signedReadsRow.stops == []) = true := by kernel_rfl
theorem k_6 : (Tryz.prog.stops == []) = true := Fr.sf_stops
theorem k_7 : (Rows.signedReadsRow.knobs == []) = true := by kernel_rfl
theorem k_8 : (Tryz.prog.stopKnobs == []) = true := Fr.sf_stopKnobs
theorem k_9 : (Rows.signedReadsRow.inPlace == Tryz.prog.inPlace 5) = true := by kernel_rfl
theorem k_10 : (Rows.signedReadsRow.unfollowed == Tryz.prog.unfollowed 5) = true := by kernel_rfl
theorem k_11 : (Rows.signedReadsRow.recurses == Tryz.prog.recurses 5) = true := by kernel_rfl
theorem k_12 : (Rows.signedReadsRow.named == Tryz.prog.varsNamed 5) = true := by kernel_rfl
theorem k_13 : (Rows.signedReadsRow.maps == (Tryz.f5.params.toList ++ (OpenSpec.ofChange Rows.signedReadsSpec).bare.plain.varTypes Tryz.prog).any (Tryz.prog.mapsRec ·)) = true := by kernel_rfl
theorem k_14 : (Rows.signedReadsRow.ifaces == (Tryz.f5.params.toList ++ (OpenSpec.ofChange Rows.signedReadsSpec).bare.plain.varTypes Tryz.prog).any (Tryz.prog.ifacesRec ·)) = true := by kernel_rfl
theorem k_15 : (Rows.signedReadsRow.mapsOut == Tryz.prog.mapsAmong Tryz.f5.resultTypes.toList) = true := by kernel_rfl
theorem k_16 : (Rows.signedReadsRow.loops == (Tryz.f5.params.toList ++ (OpenSpec.ofChange Rows.signedReadsSpec).bare.plain.varTypes Tryz.prog).any (Tryz.prog.loopsFrom ·)) = true := by kernel_rfl
theorem k_17 : (Rows.signedReadsRow.wideKeys == (Tryz.f5.params.toList ++ (OpenSpec.ofChange Rows.signedReadsSpec).bare.plain.varTypes Tryz.prog ++ Tryz.f5.resultTypes.toList).any (Tryz.prog.wideKeysFrom ·)) = true := by kernel_rfl
theorem k_18 : (OpenSpec.ofChange Rows.signedReadsSpec).bare.vars.all (Tryz.prog.varReadable ·) = true := by kernel_rfl
theorem k_19 : Tryz.f5.resultTypes.all (fun t => Tryz.prog.readableRec t && decide (t < Tryz.prog.types.size)) = true := by kernel_rfl
theorem k_20 : (Rows.signedReadsRow.ifacesOut == Tryz.f5.resultTypes.toList.any (Tryz.prog.ifacesRec ·)) = true := by kernel_rfl
theorem k_21 : (Rows.signedReadsRow.loopsOut == Tryz.f5.resultTypes.toList.any (Tryz.prog.loopsFrom ·)) = true := by kernel_rfl
theorem k_22 : (Rows.signedReadsRow.plainKeys == Tryz.prog.plainKeys) = true := Fr.sf_plainKeys
theorem k_23 : Rows.signedReadsRow.shortTexts.isNone = true := by kernel_rfl
theorem k_24 : Tryz.prog.stopsHeard = true := Fr.sf_heard
theorem k_25 : Tryz.prog.mayEnter = true := Fr.sf_mayEnter
theorem k_26 : (Rows.signedReadsRow.lifted == Tryz.prog.liftsFinal) = true := Fr.sf_lifted
theorem k_27 : (Tryz.prog.make == some Rows.signedReadsRow.make) = true := Fr.sf_make
theorem k_28 : (Rows.signedReadsRow.kinds == (if Rows.signedReadsRow.domain.isEmpty then [] else Tryz.f5.params.toList.map fun t => match Tryz.prog.underlying t with | some (.int k) => some k | _ => none)) = true := by kernel_rfl
theorem k_29 : (Rows.signedReadsRow.pinned == Rows.signedReadsRow.pinnedBy) = true := by kernel_rfl
theorem k_30 : (Rows.signedReadsRow.veiled == (Tryz.f5.params.toList ++ (OpenSpec.ofChange Rows.signedReadsSpec).bare.plain.varTypes Tryz.prog ++ Tryz.f5.resultTypes.toList).any (Tryz.prog.veiledRec ·)) = true := by kernel_rfl
theorem k_31 : Rows.signedReadsRow.veiledFits Tryz.prog Tryz.f5.params.toList (Tryz.f5.params.toList ++ (OpenSpec.ofChange Rows.signedReadsSpec).bare.plain.varTypes Tryz.prog ++ Tryz.f5.resultTypes.toList) = true := by kernel_rfl
theorem closed : joinedFacts Tryz.prog 5 Tryz.f5 (OpenSpec.ofChange Rows.signedReadsSpec).bare Rows.signedReadsRow = true := Op.andT (Op.andT (Op.andT (Op.andT (Op.andT (Op.andT (Op.andT (Op.andT (Op.andT (Op.andT (Op.andT (Op.andT (Op.andT (Op.andT (Op.andT (Op.andT (Op.andT (Op.andT (Op.andT (Op.andT (Op.andT (Op.andT (Op.andT (Op.andT (Op.andT (Op.andT (Op.andT (Op.andT (Op.andT (Op.andT (Op.andT (k_0) k_1) k_2) k_3) k_4) k_5) k_6) k_7) k_8) k_9) k_10) k_11) k_12) k_13) k_14) k_15) k_16) k_17) k_18) k_19) k_20) k_21) k_22) k_23) k_24) k_25) k_26) k_27) k_28) k_29) k_30) k_31

theorem said : Rows.SignedReadsSaid :=
  OpenClaim.holds_of_cond 5 Tryz.f5 rfl rfl rfl rfl rfl rfl rfl ⟨rfl, rfl, rfl, rfl, rfl⟩ rfl rfl rfl rfl rfl (by kernel_rfl) Tryz.func5 closed
    (of_decide_eq_true (by kernel_rfl)) (by unfold Func.isWrapper; first | (rw [if_pos (by decide +kernel)]; kernel_rfl) | (rw [if_neg (by decide +kernel)]; exact ⟨rfl, rfl⟩))
    (fun os started H enc _ F => by rw [OpenClaim.pre_eq_preRow]; exact lifted os started H enc F)

theorem plain (b : Bool) (hb : b = Tryz.pinned.checked.prog.looks []) (f : FuncId) (fn : Func) (hf : Tryz.pinned.checked.prog.funcNamed "quayside/quaysidelaw49.SignedReads" = some f) (hfn : Tryz.pinned.checked.prog.funcs[f]? = some fn) :
    b = Tryz.pinned.checked.prog.looks [] ∧ ∀ (j : Nat) t, fn.params[j]? = some t → Tryz.pinned.checked.prog.wantsStandIn t = false := by
  obtain rfl : f = 5 := Option.some.inj ((show Tryz.prog.funcNamed "quayside/quaysidelaw49.SignedReads" = some 5 by kernel_rfl).symm.trans hf) |>.symm
  obtain rfl : fn = Tryz.f5 := (Option.some.inj (Tryz.func5.symm.trans hfn)).symm
  refine ⟨hb, fun j t ht => ?_⟩
  rw [Tryz.params5] at ht
  have hm : t ∈ [62] := by simpa using Array.mem_of_getElem? ht
  have hall : ([62].all fun u => !Tryz.prog.wantsStandIn u) = true := by kernel_rfl
  exact (show Tryz.prog.wantsStandIn t = false by simpa using List.all_eq_true.1 hall t hm)

theorem proved : Rows.SignedReadsCardSaid :=
  Claim7.holds_tied_plain_at .later [] _ _ _ _ said (fun _ h => by cases h) (by kernel_rfl) (fun _ h => by cases h) signedReads_row_tie rfl ⟨rfl, rfl⟩ (by kernel_rfl) rfl (plain _ (by kernel_rfl)) (by kernel_rfl)
#print axioms proved
end Go.Proofs.YtpmhkkjecapbeaaGreatDoor.lawSignedReads
