/- Contracts and plain facts that the statement's proof leans on (texts joined). No condition beyond those that each names. -/
import Derived.Test.YtpkhbhdidkkebaaGreatDoorPvg
import Derived.Test.YtpkhbhdidkkebaaGreatDoorPvi
section
namespace Go.Proofs.YtpkhbhdidkkebaaGreatDoor
open Go.RowKit Pl Ad Go.Shelf
attribute [local go_sem] ba_get ba_append ba_extract_end ba_extract_zero ba_extract conv_one
set_option maxRecDepth 100000
set_option maxHeartbeats 4000000
set_option linter.unusedVariables false
set_option linter.unusedSimpArgs false
namespace Sg
open Kr A1 Dg
theorem r2S_new3 (U : Nat) (w : World) (h p q : Bs) (b : Bool) : R2S U w (((w.alloc (.cells #[.string ⟨h.toArray⟩, .string ⟨p.toArray⟩, .string ⟨q.toArray⟩, .bool b] U)).alloc (.cells (#[.string ⟨#[]⟩, .string ⟨#[]⟩, .string ⟨#[]⟩, .bool false]) U)).alloc (.cells (#[.string ⟨#[]⟩, .string ⟨#[]⟩, .string ⟨#[]⟩, .bool false]) U)) ∧
    Bx (((w.alloc (.cells #[.string ⟨h.toArray⟩, .string ⟨p.toArray⟩, .string ⟨q.toArray⟩, .bool b] U)).alloc (.cells (#[.string ⟨#[]⟩, .string ⟨#[]⟩, .string ⟨#[]⟩, .bool false]) U)).alloc (.cells (#[.string ⟨#[]⟩, .string ⟨#[]⟩, .string ⟨#[]⟩, .bool false]) U)) (w.heap.size + 2) U (#[.string ⟨#[]⟩, .string ⟨#[]⟩, .string ⟨#[]⟩, .bool false]) :=
 ⟨(r2S_new U w h p q b).older ((Below.refl _ _).alloc (Nat.le_refl _) _),
  by have h9 := Bx.new ((w.alloc (.cells #[.string ⟨h.toArray⟩, .string ⟨p.toArray⟩, .string ⟨q.toArray⟩, .bool b] U)).alloc (.cells (#[.string ⟨#[]⟩, .string ⟨#[]⟩, .string ⟨#[]⟩, .bool false]) U)) U (#[.string ⟨#[]⟩, .string ⟨#[]⟩, .string ⟨#[]⟩, .bool false]); rw [show ((w.alloc (.cells #[.string ⟨h.toArray⟩, .string ⟨p.toArray⟩, .string ⟨q.toArray⟩, .bool b] U)).alloc (.cells (#[.string ⟨#[]⟩, .string ⟨#[]⟩, .string ⟨#[]⟩, .bool false]) U)).heap.size = w.heap.size + 2 by simp] at h9; exact h9⟩
theorem clip_out {n f t : Int} (hft : f < t) : (n < f ∨ t ≤ n) ↔ ¬ n = max f (min n (t - 1)) := by omega
theorem rverify_any (a : Adr) (sa : Option Addr) (sc : Nat) (sec : Bs) (known : Bool) (now : Int) (w : World) (hs : SrcAt w (.slice sa sec.length sc) sec.length (bvals sec)) (h1 : a.host.length ≤ 33554432) (h2 : a.path.length ≤ 33554432) (h3 : a.query.length ≤ 33554432) (hsl : sec.length ≤ 134217728) :
 Calls Tryz.prog 75 #[adV a, .slice sa sec.length sc, .bool known, .int .i64 now] w fun e w' => e = .returned (.tuple #[adV (verA a sec known now), .int .i64 (verC a sec known now)]) ∧ Below w.heap.size w w' := by
 have HS := Lib.hid hs
 cases hr : readS a with
 | none =>
   obtain ⟨k1, k2⟩ := verC_none (sec := sec) (k := known) (n := now) hr
   have HA := Lib.hid k2
   have HC := Lib.hid k1
   have HRD : Hid (∀ wz, Calls Tryz.prog 73 #[adV a] wz fun e w' => e = .returned (.tuple #[(.agg #[.string ⟨#[]⟩, .string ⟨#[]⟩, .string ⟨#[]⟩, .bool false]), (.agg #[.string ⟨#[]⟩, .int .i64 0, .int .i64 0]), .string ⟨#[]⟩, .bool false]) ∧ Below wz.heap.size wz w') := Lib.hid (fun wz => by have h9 := rread_any a wz h1 h2 h3; rw [hr] at h9; exact h9)
   obtain ⟨h, p, q, b⟩ := a
   have HN0 := Lib.hid (r2S_new3 63 w h p q b).1
   have HB0 := Lib.hid (r2S_new3 63 w h p q b).2
   clear hs hr k1 k2 h1 h2 h3 hsl
   go_enter Tryz.func75, Tryz.ntmps75
   go_wp2_with ((go_at_call 73; refine (HRD.out _).mono ?_; rintro e w1 ⟨rfl, hb1⟩; have HN1 := Lib.hid (HN0.out.older hb1); have HB1 := Lib.hid (HB0.out.older hb1); have HK1 := Lib.hid (vfS_new 64 HN1.out [] [] [] [] false 0 0); have HBK := Lib.hid ((HB1.out.older ((Below.refl _ _).alloc (Nat.le_refl _) (.cells (#[.string ⟨#[]⟩, .string ⟨#[]⟩, .string ⟨#[]⟩, .bool false]) 63))).older ((Below.refl _ _).alloc (Nat.le_refl _) (.cells (#[.string ⟨#[]⟩, .int .i64 0, .int .i64 0]) 64))); clear hb1; obtain ⟨⟨e0, e1, e2, e3⟩, ⟨g0, g1, g2, g3⟩, hz⟩ := HN1.out.facts; have n0 := HB1.out.cell (i := 0) rfl; have n1 := HB1.out.cell (i := 1) rfl; have n2 := HB1.out.cell (i := 2) rfl; have n3 := HB1.out.cell (i := 3) rfl; have hz2 := HB1.out.lt; have hz1 : w.heap.size < w1.heap.size := (by omega)))
   obtain ⟨⟨z0, z1, z2, z3⟩, hbf⟩ := HN1.out.done2 (.string ⟨#[]⟩) (.string ⟨#[]⟩) (.string ⟨#[]⟩) (.bool false) (.cells #[.string ⟨#[]⟩, .string ⟨#[]⟩, .string ⟨#[]⟩, .bool false] 63) (.cells #[.string ⟨#[]⟩, .int .i64 0, .int .i64 0] 64)
   refine bodyPost_ret (v := .tuple #[.agg #[.string ⟨#[]⟩, .string ⟨#[]⟩, .string ⟨#[]⟩, .bool false], .int .i64 2]) (by simp [results, Tryz.results75, go_sem, z0, z1, z2, z3]) rfl ⟨?_, hbf⟩
   rw [HA.out, HC.out]
 | some r =>
   obtain ⟨⟨rh, rp, rq, rb⟩, ⟨id, frm, til⟩, sg⟩ := r
   have his := readS_is hr
   have hck := his.1
   simp only at hck
   obtain ⟨q1, _, q3, q4, q5, q6, _⟩ := checkS_ok.1 hck
   simp only at q3 q4 q5 q6
   have hlr := valid_lens q1
   simp only at hlr
   have hidl := idOk_len q3
   have HVC := Lib.hid (verC_some (sec := sec) (k := known) (n := now) hr)
   have HVY := Lib.hid (fun h0 => verA_yes (sec := sec) (k := known) (n := now) hr h0)
   have HRD : Hid (∀ wz, Calls Tryz.prog 73 #[adV a] wz fun e w' => e = .returned (.tuple #[adV ⟨rh, rp, rq, rb⟩, tkV ⟨id, frm, til⟩, .string ⟨sg.toArray⟩, .bool true]) ∧ Below wz.heap.size wz w') := Lib.hid (fun wz => by have h9 := rread_any a wz h1 h2 h3; rw [hr] at h9; exact h9)
   have HSIG0 := fun wz hw => rsignature_any ⟨rh, rp, rq, rb⟩ ⟨id, frm, til⟩ sa sc sec wz hw (by simp only; omega) (by simp only; omega) (by simp only; omega) (by simp only; omega) (by simp only; omega) (by simp only; omega) (by simp only; omega) (by simp only; omega) hsl
   simp only at HVC HVY
   obtain ⟨sx, hsx⟩ : ∃ z, sigM mixM sec (Ad.begun ⟨rh, rp, rq, rb⟩ ⟨id, frm, til⟩).text = z := ⟨_, rfl⟩
   rw [hsx] at HSIG0 HVC
   have HSIG := Lib.hid HSIG0
   have hco := clip_out (n := now) q4
   have hcp := fun wz => refClip_any now frm (til - 1) wz
   obtain ⟨cl, hcl⟩ : ∃ z, max frm (min now (til - 1)) = z := ⟨_, rfl⟩
   rw [hcl] at hco hcp
   have HCO := Lib.hid hco
   have HCLP := Lib.hid hcp
   clear hco hcp hcl
   have htb : -9223372036854775808 ≤ til - 1 ∧ til - 1 ≤ 9223372036854775807 := by omega
   obtain ⟨h, p, q, b⟩ := a
   have HN0 := Lib.hid (r2S_new3 63 w h p q b).1
   have HB0 := Lib.hid (r2S_new3 63 w h p q b).2
   clear hs hr h1 h2 h3 hsl his hck q1 q3 hlr hidl HSIG0 hsx
   cases known with
   | false =>
     have k1 : verC ⟨h, p, q, b⟩ sec false now = 16 := by rw [HVC.out]; exact if_pos rfl
     have HA := Lib.hid (verA_no (a := ⟨h, p, q, b⟩) (sec := sec) (k := false) (n := now) (by rw [k1]; decide))
     have HC := Lib.hid k1
     clear k1 HVC HVY
     go_enter Tryz.func75, Tryz.ntmps75
     go_wp2_with (first | (go_at_call 73; refine (HRD.out _).mono ?_; rintro e w1 ⟨rfl, hb1⟩; have HN1 := Lib.hid (HN0.out.older hb1); have HB1 := Lib.hid (HB0.out.older hb1); have HK1 := Lib.hid (vfS_new 64 HN1.out rh rp rq id rb frm til); have HBK := Lib.hid ((HB1.out.older ((Below.refl _ _).alloc (Nat.le_refl _) (.cells #[.string ⟨rh.toArray⟩, .string ⟨rp.toArray⟩, .string ⟨rq.toArray⟩, .bool rb] 63))).older ((Below.refl _ _).alloc (Nat.le_refl _) (.cells #[.string ⟨id.toArray⟩, .int .i64 frm, .int .i64 til] 64))); clear hb1; obtain ⟨⟨e0, e1, e2, e3⟩, ⟨g0, g1, g2, g3⟩, hz⟩ := HN1.out.facts; have n0 := HB1.out.cell (i := 0) rfl; have n1 := HB1.out.cell (i := 1) rfl; have n2 := HB1.out.cell (i := 2) rfl; have n3 := HB1.out.cell (i := 3) rfl; have hz2 := HB1.out.lt; have hz1 : w.heap.size < w1.heap.size := (by omega)) | (go_at_call 71; refine (HSIG.out _ (HS.out.older HK1.out.r2.bel)).mono ?_; rintro e w3 ⟨rfl, hb3⟩; have HK3 := Lib.hid (HK1.out.older hb3); have HB3 := Lib.hid (HBK.out.older hb3); clear hb3; clear e0 e1 e2 e3 g0 g1 g2 g3 hz n0 n1 n2 n3 hz2 hz1; obtain ⟨⟨e0, e1, e2, e3⟩, ⟨g0, g1, g2, g3⟩, hz⟩ := HK3.out.r2.facts; obtain ⟨⟨m0, m1, m2, m3⟩, ⟨t0, t1, t2⟩, hzm⟩ := HK3.out.facts; have n0 := HB3.out.cell (i := 0) rfl; have n1 := HB3.out.cell (i := 1) rfl; have n2 := HB3.out.cell (i := 2) rfl; have n3 := HB3.out.cell (i := 3) rfl) | (go_at_call 106; refine (HCLP.out _).mono ?_; rintro e w4 ⟨rfl, rfl⟩))
     obtain ⟨⟨z0, z1, z2, z3⟩, hbf⟩ := HN1.out.done2 (.string ⟨#[]⟩) (.string ⟨#[]⟩) (.string ⟨#[]⟩) (.bool false) (.cells #[.string ⟨rh.toArray⟩, .string ⟨rp.toArray⟩, .string ⟨rq.toArray⟩, .bool rb] 63) (.cells #[.string ⟨id.toArray⟩, .int .i64 frm, .int .i64 til] 64)
     refine bodyPost_ret (v := .tuple #[.agg #[.string ⟨#[]⟩, .string ⟨#[]⟩, .string ⟨#[]⟩, .bool false], .int .i64 16]) (by simp [results, Tryz.results75, go_sem, z0, z1, z2, z3]) rfl ⟨?_, hbf⟩
     rw [HA.out, HC.out]
   | true =>
     by_cases hsq : sx = sg
     ·have hse : (sx == sg) = true := beq_iff_eq.2 hsq
      have hse2 : (sg == sx) = true := beq_iff_eq.2 hsq.symm
      by_cases ht : now < frm ∨ til ≤ now
      ·have hcl : (now == cl) = false := beq_eq_false_iff_ne.2 (HCO.out.1 ht)
       have k1 : verC ⟨h, p, q, b⟩ sec true now = 15 := by rw [HVC.out]; rw [if_neg (by decide), if_neg (fun hn => hn hsq), if_pos ht]
       have HA := Lib.hid (verA_no (a := ⟨h, p, q, b⟩) (sec := sec) (k := true) (n := now) (by rw [k1]; decide))
       have HC := Lib.hid k1
       clear k1 HVC HVY
       clear hsq ht HCO
       go_enter Tryz.func75, Tryz.ntmps75
       go_wp2_with (first | (go_at_call 73; refine (HRD.out _).mono ?_; rintro e w1 ⟨rfl, hb1⟩; have HN1 := Lib.hid (HN0.out.older hb1); have HB1 := Lib.hid (HB0.out.older hb1); have HK1 := Lib.hid (vfS_new 64 HN1.out rh rp rq id rb frm til); have HBK := Lib.hid ((HB1.out.older ((Below.refl _ _).alloc (Nat.le_refl _) (.cells #[.string ⟨rh.toArray⟩, .string ⟨rp.toArray⟩, .string ⟨rq.toArray⟩, .bool rb] 63))).older ((Below.refl _ _).alloc (Nat.le_refl _) (.cells #[.string ⟨id.toArray⟩, .int .i64 frm, .int .i64 til] 64))); clear hb1; obtain ⟨⟨e0, e1, e2, e3⟩, ⟨g0, g1, g2, g3⟩, hz⟩ := HN1.out.facts; have n0 := HB1.out.cell (i := 0) rfl; have n1 := HB1.out.cell (i := 1) rfl; have n2 := HB1.out.cell (i := 2) rfl; have n3 := HB1.out.cell (i := 3) rfl; have hz2 := HB1.out.lt; have hz1 : w.heap.size < w1.heap.size := (by omega)) | (go_at_call 71; refine (HSIG.out _ (HS.out.older HK1.out.r2.bel)).mono ?_; rintro e w3 ⟨rfl, hb3⟩; have HK3 := Lib.hid (HK1.out.older hb3); have HB3 := Lib.hid (HBK.out.older hb3); clear hb3; clear e0 e1 e2 e3 g0 g1 g2 g3 hz n0 n1 n2 n3 hz2 hz1; obtain ⟨⟨e0, e1, e2, e3⟩, ⟨g0, g1, g2, g3⟩, hz⟩ := HK3.out.r2.facts; obtain ⟨⟨m0, m1, m2, m3⟩, ⟨t0, t1, t2⟩, hzm⟩ := HK3.out.facts; have n0 := HB3.out.cell (i := 0) rfl; have n1 := HB3.out.cell (i := 1) rfl; have n2 := HB3.out.cell (i := 2) rfl; have n3 := HB3.out.cell (i := 3) rfl) | (go_at_call 106; refine (HCLP.out _).mono ?_; rintro e w4 ⟨rfl, rfl⟩))
       obtain ⟨⟨z0, z1, z2, z3⟩, hbf⟩ := HK3.out.r2.done (.string ⟨#[]⟩) (.string ⟨#[]⟩) (.string ⟨#[]⟩) (.bool false)
       refine bodyPost_ret (v := .tuple #[.agg #[.string ⟨#[]⟩, .string ⟨#[]⟩, .string ⟨#[]⟩, .bool false], .int .i64 15]) (by simp [results, Tryz.results75, go_sem, z0, z1, z2, z3]) rfl ⟨?_, hbf⟩
       rw [HA.out, HC.out]
      ·have hcl : (now == cl) = true := beq_iff_eq.2 (Classical.byContradiction fun hn => ht (HCO.out.2 hn))
       have k1 : verC ⟨h, p, q, b⟩ sec true now = 0 := by rw [HVC.out, if_neg (by decide), if_neg (fun hn => hn hsq), if_neg ht]
       have HA := Lib.hid (HVY.out k1)
       have HC := Lib.hid k1
       clear k1 HVC HVY hsq ht HCO
       go_enter Tryz.func75, Tryz.ntmps75
       go_wp2_with (first | (go_at_call 73; refine (HRD.out _).mono ?_; rintro e w1 ⟨rfl, hb1⟩; have HN1 := Lib.hid (HN0.out.older hb1); have HB1 := Lib.hid (HB0.out.older hb1); have HK1 := Lib.hid (vfS_new 64 HN1.out rh rp rq id rb frm til); have HBK := Lib.hid ((HB1.out.older ((Below.refl _ _).alloc (Nat.le_refl _) (.cells #[.string ⟨rh.toArray⟩, .string ⟨rp.toArray⟩, .string ⟨rq.toArray⟩, .bool rb] 63))).older ((Below.refl _ _).alloc (Nat.le_refl _) (.cells #[.string ⟨id.toArray⟩, .int .i64 frm, .int .i64 til] 64))); clear hb1; obtain ⟨⟨e0, e1, e2, e3⟩, ⟨g0, g1, g2, g3⟩, hz⟩ := HN1.out.facts; have n0 := HB1.out.cell (i := 0) rfl; have n1 := HB1.out.cell (i := 1) rfl; have n2 := HB1.out.cell (i := 2) rfl; have n3 := HB1.out.cell (i := 3) rfl; have hz2 := HB1.out.lt; have hz1 : w.heap.size < w1.heap.size := (by omega)) | (go_at_call 71; refine (HSIG.out _ (HS.out.older HK1.out.r2.bel)).mono ?_; rintro e w3 ⟨rfl, hb3⟩; have HK3 := Lib.hid (HK1.out.older hb3); have HB3 := Lib.hid (HBK.out.older hb3); clear hb3; clear e0 e1 e2 e3 g0 g1 g2 g3 hz n0 n1 n2 n3 hz2 hz1; obtain ⟨⟨e0, e1, e2, e3⟩, ⟨g0, g1, g2, g3⟩, hz⟩ := HK3.out.r2.facts; obtain ⟨⟨m0, m1, m2, m3⟩, ⟨t0, t1, t2⟩, hzm⟩ := HK3.out.facts; have n0 := HB3.out.cell (i := 0) rfl; have n1 := HB3.out.cell (i := 1) rfl; have n2 := HB3.out.cell (i := 2) rfl; have n3 := HB3.out.cell (i := 3) rfl) | (go_at_call 106; refine (HCLP.out _).mono ?_; rintro e w4 ⟨rfl, rfl⟩))
       obtain ⟨⟨z0, z1, z2, z3⟩, hbf⟩ := HK3.out.r2.done (.string ⟨rh.toArray⟩) (.string ⟨rp.toArray⟩) (.string ⟨rq.toArray⟩) (.bool rb)
       refine bodyPost_ret (v := .tuple #[.agg #[.string ⟨rh.toArray⟩, .string ⟨rp.toArray⟩, .string ⟨rq.toArray⟩, .bool rb], .int .i64 0]) (by simp [results, Tryz.results75, go_sem, z0, z1, z2, z3]) rfl ⟨?_, hbf⟩
       rw [HA.out, HC.out]
     ·have k1 : verC ⟨h, p, q, b⟩ sec true now = 14 := by rw [HVC.out]; rw [if_neg (by decide), if_pos hsq]
      have HA := Lib.hid (verA_no (a := ⟨h, p, q, b⟩) (sec := sec) (k := true) (n := now) (by rw [k1]; decide))
      have HC := Lib.hid k1
      clear k1 HVC HVY
      have hse : (sx == sg) = false := beq_eq_false_iff_ne.2 hsq
      have hse2 : (sg == sx) = false := beq_eq_false_iff_ne.2 (fun hn => hsq hn.symm)
      clear hsq
      go_enter Tryz.func75, Tryz.ntmps75
      go_wp2_with (first | (go_at_call 73; refine (HRD.out _).mono ?_; rintro e w1 ⟨rfl, hb1⟩; have HN1 := Lib.hid (HN0.out.older hb1); have HB1 := Lib.hid (HB0.out.older hb1); have HK1 := Lib.hid (vfS_new 64 HN1.out rh rp rq id rb frm til); have HBK := Lib.hid ((HB1.out.older ((Below.refl _ _).alloc (Nat.le_refl _) (.cells #[.string ⟨rh.toArray⟩, .string ⟨rp.toArray⟩, .string ⟨rq.toArray⟩, .bool rb] 63))).older ((Below.refl _ _).alloc (Nat.le_refl _) (.cells #[.string ⟨id.toArray⟩, .int .i64 frm, .int .i64 til] 64))); clear hb1; obtain ⟨⟨e0, e1, e2, e3⟩, ⟨g0, g1, g2, g3⟩, hz⟩ := HN1.out.facts; have n0 := HB1.out.cell (i := 0) rfl; have n1 := HB1.out.cell (i := 1) rfl; have n2 := HB1.out.cell (i := 2) rfl; have n3 := HB1.out.cell (i := 3) rfl; have hz2 := HB1.out.lt; have hz1 : w.heap.size < w1.heap.size := (by omega)) | (go_at_call 71; refine (HSIG.out _ (HS.out.older HK1.out.r2.bel)).mono ?_; rintro e w3 ⟨rfl, hb3⟩; have HK3 := Lib.hid (HK1.out.older hb3); have HB3 := Lib.hid (HBK.out.older hb3); clear hb3; clear e0 e1 e2 e3 g0 g1 g2 g3 hz n0 n1 n2 n3 hz2 hz1; obtain ⟨⟨e0, e1, e2, e3⟩, ⟨g0, g1, g2, g3⟩, hz⟩ := HK3.out.r2.facts; obtain ⟨⟨m0, m1, m2, m3⟩, ⟨t0, t1, t2⟩, hzm⟩ := HK3.out.facts; have n0 := HB3.out.cell (i := 0) rfl; have n1 := HB3.out.cell (i := 1) rfl; have n2 := HB3.out.cell (i := 2) rfl; have n3 := HB3.out.cell (i := 3) rfl) | (go_at_call 106; refine (HCLP.out _).mono ?_; rintro e w4 ⟨rfl, rfl⟩))
      obtain ⟨⟨z0, z1, z2, z3⟩, hbf⟩ := HK3.out.r2.done (.string ⟨#[]⟩) (.string ⟨#[]⟩) (.string ⟨#[]⟩) (.bool false)
      refine bodyPost_ret (v := .tuple #[.agg #[.string ⟨#[]⟩, .string ⟨#[]⟩, .string ⟨#[]⟩, .bool false], .int .i64 14]) (by simp [results, Tryz.results75, go_sem, z0, z1, z2, z3]) rfl ⟨?_, hbf⟩
      rw [HA.out, HC.out]
end Sg
end Go.Proofs.YtpkhbhdidkkebaaGreatDoor
end

