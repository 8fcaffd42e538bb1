/- Contracts and plain facts that the statement's proof leans on (texts joined). No condition beyond those that each names. -/
import Derived.Deep.RegionWith
import Derived.Test.YtpmhkkjecapbeaaGreatDoorPkB
import Derived.Test.YtpmhkkjecapbeaaGreatDoorPkE
import Derived.Test.YtpmhkkjecapbeaaGreatDoorPkU
import Derived.Test.YtpmhkkjecapbeaaGreatDoorPkX
section
namespace Go.Proofs.YtpmhkkjecapbeaaGreatDoor
open Go.RowKit Pl Ad Go.Shelf
attribute [local go_sem] ba_get ba_append ba_extract_end ba_extract_zero ba_extract conv_one
set_option maxRecDepth 100000
set_option maxHeartbeats 4000000
set_option linter.unusedVariables false
set_option linter.unusedSimpArgs false
namespace Sg
open Kr A1 Dg
theorem r2S_new3 (U : Nat) (w : World) (h p q : Bs) (b : Bool) : R2S U w (((w.alloc (.cells #[.string ⟨h.toArray⟩, .string ⟨p.toArray⟩, .string ⟨q.toArray⟩, .bool b] U)).alloc (.cells (#[.string ⟨#[]⟩, .string ⟨#[]⟩, .string ⟨#[]⟩, .bool false]) U)).alloc (.cells (#[.string ⟨#[]⟩, .string ⟨#[]⟩, .string ⟨#[]⟩, .bool false]) U)) ∧
    Bx (((w.alloc (.cells #[.string ⟨h.toArray⟩, .string ⟨p.toArray⟩, .string ⟨q.toArray⟩, .bool b] U)).alloc (.cells (#[.string ⟨#[]⟩, .string ⟨#[]⟩, .string ⟨#[]⟩, .bool false]) U)).alloc (.cells (#[.string ⟨#[]⟩, .string ⟨#[]⟩, .string ⟨#[]⟩, .bool false]) U)) (w.heap.size + 2) U (#[.string ⟨#[]⟩, .string ⟨#[]⟩, .string ⟨#[]⟩, .bool false]) :=
  ⟨(r2S_new U w h p q b).older ((Below.refl _ _).alloc (Nat.le_refl _) _),
   by have h9 := Bx.new ((w.alloc (.cells #[.string ⟨h.toArray⟩, .string ⟨p.toArray⟩, .string ⟨q.toArray⟩, .bool b] U)).alloc (.cells (#[.string ⟨#[]⟩, .string ⟨#[]⟩, .string ⟨#[]⟩, .bool false]) U)) U (#[.string ⟨#[]⟩, .string ⟨#[]⟩, .string ⟨#[]⟩, .bool false]); rw [show ((w.alloc (.cells #[.string ⟨h.toArray⟩, .string ⟨p.toArray⟩, .string ⟨q.toArray⟩, .bool b] U)).alloc (.cells (#[.string ⟨#[]⟩, .string ⟨#[]⟩, .string ⟨#[]⟩, .bool false]) U)).heap.size = w.heap.size + 2 by simp] at h9; exact h9⟩
theorem clip_out {n f t : Int} (hft : f < t) : (n < f ∨ t ≤ n) ↔ ¬ n = max f (min n (t - 1)) := by omega
theorem rverify_any (a : Adr) (sa : Option Addr) (sc : Nat) (sec : Bs) (known : Bool) (now : Int) (w : World) (hs : SrcAt w (.slice sa sec.length sc) sec.length (bvals sec)) (h1 : a.host.length ≤ 33554432) (h2 : a.path.length ≤ 33554432) (h3 : a.query.length ≤ 33554432) (hsl : sec.length ≤ 134217728) :
    Calls Tryz.prog 39 #[adV a, .slice sa sec.length sc, .bool known, .int .i64 now] w fun e w' => e = .returned (.tuple #[adV (verA a sec known now), .int .i64 (verC a sec known now)]) ∧ Below w.heap.size w w' := by
  have HS := Lib.hid hs
  cases hr : readS a with
  | none =>
    obtain ⟨k1, k2⟩ := verC_none (sec := sec) (k := known) (n := now) hr
    have HA := Lib.hid k2
    have HC := Lib.hid k1
    have HRD : Hid (∀ wz, Calls Tryz.prog 37 #[adV a] wz fun e w' => e = .returned (.tuple #[(.agg #[.string ⟨#[]⟩, .string ⟨#[]⟩, .string ⟨#[]⟩, .bool false]), (.agg #[.string ⟨#[]⟩, .int .i64 0, .int .i64 0]), .string ⟨#[]⟩, .bool false]) ∧ Below wz.heap.size wz w') := Lib.hid (fun wz => by have h9 := rread_any a wz h1 h2 h3; rw [hr] at h9; exact h9)
    obtain ⟨h, p, q, b⟩ := a
    have HN0 := Lib.hid (r2S_new3 62 w h p q b).1
    have HB0 := Lib.hid (r2S_new3 62 w h p q b).2
    clear hs hr k1 k2 h1 h2 h3 hsl
    go_enter Tryz.func39, Tryz.ntmps39
    go_wp2_with ((go_at_call 37; refine (HRD.out _).mono ?_; rintro e w1 ⟨rfl, hb1⟩; have HN1 := Lib.hid (HN0.out.older hb1); have HB1 := Lib.hid (HB0.out.older hb1); have HK1 := Lib.hid (vfS_new 63 HN1.out [] [] [] [] false 0 0); have HBK := Lib.hid ((HB1.out.older ((Below.refl _ _).alloc (Nat.le_refl _) (.cells (#[.string ⟨#[]⟩, .string ⟨#[]⟩, .string ⟨#[]⟩, .bool false]) 62))).older ((Below.refl _ _).alloc (Nat.le_refl _) (.cells (#[.string ⟨#[]⟩, .int .i64 0, .int .i64 0]) 63))); clear hb1; obtain ⟨⟨e0, e1, e2, e3⟩, ⟨g0, g1, g2, g3⟩, hz⟩ := HN1.out.facts; have n0 := HB1.out.cell (i := 0) rfl; have n1 := HB1.out.cell (i := 1) rfl; have n2 := HB1.out.cell (i := 2) rfl; have n3 := HB1.out.cell (i := 3) rfl; have hz2 := HB1.out.lt; have hz1 : w.heap.size < w1.heap.size := (by omega)))
    obtain ⟨⟨z0, z1, z2, z3⟩, hbf⟩ := HN1.out.done2 (.string ⟨#[]⟩) (.string ⟨#[]⟩) (.string ⟨#[]⟩) (.bool false) (.cells #[.string ⟨#[]⟩, .string ⟨#[]⟩, .string ⟨#[]⟩, .bool false] 62) (.cells #[.string ⟨#[]⟩, .int .i64 0, .int .i64 0] 63)
    refine bodyPost_ret (v := .tuple #[.agg #[.string ⟨#[]⟩, .string ⟨#[]⟩, .string ⟨#[]⟩, .bool false], .int .i64 2]) (by simp [results, Tryz.results39, go_sem, z0, z1, z2, z3]) rfl ⟨?_, hbf⟩
    rw [HA.out, HC.out]
  | some r =>
    obtain ⟨⟨rh, rp, rq, rb⟩, ⟨id, frm, til⟩, sg⟩ := r
    have his := readS_is hr
    have hck := his.1
    simp only at hck
    obtain ⟨q1, _, q3, q4, q5, q6, _⟩ := checkS_ok.1 hck
    simp only at q3 q4 q5 q6
    have hlr := valid_lens q1
    simp only at hlr
    have hidl := idOk_len q3
    have HVC := Lib.hid (verC_some (sec := sec) (k := known) (n := now) hr)
    have HVY := Lib.hid (fun h0 => verA_yes (sec := sec) (k := known) (n := now) hr h0)
    have HRD : Hid (∀ wz, Calls Tryz.prog 37 #[adV a] wz fun e w' => e = .returned (.tuple #[adV ⟨rh, rp, rq, rb⟩, tkV ⟨id, frm, til⟩, .string ⟨sg.toArray⟩, .bool true]) ∧ Below wz.heap.size wz w') := Lib.hid (fun wz => by have h9 := rread_any a wz h1 h2 h3; rw [hr] at h9; exact h9)
    have HSIG0 := fun wz hw => rsignature_any ⟨rh, rp, rq, rb⟩ ⟨id, frm, til⟩ sa sc sec wz hw (by simp only; omega) (by simp only; omega) (by simp only; omega) (by simp only; omega) (by simp only; omega) (by simp only; omega) (by simp only; omega) (by simp only; omega) hsl
    simp only at HVC HVY
    obtain ⟨sx, hsx⟩ : ∃ z, sigM mixM sec (Ad.begun ⟨rh, rp, rq, rb⟩ ⟨id, frm, til⟩).text = z := ⟨_, rfl⟩
    rw [hsx] at HSIG0 HVC
    have HSIG := Lib.hid HSIG0
    have hco := clip_out (n := now) q4
    have hcp := fun wz => refClip_any now frm (til - 1) wz
    obtain ⟨cl, hcl⟩ : ∃ z, max frm (min now (til - 1)) = z := ⟨_, rfl⟩
    rw [hcl] at hco hcp
    have HCO := Lib.hid hco
    have HCLP := Lib.hid hcp
    clear hco hcp hcl
    have htb : -9223372036854775808 ≤ til - 1 ∧ til - 1 ≤ 9223372036854775807 := by omega
    obtain ⟨h, p, q, b⟩ := a
    have HN0 := Lib.hid (r2S_new3 62 w h p q b).1
    have HB0 := Lib.hid (r2S_new3 62 w h p q b).2
    clear hs hr h1 h2 h3 hsl his hck q1 q3 hlr hidl HSIG0 hsx
    cases known with
    | false =>
      have k1 : verC ⟨h, p, q, b⟩ sec false now = 16 := by rw [HVC.out]; exact if_pos rfl
      have HA := Lib.hid (verA_no (a := ⟨h, p, q, b⟩) (sec := sec) (k := false) (n := now) (by rw [k1]; decide))
      have HC := Lib.hid k1
      clear k1 HVC HVY
      go_enter Tryz.func39, Tryz.ntmps39
      go_wp2_with (first | (go_at_call 37; refine (HRD.out _).mono ?_; rintro e w1 ⟨rfl, hb1⟩; have HN1 := Lib.hid (HN0.out.older hb1); have HB1 := Lib.hid (HB0.out.older hb1); have HK1 := Lib.hid (vfS_new 63 HN1.out rh rp rq id rb frm til); have HBK := Lib.hid ((HB1.out.older ((Below.refl _ _).alloc (Nat.le_refl _) (.cells #[.string ⟨rh.toArray⟩, .string ⟨rp.toArray⟩, .string ⟨rq.toArray⟩, .bool rb] 62))).older ((Below.refl _ _).alloc (Nat.le_refl _) (.cells #[.string ⟨id.toArray⟩, .int .i64 frm, .int .i64 til] 63))); clear hb1; obtain ⟨⟨e0, e1, e2, e3⟩, ⟨g0, g1, g2, g3⟩, hz⟩ := HN1.out.facts; have n0 := HB1.out.cell (i := 0) rfl; have n1 := HB1.out.cell (i := 1) rfl; have n2 := HB1.out.cell (i := 2) rfl; have n3 := HB1.out.cell (i := 3) rfl; have hz2 := HB1.out.lt; have hz1 : w.heap.size < w1.heap.size := (by omega)) | (go_at_call 82; refine (HSIG.out _ (HS.out.older HK1.out.r2.bel)).mono ?_; rintro e w3 ⟨rfl, hb3⟩; have HK3 := Lib.hid (HK1.out.older hb3); have HB3 := Lib.hid (HBK.out.older hb3); clear hb3; clear e0 e1 e2 e3 g0 g1 g2 g3 hz n0 n1 n2 n3 hz2 hz1; obtain ⟨⟨e0, e1, e2, e3⟩, ⟨g0, g1, g2, g3⟩, hz⟩ := HK3.out.r2.facts; obtain ⟨⟨m0, m1, m2, m3⟩, ⟨t0, t1, t2⟩, hzm⟩ := HK3.out.facts; have n0 := HB3.out.cell (i := 0) rfl; have n1 := HB3.out.cell (i := 1) rfl; have n2 := HB3.out.cell (i := 2) rfl; have n3 := HB3.out.cell (i := 3) rfl) | (go_at_call 88; refine (HCLP.out _).mono ?_; rintro e w4 ⟨rfl, rfl⟩))
      obtain ⟨⟨z0, z1, z2, z3⟩, hbf⟩ := HN1.out.done2 (.string ⟨#[]⟩) (.string ⟨#[]⟩) (.string ⟨#[]⟩) (.bool false) (.cells #[.string ⟨rh.toArray⟩, .string ⟨rp.toArray⟩, .string ⟨rq.toArray⟩, .bool rb] 62) (.cells #[.string ⟨id.toArray⟩, .int .i64 frm, .int .i64 til] 63)
      refine bodyPost_ret (v := .tuple #[.agg #[.string ⟨#[]⟩, .string ⟨#[]⟩, .string ⟨#[]⟩, .bool false], .int .i64 16]) (by simp [results, Tryz.results39, go_sem, z0, z1, z2, z3]) rfl ⟨?_, hbf⟩
      rw [HA.out, HC.out]
    | true =>
      by_cases hsq : sx = sg
      · have hse : (sx == sg) = true := beq_iff_eq.2 hsq
        have hse2 : (sg == sx) = true := beq_iff_eq.2 hsq.symm
        by_cases ht : now < frm ∨ til ≤ now
        · have hcl : (now == cl) = false := beq_eq_false_iff_ne.2 (HCO.out.1 ht)
          have k1 : verC ⟨h, p, q, b⟩ sec true now = 15 := by rw [HVC.out]; rw [if_neg (by decide), if_neg (fun hn => hn hsq), if_pos ht]
          have HA := Lib.hid (verA_no (a := ⟨h, p, q, b⟩) (sec := sec) (k := true) (n := now) (by rw [k1]; decide))
          have HC := Lib.hid k1
          clear k1 HVC HVY
          clear hsq ht HCO
          go_enter Tryz.func39, Tryz.ntmps39
          go_wp2_with (first | (go_at_call 37; refine (HRD.out _).mono ?_; rintro e w1 ⟨rfl, hb1⟩; have HN1 := Lib.hid (HN0.out.older hb1); have HB1 := Lib.hid (HB0.out.older hb1); have HK1 := Lib.hid (vfS_new 63 HN1.out rh rp rq id rb frm til); have HBK := Lib.hid ((HB1.out.older ((Below.refl _ _).alloc (Nat.le_refl _) (.cells #[.string ⟨rh.toArray⟩, .string ⟨rp.toArray⟩, .string ⟨rq.toArray⟩, .bool rb] 62))).older ((Below.refl _ _).alloc (Nat.le_refl _) (.cells #[.string ⟨id.toArray⟩, .int .i64 frm, .int .i64 til] 63))); clear hb1; obtain ⟨⟨e0, e1, e2, e3⟩, ⟨g0, g1, g2, g3⟩, hz⟩ := HN1.out.facts; have n0 := HB1.out.cell (i := 0) rfl; have n1 := HB1.out.cell (i := 1) rfl; have n2 := HB1.out.cell (i := 2) rfl; have n3 := HB1.out.cell (i := 3) rfl; have hz2 := HB1.out.lt; have hz1 : w.heap.size < w1.heap.size := (by omega)) | (go_at_call 82; refine (HSIG.out _ (HS.out.older HK1.out.r2.bel)).mono ?_; rintro e w3 ⟨rfl, hb3⟩; have HK3 := Lib.hid (HK1.out.older hb3); have HB3 := Lib.hid (HBK.out.older hb3); clear hb3; clear e0 e1 e2 e3 g0 g1 g2 g3 hz n0 n1 n2 n3 hz2 hz1; obtain ⟨⟨e0, e1, e2, e3⟩, ⟨g0, g1, g2, g3⟩, hz⟩ := HK3.out.r2.facts; obtain ⟨⟨m0, m1, m2, m3⟩, ⟨t0, t1, t2⟩, hzm⟩ := HK3.out.facts; have n0 := HB3.out.cell (i := 0) rfl; have n1 := HB3.out.cell (i := 1) rfl; have n2 := HB3.out.cell (i := 2) rfl; have n3 := HB3.out.cell (i := 3) rfl) | (go_at_call 88; refine (HCLP.out _).mono ?_; rintro e w4 ⟨rfl, rfl⟩))
          obtain ⟨⟨z0, z1, z2, z3⟩, hbf⟩ := HK3.out.r2.done (.string ⟨#[]⟩) (.string ⟨#[]⟩) (.string ⟨#[]⟩) (.bool false)
          refine bodyPost_ret (v := .tuple #[.agg #[.string ⟨#[]⟩, .string ⟨#[]⟩, .string ⟨#[]⟩, .bool false], .int .i64 15]) (by simp [results, Tryz.results39, go_sem, z0, z1, z2, z3]) rfl ⟨?_, hbf⟩
          rw [HA.out, HC.out]
        · have hcl : (now == cl) = true := beq_iff_eq.2 (Classical.byContradiction fun hn => ht (HCO.out.2 hn))
          have k1 : verC ⟨h, p, q, b⟩ sec true now = 0 := by rw [HVC.out, if_neg (by decide), if_neg (fun hn => hn hsq), if_neg ht]
          have HA := Lib.hid (HVY.out k1)
          have HC := Lib.hid k1
          clear k1 HVC HVY hsq ht HCO
          go_enter Tryz.func39, Tryz.ntmps39
          go_wp2_with (first | (go_at_call 37; refine (HRD.out _).mono ?_; rintro e w1 ⟨rfl, hb1⟩; have HN1 := Lib.hid (HN0.out.older hb1); have HB1 := Lib.hid (HB0.out.older hb1); have HK1 := Lib.hid (vfS_new 63 HN1.out rh rp rq id rb frm til); have HBK := Lib.hid ((HB1.out.older ((Below.refl _ _).alloc (Nat.le_refl _) (.cells #[.string ⟨rh.toArray⟩, .string ⟨rp.toArray⟩, .string ⟨rq.toArray⟩, .bool rb] 62))).older ((Below.refl _ _).alloc (Nat.le_refl _) (.cells #[.string ⟨id.toArray⟩, .int .i64 frm, .int .i64 til] 63))); clear hb1; obtain ⟨⟨e0, e1, e2, e3⟩, ⟨g0, g1, g2, g3⟩, hz⟩ := HN1.out.facts; have n0 := HB1.out.cell (i := 0) rfl; have n1 := HB1.out.cell (i := 1) rfl; have n2 := HB1.out.cell (i := 2) rfl; have n3 := HB1.out.cell (i := 3) rfl; have hz2 := HB1.out.lt; have hz1 : w.heap.size < w1.heap.size := (by omega)) | (go_at_call 82; refine (HSIG.out _ (HS.out.older HK1.out.r2.bel)).mono ?_; rintro e w3 ⟨rfl, hb3⟩; have HK3 := Lib.hid (HK1.out.older hb3); have HB3 := Lib.hid (HBK.out.older hb3); clear hb3; clear e0 e1 e2 e3 g0 g1 g2 g3 hz n0 n1 n2 n3 hz2 hz1; obtain ⟨⟨e0, e1, e2, e3⟩, ⟨g0, g1, g2, g3⟩, hz⟩ := HK3.out.r2.facts; obtain ⟨⟨m0, m1, m2, m3⟩, ⟨t0, t1, t2⟩, hzm⟩ := HK3.out.facts; have n0 := HB3.out.cell (i := 0) rfl; have n1 := HB3.out.cell (i := 1) rfl; have n2 := HB3.out.cell (i := 2) rfl; have n3 := HB3.out.cell (i := 3) rfl) | (go_at_call 88; refine (HCLP.out _).mono ?_; rintro e w4 ⟨rfl, rfl⟩))
          obtain ⟨⟨z0, z1, z2, z3⟩, hbf⟩ := HK3.out.r2.done (.string ⟨rh.toArray⟩) (.string ⟨rp.toArray⟩) (.string ⟨rq.toArray⟩) (.bool rb)
          refine bodyPost_ret (v := .tuple #[.agg #[.string ⟨rh.toArray⟩, .string ⟨rp.toArray⟩, .string ⟨rq.toArray⟩, .bool rb], .int .i64 0]) (by simp [results, Tryz.results39, go_sem, z0, z1, z2, z3]) rfl ⟨?_, hbf⟩
          rw [HA.out, HC.out]
      · have k1 : verC ⟨h, p, q, b⟩ sec true now = 14 := by rw [HVC.out]; rw [if_neg (by decide), if_pos hsq]
        have HA := Lib.hid (verA_no (a := ⟨h, p, q, b⟩) (sec := sec) (k := true) (n := now) (by rw [k1]; decide))
        have HC := Lib.hid k1
        clear k1 HVC HVY
        have hse : (sx == sg) = false := beq_eq_false_iff_ne.2 hsq
        have hse2 : (sg == sx) = false := beq_eq_false_iff_ne.2 (fun hn => hsq hn.symm)
        clear hsq
        go_enter Tryz.func39, Tryz.ntmps39
        go_wp2_with (first | (go_at_call 37; refine (HRD.out _).mono ?_; rintro e w1 ⟨rfl, hb1⟩; have HN1 := Lib.hid (HN0.out.older hb1); have HB1 := Lib.hid (HB0.out.older hb1); have HK1 := Lib.hid (vfS_new 63 HN1.out rh rp rq id rb frm til); have HBK := Lib.hid ((HB1.out.older ((Below.refl _ _).alloc (Nat.le_refl _) (.cells #[.string ⟨rh.toArray⟩, .string ⟨rp.toArray⟩, .string ⟨rq.toArray⟩, .bool rb] 62))).older ((Below.refl _ _).alloc (Nat.le_refl _) (.cells #[.string ⟨id.toArray⟩, .int .i64 frm, .int .i64 til] 63))); clear hb1; obtain ⟨⟨e0, e1, e2, e3⟩, ⟨g0, g1, g2, g3⟩, hz⟩ := HN1.out.facts; have n0 := HB1.out.cell (i := 0) rfl; have n1 := HB1.out.cell (i := 1) rfl; have n2 := HB1.out.cell (i := 2) rfl; have n3 := HB1.out.cell (i := 3) rfl; have hz2 := HB1.out.lt; have hz1 : w.heap.size < w1.heap.size := (by omega)) | (go_at_call 82; refine (HSIG.out _ (HS.out.older HK1.out.r2.bel)).mono ?_; rintro e w3 ⟨rfl, hb3⟩; have HK3 := Lib.hid (HK1.out.older hb3); have HB3 := Lib.hid (HBK.out.older hb3); clear hb3; clear e0 e1 e2 e3 g0 g1 g2 g3 hz n0 n1 n2 n3 hz2 hz1; obtain ⟨⟨e0, e1, e2, e3⟩, ⟨g0, g1, g2, g3⟩, hz⟩ := HK3.out.r2.facts; obtain ⟨⟨m0, m1, m2, m3⟩, ⟨t0, t1, t2⟩, hzm⟩ := HK3.out.facts; have n0 := HB3.out.cell (i := 0) rfl; have n1 := HB3.out.cell (i := 1) rfl; have n2 := HB3.out.cell (i := 2) rfl; have n3 := HB3.out.cell (i := 3) rfl) | (go_at_call 88; refine (HCLP.out _).mono ?_; rintro e w4 ⟨rfl, rfl⟩))
        obtain ⟨⟨z0, z1, z2, z3⟩, hbf⟩ := HK3.out.r2.done (.string ⟨#[]⟩) (.string ⟨#[]⟩) (.string ⟨#[]⟩) (.bool false)
        refine bodyPost_ret (v := .tuple #[.agg #[.string ⟨#[]⟩, .string ⟨#[]⟩, .string ⟨#[]⟩, .bool false], .int .i64 14]) (by simp [results, Tryz.results39, go_sem, z0, z1, z2, z3]) rfl ⟨?_, hbf⟩
        rw [HA.out, HC.out]
end Sg
end Go.Proofs.YtpmhkkjecapbeaaGreatDoor
end

section
namespace Go.Proofs.YtpmhkkjecapbeaaGreatDoor
open Go.RowKit Pl Ad
attribute [local go_sem] ba_get conv_one conv_one_drewN ba_append ba_extract_zero ba_extract_end
set_option maxRecDepth 100000
set_option maxHeartbeats 4000000
set_option linter.unusedVariables false
namespace A1

theorem Box.drewBelow {w w' : World} {R T B : Nat} {v0 v1 v2 v3 : Value} (h : Box w R T v0 v1 v2 v3) (hb : Below B w.drew w') (hR : R < B) : Box w' R T v0 v1 v2 v3 := (hb.block R hR).trans h
theorem Box.drew {w : World} {R T : Nat} {v0 v1 v2 v3 : Value} (h : Box w R T v0 v1 v2 v3) : Box w.drew R T v0 v1 v2 v3 := h
theorem Box.stored {w : World} {R T : Nat} {v0 v1 v2 v3 : Value} (h : Box w R T v0 v1 v2 v3) (a b c d : Value) : Box ((((w.setCell ⟨R, 0, none⟩ a).setCell ⟨R, 1, none⟩ b).setCell ⟨R, 2, none⟩ c).setCell ⟨R, 3, none⟩ d) R T a b c d := by
  unfold Box at h ⊢
  simp [World.setCell, Array.getElem?_modify, h]
theorem Box.other {w : World} {R A T : Nat} {v0 v1 v2 v3 : Value} (h : Box w R T v0 v1 v2 v3) (hne : R < A) (a b c d : Value) : Box ((((w.setCell ⟨A, 0, none⟩ a).setCell ⟨A, 1, none⟩ b).setCell ⟨A, 2, none⟩ c).setCell ⟨A, 3, none⟩ d) R T v0 v1 v2 v3 :=
  h.below (Box.set (B := A) (Below.refl A w) (Nat.le_refl _) a b c d) hne

theorem indexByte_47 (l : Bs) (w : World) :
    Calls Tryz.prog 67 #[.string ⟨l.toArray⟩, .int .u8 47] w fun e w' => e = .returned (.int .i64 (Lib.indexByte l 47)) ∧ w = w' := indexByte_any l 47 w

theorem read_miss (t : Bs) (w : World) (hi : Lib.indexByte t 47 = -1) :
    Calls Tryz.prog 26 #[.string ⟨t.toArray⟩] w fun e w' => e = .returned (.tuple #[ad0, errV 2]) ∧ Below w.heap.size w w' := by
  have HI := Lib.hid hi
  clear hi
  have hb := (Below.refl w.heap.size w).alloc (Nat.le_refl _) (.cells #[.string ⟨#[]⟩, .string ⟨#[]⟩, .string ⟨#[]⟩, .bool false] 27)
  go_enter Tryz.func26, Tryz.ntmps26
  go_wp2_with fail
  refine (indexByte_47 t _).mono ?_
  rintro e w1 ⟨rfl, rfl⟩
  rw [HI.out]
  go_wp2_with fail
  exact bodyPost_ret (v := .tuple #[ad0, errV 2]) (by simp [results, Tryz.results26, go_sem]) rfl ⟨rfl, hb⟩

theorem take_len {t p : Bs} {k : Nat} (h : t.take k = p) (ht : t.length ≤ 134217728) : p.length ≤ 134217728 := by
  subst h; rw [List.length_take]; omega
theorem drop_len {t q : Bs} {k : Nat} (h : t.drop k = q) (ht : t.length ≤ 134217728) : q.length ≤ 134217728 := by
  subst h; rw [List.length_drop]; omega

theorem read_err (t p q : Bs) (k : Nat) (w : World) (hr : Ready w) (ht : t.length ≤ 134217728) (hk : k ≤ t.length) (hi : Lib.indexByte t 47 = (k : Int)) (h1 : t.take k = p) (h2 : t.drop k = q) (n : Int) (hp : parse p q = .error n) :
    Calls Tryz.prog 26 #[.string ⟨t.toArray⟩] w fun e w' => e = .returned (.tuple #[ad0, errV 2]) ∧ Below w.heap.size w w' := by
  have HI := Lib.hid hi
  have HP := Lib.hid hp
  have hlp := take_len h1 ht
  have hlq := drop_len h2 ht
  clear hi hp
  have hb := (Below.refl w.heap.size w).alloc (Nat.le_refl _) (.cells #[.string ⟨#[]⟩, .string ⟨#[]⟩, .string ⟨#[]⟩, .bool false] 27)
  have hbx := box_new w 27 (.string ⟨#[]⟩) (.string ⟨#[]⟩) (.string ⟨#[]⟩) (.bool false)
  have HB := Lib.hid hb
  have HBX := Lib.hid hbx
  have hba := hb.drew.alloc (by simp) (.cells #[.string ⟨#[]⟩, .string ⟨#[]⟩, .string ⟨#[]⟩, .bool false] 27)
  have HBA := Lib.hid hba
  have HQ1 := Lib.hid (hbx.drew.below ((Below.refl (w.heap.size + 1) _).alloc (by simp) (.cells #[.string ⟨#[]⟩, .string ⟨#[]⟩, .string ⟨#[]⟩, .bool false] 27)) (Nat.lt_succ_self _))
  have HXA : Hid (Box ((w.alloc (.cells #[.string ⟨#[]⟩, .string ⟨#[]⟩, .string ⟨#[]⟩, .bool false] 27)).drew.alloc (.cells #[.string ⟨#[]⟩, .string ⟨#[]⟩, .string ⟨#[]⟩, .bool false] 27)) (w.heap.size + 1) 27 (.string ⟨#[]⟩) (.string ⟨#[]⟩) (.string ⟨#[]⟩) (.bool false)) := by have h9 := box_new (w.alloc (.cells #[.string ⟨#[]⟩, .string ⟨#[]⟩, .string ⟨#[]⟩, .bool false] 27)).drew 27 (.string ⟨#[]⟩) (.string ⟨#[]⟩) (.string ⟨#[]⟩) (.bool false); rw [show (w.alloc (.cells #[.string ⟨#[]⟩, .string ⟨#[]⟩, .string ⟨#[]⟩, .bool false] 27)).drew.heap.size = w.heap.size + 1 by simp] at h9; exact h9
  have HRD := Lib.hid (hr.below hb.drew)
  have HRA := Lib.hid (hr.below hba)
  clear hr hb hba hbx
  go_enter Tryz.func26, Tryz.ntmps26
  go_wp2_with fail
  refine (indexByte_47 t _).mono ?_
  rintro e w1 ⟨rfl, rfl⟩
  rw [HI.out]
  go_wp2_with fail
  go_region_with (go_at_call 14; first
    | (refine (parse_err _ (by omega) (by omega) HRD.out HP.out).mono ?_
       rintro e w2 ⟨rfl, hb2⟩
       have hT2 := HBX.out.drewBelow hb2 (by simp <;> omega)
       have hz2 := hT2.facts.2.2
       have hT5 := hT2.below ((Below.refl w2.heap.size w2).alloc (Nat.le_refl _) (.cells #[.string ⟨#[]⟩, .string ⟨#[]⟩, .string ⟨#[]⟩, .bool false] 27)) hz2
       have hX5 := box_new w2 27 (.string ⟨#[]⟩) (.string ⟨#[]⟩) (.string ⟨#[]⟩) (.bool false)
       have hbw := HB.out.drew.trans (hb2.mono (by simp <;> omega))
       obtain ⟨⟨a0, a1, a2, a3⟩, ⟨_, _, _, _⟩, _⟩ := hT2.facts
       have hB5 := Lib.hid ((HB.out.drew.trans (hb2.mono (by simp <;> omega))).alloc (Nat.le_of_lt hz2) (.cells #[.string ⟨#[]⟩, .string ⟨#[]⟩, .string ⟨#[]⟩, .bool false] 27)))
    | (refine (parse_err _ (by omega) (by omega) HRA.out HP.out).mono ?_
       rintro e w2 ⟨rfl, hb2⟩
       have hT2 := HQ1.out.below hb2 (by simp <;> omega)
       have hX2 := HXA.out.below hb2 (by simp <;> omega)
       have hz2 := hT2.facts.2.2
       have hT5 := hT2.other (Nat.lt_succ_self _) (.string ⟨#[]⟩) (.string ⟨#[]⟩) (.string ⟨#[]⟩) (.bool false)
       have hX5 := hX2.stored (.string ⟨#[]⟩) (.string ⟨#[]⟩) (.string ⟨#[]⟩) (.bool false)
       have hB5 := Lib.hid (Box.set (HBA.out.trans (hb2.mono (by simp <;> omega))) (Nat.le_succ _) (.string ⟨#[]⟩) (.string ⟨#[]⟩) (.string ⟨#[]⟩) (.bool false))
       obtain ⟨⟨a0, a1, a2, a3⟩, _⟩ := hT2.facts
       obtain ⟨⟨_, _, _, _⟩, ⟨_, _, _, _⟩, _⟩ := hX2.facts))
  all_goals
    obtain ⟨⟨c0, c1, c2, c3⟩, ⟨f0, f1, f2, f3⟩, hs5⟩ := hT5.facts
    go_wp2_with fail
    refine bodyPost_ret (v := .tuple #[ad0, errV 2]) (by simp [results, Tryz.results26, go_sem, c0, c1, c2, c3, a0, a1, a2, a3, hz2]) rfl ⟨rfl, ?_⟩
    first | exact Box.set hB5.out (Nat.le_refl _) _ _ _ _ | exact (Box.set hbw (Nat.le_refl _) _ _ _ _).alloc (by simp <;> omega) _

theorem read_oth (t p q : Bs) (k : Nat) (w : World) (hr : Ready w) (ht : t.length ≤ 134217728) (hk : k ≤ t.length) (hi : Lib.indexByte t 47 = (k : Int)) (h1 : t.take k = p) (h2 : t.drop k = q) (ah ap aq : Bs) (ab : Bool) (hp : parse p q = .ok ⟨ah, ap, aq, ab⟩) (hx : ¬ adText ah ap aq ab = t) :
    Calls Tryz.prog 26 #[.string ⟨t.toArray⟩] w fun e w' => e = .returned (.tuple #[ad0, errV 2]) ∧ Below w.heap.size w w' := by
  have HI := Lib.hid hi
  have HP := Lib.hid hp
  have hlp := take_len h1 ht
  have hlq := drop_len h2 ht
  have HL := Lib.hid (parse_lens hp)
  obtain ⟨l1, l2, l3⟩ := HL.out
  simp only at l1 l2 l3
  have hx2 : (adText ah ap aq ab == t) = false := by simpa using hx
  clear hx
  clear hi hp
  have hb := (Below.refl w.heap.size w).alloc (Nat.le_refl _) (.cells #[.string ⟨#[]⟩, .string ⟨#[]⟩, .string ⟨#[]⟩, .bool false] 27)
  have hbx := box_new w 27 (.string ⟨#[]⟩) (.string ⟨#[]⟩) (.string ⟨#[]⟩) (.bool false)
  have HB := Lib.hid hb
  have HBX := Lib.hid hbx
  have hba := hb.drew.alloc (by simp) (.cells #[.string ⟨#[]⟩, .string ⟨#[]⟩, .string ⟨#[]⟩, .bool false] 27)
  have HBA := Lib.hid hba
  have HQ1 := Lib.hid (hbx.drew.below ((Below.refl (w.heap.size + 1) _).alloc (by simp) (.cells #[.string ⟨#[]⟩, .string ⟨#[]⟩, .string ⟨#[]⟩, .bool false] 27)) (Nat.lt_succ_self _))
  have HXA : Hid (Box ((w.alloc (.cells #[.string ⟨#[]⟩, .string ⟨#[]⟩, .string ⟨#[]⟩, .bool false] 27)).drew.alloc (.cells #[.string ⟨#[]⟩, .string ⟨#[]⟩, .string ⟨#[]⟩, .bool false] 27)) (w.heap.size + 1) 27 (.string ⟨#[]⟩) (.string ⟨#[]⟩) (.string ⟨#[]⟩) (.bool false)) := by have h9 := box_new (w.alloc (.cells #[.string ⟨#[]⟩, .string ⟨#[]⟩, .string ⟨#[]⟩, .bool false] 27)).drew 27 (.string ⟨#[]⟩) (.string ⟨#[]⟩) (.string ⟨#[]⟩) (.bool false); rw [show (w.alloc (.cells #[.string ⟨#[]⟩, .string ⟨#[]⟩, .string ⟨#[]⟩, .bool false] 27)).drew.heap.size = w.heap.size + 1 by simp] at h9; exact h9
  have HRD := Lib.hid (hr.below hb.drew)
  have HRA := Lib.hid (hr.below hba)
  clear hr hb hba hbx
  go_enter Tryz.func26, Tryz.ntmps26
  go_wp2_with fail
  refine (indexByte_47 t _).mono ?_
  rintro e w1 ⟨rfl, rfl⟩
  rw [HI.out]
  go_wp2_with fail
  go_region_with (go_at_call 14; first
    | (refine (parse_ok _ (by omega) (by omega) HRD.out HP.out).mono ?_
       rintro e w2 ⟨rfl, hb2⟩
       have hT2 := HBX.out.drewBelow hb2 (by simp <;> omega)
       have hz2 := hT2.facts.2.2
       have hT5 := hT2.below ((Below.refl w2.heap.size w2).alloc (Nat.le_refl _) (.cells #[.string ⟨ah.toArray⟩, .string ⟨ap.toArray⟩, .string ⟨aq.toArray⟩, .bool ab] 27)) hz2
       have hX5 := box_new w2 27 (.string ⟨ah.toArray⟩) (.string ⟨ap.toArray⟩) (.string ⟨aq.toArray⟩) (.bool ab)
       have hbw := HB.out.drew.trans (hb2.mono (by simp <;> omega))
       obtain ⟨⟨a0, a1, a2, a3⟩, ⟨_, _, _, _⟩, _⟩ := hT2.facts
       have hB5 := Lib.hid ((HB.out.drew.trans (hb2.mono (by simp <;> omega))).alloc (Nat.le_of_lt hz2) (.cells #[.string ⟨ah.toArray⟩, .string ⟨ap.toArray⟩, .string ⟨aq.toArray⟩, .bool ab] 27)))
    | (refine (parse_ok _ (by omega) (by omega) HRA.out HP.out).mono ?_
       rintro e w2 ⟨rfl, hb2⟩
       have hT2 := HQ1.out.below hb2 (by simp <;> omega)
       have hX2 := HXA.out.below hb2 (by simp <;> omega)
       have hz2 := hT2.facts.2.2
       have hT5 := hT2.other (Nat.lt_succ_self _) (.string ⟨ah.toArray⟩) (.string ⟨ap.toArray⟩) (.string ⟨aq.toArray⟩) (.bool ab)
       have hX5 := hX2.stored (.string ⟨ah.toArray⟩) (.string ⟨ap.toArray⟩) (.string ⟨aq.toArray⟩) (.bool ab)
       have hB5 := Lib.hid (Box.set (HBA.out.trans (hb2.mono (by simp <;> omega))) (Nat.le_succ _) (.string ⟨ah.toArray⟩) (.string ⟨ap.toArray⟩) (.string ⟨aq.toArray⟩) (.bool ab))
       obtain ⟨⟨a0, a1, a2, a3⟩, _⟩ := hT2.facts
       obtain ⟨⟨_, _, _, _⟩, ⟨_, _, _, _⟩, _⟩ := hX2.facts))
  all_goals
    obtain ⟨⟨d0, d1, d2, d3⟩, _, ht5⟩ := hX5.facts
    have hs5 := hT5.facts.2.2
    go_wp2_with fail
    refine (text_any ah ap aq ab _ (by omega) (by omega) (by omega)).mono ?_
    rintro e w3 ⟨rfl, hb3⟩
    have hT6 := hT5.below hb3 hs5
    have hX6 := hX5.below hb3 ht5
    have hB6 := Lib.hid (hB5.out.trans (hb3.mono hB5.out.size))
    clear d0 d1 d2 d3 hb3
    obtain ⟨⟨c0, c1, c2, c3⟩, ⟨f0, f1, f2, f3⟩, hs6⟩ := hT6.facts
    obtain ⟨⟨d0, d1, d2, d3⟩, _, ht6⟩ := hX6.facts
    go_wp2_with fail
    refine bodyPost_ret (v := .tuple #[ad0, errV 2]) (by simp [results, Tryz.results26, go_sem, c0, c1, c2, c3]) rfl ⟨rfl, ?_⟩
    exact Box.set hB6.out (Nat.le_refl _) _ _ _ _

theorem read_ok (t p q : Bs) (k : Nat) (w : World) (hr : Ready w) (ht : t.length ≤ 134217728) (hk : k ≤ t.length) (hi : Lib.indexByte t 47 = (k : Int)) (h1 : t.take k = p) (h2 : t.drop k = q) (ah ap aq : Bs) (ab : Bool) (hp : parse p q = .ok ⟨ah, ap, aq, ab⟩) (hx : adText ah ap aq ab = t) :
    Calls Tryz.prog 26 #[.string ⟨t.toArray⟩] w fun e w' => e = .returned (.tuple #[adV ⟨ah, ap, aq, ab⟩, .nilIface]) ∧ Below w.heap.size w w' := by
  have HI := Lib.hid hi
  have HP := Lib.hid hp
  have hlp := take_len h1 ht
  have hlq := drop_len h2 ht
  have HL := Lib.hid (parse_lens hp)
  obtain ⟨l1, l2, l3⟩ := HL.out
  simp only at l1 l2 l3
  have HX := Lib.hid hx
  clear hx
  clear hi hp
  have hb := (Below.refl w.heap.size w).alloc (Nat.le_refl _) (.cells #[.string ⟨#[]⟩, .string ⟨#[]⟩, .string ⟨#[]⟩, .bool false] 27)
  have hbx := box_new w 27 (.string ⟨#[]⟩) (.string ⟨#[]⟩) (.string ⟨#[]⟩) (.bool false)
  have HB := Lib.hid hb
  have HBX := Lib.hid hbx
  have hba := hb.drew.alloc (by simp) (.cells #[.string ⟨#[]⟩, .string ⟨#[]⟩, .string ⟨#[]⟩, .bool false] 27)
  have HBA := Lib.hid hba
  have HQ1 := Lib.hid (hbx.drew.below ((Below.refl (w.heap.size + 1) _).alloc (by simp) (.cells #[.string ⟨#[]⟩, .string ⟨#[]⟩, .string ⟨#[]⟩, .bool false] 27)) (Nat.lt_succ_self _))
  have HXA : Hid (Box ((w.alloc (.cells #[.string ⟨#[]⟩, .string ⟨#[]⟩, .string ⟨#[]⟩, .bool false] 27)).drew.alloc (.cells #[.string ⟨#[]⟩, .string ⟨#[]⟩, .string ⟨#[]⟩, .bool false] 27)) (w.heap.size + 1) 27 (.string ⟨#[]⟩) (.string ⟨#[]⟩) (.string ⟨#[]⟩) (.bool false)) := by have h9 := box_new (w.alloc (.cells #[.string ⟨#[]⟩, .string ⟨#[]⟩, .string ⟨#[]⟩, .bool false] 27)).drew 27 (.string ⟨#[]⟩) (.string ⟨#[]⟩) (.string ⟨#[]⟩) (.bool false); rw [show (w.alloc (.cells #[.string ⟨#[]⟩, .string ⟨#[]⟩, .string ⟨#[]⟩, .bool false] 27)).drew.heap.size = w.heap.size + 1 by simp] at h9; exact h9
  have HRD := Lib.hid (hr.below hb.drew)
  have HRA := Lib.hid (hr.below hba)
  clear hr hb hba hbx
  go_enter Tryz.func26, Tryz.ntmps26
  go_wp2_with fail
  refine (indexByte_47 t _).mono ?_
  rintro e w1 ⟨rfl, rfl⟩
  rw [HI.out]
  go_wp2_with fail
  go_region_with (go_at_call 14; first
    | (refine (parse_ok _ (by omega) (by omega) HRD.out HP.out).mono ?_
       rintro e w2 ⟨rfl, hb2⟩
       have hT2 := HBX.out.drewBelow hb2 (by simp <;> omega)
       have hz2 := hT2.facts.2.2
       have hT5 := hT2.below ((Below.refl w2.heap.size w2).alloc (Nat.le_refl _) (.cells #[.string ⟨ah.toArray⟩, .string ⟨ap.toArray⟩, .string ⟨aq.toArray⟩, .bool ab] 27)) hz2
       have hX5 := box_new w2 27 (.string ⟨ah.toArray⟩) (.string ⟨ap.toArray⟩) (.string ⟨aq.toArray⟩) (.bool ab)
       have hbw := HB.out.drew.trans (hb2.mono (by simp <;> omega))
       obtain ⟨⟨a0, a1, a2, a3⟩, ⟨_, _, _, _⟩, _⟩ := hT2.facts
       have hB5 := Lib.hid ((HB.out.drew.trans (hb2.mono (by simp <;> omega))).alloc (Nat.le_of_lt hz2) (.cells #[.string ⟨ah.toArray⟩, .string ⟨ap.toArray⟩, .string ⟨aq.toArray⟩, .bool ab] 27)))
    | (refine (parse_ok _ (by omega) (by omega) HRA.out HP.out).mono ?_
       rintro e w2 ⟨rfl, hb2⟩
       have hT2 := HQ1.out.below hb2 (by simp <;> omega)
       have hX2 := HXA.out.below hb2 (by simp <;> omega)
       have hz2 := hT2.facts.2.2
       have hT5 := hT2.other (Nat.lt_succ_self _) (.string ⟨ah.toArray⟩) (.string ⟨ap.toArray⟩) (.string ⟨aq.toArray⟩) (.bool ab)
       have hX5 := hX2.stored (.string ⟨ah.toArray⟩) (.string ⟨ap.toArray⟩) (.string ⟨aq.toArray⟩) (.bool ab)
       have hB5 := Lib.hid (Box.set (HBA.out.trans (hb2.mono (by simp <;> omega))) (Nat.le_succ _) (.string ⟨ah.toArray⟩) (.string ⟨ap.toArray⟩) (.string ⟨aq.toArray⟩) (.bool ab))
       obtain ⟨⟨a0, a1, a2, a3⟩, _⟩ := hT2.facts
       obtain ⟨⟨_, _, _, _⟩, ⟨_, _, _, _⟩, _⟩ := hX2.facts))
  all_goals
    obtain ⟨⟨d0, d1, d2, d3⟩, _, ht5⟩ := hX5.facts
    have hs5 := hT5.facts.2.2
    go_wp2_with fail
    refine (text_any ah ap aq ab _ (by omega) (by omega) (by omega)).mono ?_
    rintro e w3 ⟨rfl, hb3⟩
    rw [HX.out]
    have hT6 := hT5.below hb3 hs5
    have hX6 := hX5.below hb3 ht5
    have hB6 := Lib.hid (hB5.out.trans (hb3.mono hB5.out.size))
    clear d0 d1 d2 d3 hb3
    obtain ⟨⟨c0, c1, c2, c3⟩, ⟨f0, f1, f2, f3⟩, hs6⟩ := hT6.facts
    obtain ⟨⟨d0, d1, d2, d3⟩, _, ht6⟩ := hX6.facts
    go_wp2_with fail
    refine bodyPost_ret (v := .tuple #[adV ⟨ah, ap, aq, ab⟩, .nilIface]) (by simp [results, Tryz.results26, go_sem, c0, c1, c2, c3]) rfl ⟨rfl, ?_⟩
    exact Box.set hB6.out (Nat.le_refl _) _ _ _ _

theorem read_yes (t : Bs) (a : Adr) (w : World) (hr : Ready w) (ht : t.length ≤ 134217728) (h : readL t = some a) :
    Calls Tryz.prog 26 #[.string ⟨t.toArray⟩] w fun e w' => e = .returned (.tuple #[adV a, .nilIface]) ∧ Below w.heap.size w w' := by
  obtain ⟨hp, hx⟩ := readL_some h
  obtain ⟨ah, ap, aq, ab⟩ := a
  rcases indexByte_one 47 t with ⟨_, h2⟩ | ⟨p, q, rfl, h2, h3⟩
  · rw [readL_miss h2] at h; cases h
  · rw [cutAt_hit 47 q p h2] at hp
    exact read_ok _ p (47 :: q) p.length w hr ht (by simp) h3 (by simp) (by simp) ah ap aq ab (by simpa using hp) hx
theorem read_no (t : Bs) (w : World) (hr : Ready w) (ht : t.length ≤ 134217728) (h : readL t = none) :
    Calls Tryz.prog 26 #[.string ⟨t.toArray⟩] w fun e w' => e = .returned (.tuple #[ad0, errV 2]) ∧ Below w.heap.size w w' := by
  rcases indexByte_one 47 t with ⟨h1, h2⟩ | ⟨p, q, rfl, h2, h3⟩
  · exact read_miss t w h1
  · cases hp : parse p (47 :: q) with
    | error n => exact read_err _ p (47 :: q) p.length w hr ht (by simp) h3 (by simp) (by simp) n hp
    | ok a =>
      obtain ⟨ah, ap, aq, ab⟩ := a
      refine read_oth _ p (47 :: q) p.length w hr ht (by simp) h3 (by simp) (by simp) ah ap aq ab hp fun hx => ?_
      have := readL_ok (t := p ++ 47 :: q) (a := ⟨ah, ap, aq, ab⟩) (by rw [cutAt_hit 47 q p h2]; simpa using hp) hx
      rw [this] at h; cases h

end A1
end Go.Proofs.YtpmhkkjecapbeaaGreatDoor
end

