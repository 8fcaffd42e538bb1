/- Contracts and plain facts that the statement's proof leans on (texts joined). No condition beyond those that each names. -/
import Derived.Test.YtpkhbhdidkkebaaGreatDoorPvb
import Derived.Test.YtpkhbhdidkkebaaGreatDoorPvf
section
namespace Go.Proofs.YtpkhbhdidkkebaaGreatDoor
open Go.RowKit Pl Ad Go.Shelf
attribute [local go_sem] ba_get ba_append ba_extract_end ba_extract_zero ba_extract conv_one
set_option maxRecDepth 100000
set_option maxHeartbeats 4000000
set_option linter.unusedVariables false
set_option linter.unusedSimpArgs false
namespace Sg
open Kr A1 Dg
theorem errC_at {m n : Int} (h : m = n) (hn : ¬ n = 0) : Sg.errC m = errV n := by rw [h]; exact if_neg hn
theorem errC_zero {m : Int} (h : m = 0) : Sg.errC m = .nilIface := if_pos h
theorem valid_lens {a : Adr} (h : valid a = true) : a.host.length ≤ 1024 ∧ a.path.length ≤ 1024 ∧ a.query.length ≤ 1024 := by
 have h1 := valid_len h
 obtain ⟨p1, p2⟩ := text_parts a
 refine ⟨by omega, by omega, ?_⟩
 cases hb : a.has with
 | true => have := p2 hb; omega
 | false => rw [valid_has h hb]; simp
theorem verC_none {a : Adr} {sec : Bs} {k : Bool} {n : Int} (h : readS a = none) : verC a sec k n = 2 ∧ verA a sec k n = ⟨[], [], [], false⟩ := by
 unfold verA verC
 rw [h]
 exact ⟨rfl, rfl⟩
theorem verC_some {a : Adr} {r : SigM} {sec : Bs} {k : Bool} {n : Int} (h : readS a = some r) : verC a sec k n = (if k = false then 16 else if ¬ sigM mixM sec (Ad.begun r.rest r.tok).text = r.sig then 14 else if n < r.tok.frm ∨ r.tok.til ≤ n then 15 else 0) := by
 unfold verC
 rw [h]
theorem verA_no {a : Adr} {sec : Bs} {k : Bool} {n : Int} (h : ¬ verC a sec k n = 0) : verA a sec k n = ⟨[], [], [], false⟩ := by
 unfold verA
 split
 ·rfl
 ·rw [if_neg h]
theorem verA_yes {a : Adr} {r : SigM} {sec : Bs} {k : Bool} {n : Int} (h : readS a = some r) (h0 : verC a sec k n = 0) : verA a sec k n = r.rest := by
 unfold verA
 rw [h]
 exact if_pos h0
/-- Two boxes: the address, the result. -/
structure R2S (U : Nat) (w0 w : World) : Prop where
 bel : Below w0.heap.size w0 w
 rb : Bx w (w0.heap.size + 1) U (#[.string ⟨#[]⟩, .string ⟨#[]⟩, .string ⟨#[]⟩, .bool false])
theorem R2S.older {U : Nat} {w0 w w' : World} (h : R2S U w0 w) (hb : Below w.heap.size w w') : R2S U w0 w' := ⟨h.bel.trans (hb.mono h.bel.size), h.rb.older hb⟩
theorem r2S_new (U : Nat) (w : World) (h p q : Bs) (b : Bool) : R2S U w ((w.alloc (.cells #[.string ⟨h.toArray⟩, .string ⟨p.toArray⟩, .string ⟨q.toArray⟩, .bool b] U)).alloc (.cells (#[.string ⟨#[]⟩, .string ⟨#[]⟩, .string ⟨#[]⟩, .bool false]) U)) :=
 ⟨((Below.refl _ _).alloc (Nat.le_refl _) _).alloc (by simp) _,
  by have h9 := Bx.new (w.alloc (.cells #[.string ⟨h.toArray⟩, .string ⟨p.toArray⟩, .string ⟨q.toArray⟩, .bool b] U)) U (#[.string ⟨#[]⟩, .string ⟨#[]⟩, .string ⟨#[]⟩, .bool false]); rw [show (w.alloc (.cells #[.string ⟨h.toArray⟩, .string ⟨p.toArray⟩, .string ⟨q.toArray⟩, .bool b] U)).heap.size = w.heap.size + 1 by simp] at h9; exact h9⟩
theorem R2S.facts {U : Nat} {w0 w : World} (h : R2S U w0 w) :
 (w.cell? ⟨w0.heap.size + 1, 0, none⟩ = some (.string ⟨#[]⟩) ∧ w.cell? ⟨w0.heap.size + 1, 1, none⟩ = some (.string ⟨#[]⟩) ∧ w.cell? ⟨w0.heap.size + 1, 2, none⟩ = some (.string ⟨#[]⟩) ∧ w.cell? ⟨w0.heap.size + 1, 3, none⟩ = some (.bool false)) ∧
 (w.frozen? ⟨w0.heap.size + 1, 0, none⟩ = false ∧ w.frozen? ⟨w0.heap.size + 1, 1, none⟩ = false ∧ w.frozen? ⟨w0.heap.size + 1, 2, none⟩ = false ∧ w.frozen? ⟨w0.heap.size + 1, 3, none⟩ = false) ∧ w0.heap.size + 1 < w.heap.size :=
 ⟨⟨h.rb.cell (i := 0) rfl, h.rb.cell (i := 1) rfl, h.rb.cell (i := 2) rfl, h.rb.cell (i := 3) rfl⟩, ⟨h.rb.frz 0, h.rb.frz 1, h.rb.frz 2, h.rb.frz 3⟩, h.rb.lt⟩
theorem R2S.done {U : Nat} {w0 w : World} (h : R2S U w0 w) (u0 u1 u2 u3 : Value) :
 let W := ((((w.setCell ⟨w0.heap.size + 1, 0, none⟩ u0).setCell ⟨w0.heap.size + 1, 1, none⟩ u1).setCell ⟨w0.heap.size + 1, 2, none⟩ u2).setCell ⟨w0.heap.size + 1, 3, none⟩ u3)
 (W.cell? ⟨w0.heap.size + 1, 0, none⟩ = some u0 ∧ W.cell? ⟨w0.heap.size + 1, 1, none⟩ = some u1 ∧ W.cell? ⟨w0.heap.size + 1, 2, none⟩ = some u2 ∧ W.cell? ⟨w0.heap.size + 1, 3, none⟩ = some u3) ∧ Below w0.heap.size w0 W :=
 have hr := ((((h.rb.set 0 u0).set 1 u1).set 2 u2).set 3 u3)
 ⟨⟨hr.cell (i := 0) rfl, hr.cell (i := 1) rfl, hr.cell (i := 2) rfl, hr.cell (i := 3) rfl⟩, Box.set h.bel (show w0.heap.size ≤ w0.heap.size + 1 by omega) _ _ _ _⟩
theorem R2S.done2 {U : Nat} {w0 w : World} (h : R2S U w0 w) (u0 u1 u2 u3 : Value) (o1 o2 : Obj) :
 let W := ((((((w.setCell ⟨w0.heap.size + 1, 0, none⟩ u0).setCell ⟨w0.heap.size + 1, 1, none⟩ u1).setCell ⟨w0.heap.size + 1, 2, none⟩ u2).setCell ⟨w0.heap.size + 1, 3, none⟩ u3).alloc o1).alloc o2)
 (W.cell? ⟨w0.heap.size + 1, 0, none⟩ = some u0 ∧ W.cell? ⟨w0.heap.size + 1, 1, none⟩ = some u1 ∧ W.cell? ⟨w0.heap.size + 1, 2, none⟩ = some u2 ∧ W.cell? ⟨w0.heap.size + 1, 3, none⟩ = some u3) ∧ Below w0.heap.size w0 W :=
 have hr := ((((h.rb.set 0 u0).set 1 u1).set 2 u2).set 3 u3)
 have hr2 := (hr.older ((Below.refl _ _).alloc (Nat.le_refl _) o1)).older ((Below.refl _ _).alloc (Nat.le_refl _) o2)
 have hb := Box.set h.bel (show w0.heap.size ≤ w0.heap.size + 1 by omega) u0 u1 u2 u3
 have hb2 := hb.alloc hb.size o1
 ⟨⟨hr2.cell (i := 0) rfl, hr2.cell (i := 1) rfl, hr2.cell (i := 2) rfl, hr2.cell (i := 3) rfl⟩, hb2.alloc hb2.size o2⟩
/-- What was read, in two boxes. -/
structure VfS (U1 U2 : Nat) (w0 w : World) (R : Nat) (r : Adr) (t : TokM) : Prop where
 r2 : R2S U1 w0 w
 kb : Bx w R U1 #[.string ⟨r.host.toArray⟩, .string ⟨r.path.toArray⟩, .string ⟨r.query.toArray⟩, .bool r.has]
 tb : Bx w (R + 1) U2 #[.string ⟨t.id.toArray⟩, .int .i64 t.frm, .int .i64 t.til]
 lt : w0.heap.size + 1 < R
theorem VfS.older {U1 U2 : Nat} {w0 w w' : World} {R : Nat} {r : Adr} {t : TokM} (h : VfS U1 U2 w0 w R r t) (hb : Below w.heap.size w w') : VfS U1 U2 w0 w' R r t := ⟨h.r2.older hb, h.kb.older hb, h.tb.older hb, h.lt⟩
theorem vfS_new {U1 : Nat} (U2 : Nat) {w0 w : World} (h : R2S U1 w0 w) (hh pp qq id : Bs) (bb : Bool) (frm til : Int) : VfS U1 U2 w0 ((w.alloc (.cells #[.string ⟨hh.toArray⟩, .string ⟨pp.toArray⟩, .string ⟨qq.toArray⟩, .bool bb] U1)).alloc (.cells #[.string ⟨id.toArray⟩, .int .i64 frm, .int .i64 til] U2)) w.heap.size ⟨hh, pp, qq, bb⟩ ⟨id, frm, til⟩ :=
 have b1 : Below w.heap.size w (w.alloc (.cells #[.string ⟨hh.toArray⟩, .string ⟨pp.toArray⟩, .string ⟨qq.toArray⟩, .bool bb] U1)) := (Below.refl _ _).alloc (Nat.le_refl _) _
 ⟨h.older (b1.alloc b1.size _), (Bx.new _ _ _).older ((Below.refl _ _).alloc (Nat.le_refl _) _),
  by have h9 := Bx.new (w.alloc (.cells #[.string ⟨hh.toArray⟩, .string ⟨pp.toArray⟩, .string ⟨qq.toArray⟩, .bool bb] U1)) U2 #[.string ⟨id.toArray⟩, .int .i64 frm, .int .i64 til]; rw [show (w.alloc (.cells #[.string ⟨hh.toArray⟩, .string ⟨pp.toArray⟩, .string ⟨qq.toArray⟩, .bool bb] U1)).heap.size = w.heap.size + 1 by simp] at h9; exact h9, h.rb.lt⟩
theorem VfS.facts {U1 U2 : Nat} {w0 w : World} {R : Nat} {r : Adr} {t : TokM} (h : VfS U1 U2 w0 w R r t) :
 (w.cell? ⟨R, 0, none⟩ = some (.string ⟨r.host.toArray⟩) ∧ w.cell? ⟨R, 1, none⟩ = some (.string ⟨r.path.toArray⟩) ∧ w.cell? ⟨R, 2, none⟩ = some (.string ⟨r.query.toArray⟩) ∧ w.cell? ⟨R, 3, none⟩ = some (.bool r.has)) ∧
 (w.cell? ⟨R + 1, 0, none⟩ = some (.string ⟨t.id.toArray⟩) ∧ w.cell? ⟨R + 1, 1, none⟩ = some (.int .i64 t.frm) ∧ w.cell? ⟨R + 1, 2, none⟩ = some (.int .i64 t.til)) ∧ R + 1 < w.heap.size :=
 ⟨⟨h.kb.cell (i := 0) rfl, h.kb.cell (i := 1) rfl, h.kb.cell (i := 2) rfl, h.kb.cell (i := 3) rfl⟩, ⟨h.tb.cell (i := 0) rfl, h.tb.cell (i := 1) rfl, h.tb.cell (i := 2) rfl⟩, h.tb.lt⟩
theorem verify_any (a : Adr) (sa : Option Addr) (sc : Nat) (sec : Bs) (known : Bool) (now : Int) (w : World) (hg : SgnAt w) (hs : SrcAt w (.slice sa sec.length sc) sec.length (bvals sec)) (h1 : a.host.length ≤ 33554432) (h2 : a.path.length ≤ 33554432) (h3 : a.query.length ≤ 33554432) (hsl : sec.length ≤ 134217728) :
 Calls Tryz.prog 51 #[adV a, .slice sa sec.length sc, .bool known, .int .i64 now] w fun e w' => e = .returned (.tuple #[adV (verA a sec known now), Sg.errC (verC a sec known now)]) ∧ Below w.heap.size w w' := by
 have HG := Lib.hid hg
 have HS := Lib.hid hs
 cases hr : readS a with
 | none =>
   obtain ⟨k1, k2⟩ := verC_none (sec := sec) (k := known) (n := now) hr
   have HA := Lib.hid k2
   have HC := Lib.hid (errC_at k1 (by decide))
   have HRD : Hid (∀ wz, SgnAt wz → Calls Tryz.prog 20 #[adV a] wz fun e w' => e = .returned (.tuple #[(.agg #[.string ⟨#[]⟩, .string ⟨#[]⟩, .string ⟨#[]⟩, .bool false]), (.agg #[.string ⟨#[]⟩, .int .i64 0, .int .i64 0]), .string ⟨#[]⟩, errV 2]) ∧ Below wz.heap.size wz w') := Lib.hid (fun wz hz => by have h9 := read_any a wz hz h1 h2 h3; rw [hr] at h9; exact h9)
   obtain ⟨h, p, q, b⟩ := a
   have HN0 := Lib.hid (r2S_new 27 w h p q b)
   clear hg hs hr k1 k2 h1 h2 h3 hsl
   go_enter Tryz.func51, Tryz.ntmps51
   go_wp2_with ((go_at_call 20; refine (HRD.out _ (HG.out.below HN0.out.bel)).mono ?_; rintro e w1 ⟨rfl, hb1⟩; have HN1 := Lib.hid (HN0.out.older hb1); have HK1 := Lib.hid (vfS_new 51 HN1.out [] [] [] [] false 0 0); clear hb1; obtain ⟨⟨e0, e1, e2, e3⟩, ⟨g0, g1, g2, g3⟩, hz⟩ := HN1.out.facts; have hz1 : w.heap.size < w1.heap.size := (by omega)))
   obtain ⟨⟨z0, z1, z2, z3⟩, hbf⟩ := HN1.out.done2 (.string ⟨#[]⟩) (.string ⟨#[]⟩) (.string ⟨#[]⟩) (.bool false) (.cells #[.string ⟨#[]⟩, .string ⟨#[]⟩, .string ⟨#[]⟩, .bool false] 27) (.cells #[.string ⟨#[]⟩, .int .i64 0, .int .i64 0] 51)
   refine bodyPost_ret (v := .tuple #[.agg #[.string ⟨#[]⟩, .string ⟨#[]⟩, .string ⟨#[]⟩, .bool false], errV 2]) (by simp [results, Tryz.results51, go_sem, z0, z1, z2, z3]) rfl ⟨?_, hbf⟩
   rw [HA.out, HC.out]
 | some r =>
   obtain ⟨⟨rh, rp, rq, rb⟩, ⟨id, frm, til⟩, sg⟩ := r
   have his := readS_is hr
   have hck := his.1
   simp only at hck
   have hvb := begun_valid hck
   obtain ⟨q1, _, q3, q4, q5, q6, _⟩ := checkS_ok.1 hck
   simp only at q3 q4 q5 q6
   have hlr := valid_lens q1
   simp only at hlr
   have hidl := idOk_len q3
   have HVC := Lib.hid (verC_some (sec := sec) (k := known) (n := now) hr)
   have HVY := Lib.hid (fun h0 => verA_yes (sec := sec) (k := known) (n := now) hr h0)
   have HRD : Hid (∀ wz, SgnAt wz → Calls Tryz.prog 20 #[adV a] wz fun e w' => e = .returned (.tuple #[adV ⟨rh, rp, rq, rb⟩, tkV ⟨id, frm, til⟩, .string ⟨sg.toArray⟩, .nilIface]) ∧ Below wz.heap.size wz w') := Lib.hid (fun wz hz => by have h9 := read_any a wz hz h1 h2 h3; rw [hr] at h9; exact h9)
   have HBGN0 := fun wz hz => begun_any ⟨rh, rp, rq, rb⟩ ⟨id, frm, til⟩ wz hz (by simp only; omega) (by simp only; omega) (by simp only; omega) (by simp only; omega) (by simp only; omega) (by simp only; omega)
   simp only at HVC HVY
   obtain ⟨bg, hbg⟩ : ∃ z, Ad.begun ⟨rh, rp, rq, rb⟩ ⟨id, frm, til⟩ = z := ⟨_, rfl⟩
   rw [hbg] at HBGN0 hvb HVC
   have HSIG0 := fun wz hz hw => signature_any bg sa sc sec wz hz hw hvb hsl
   obtain ⟨sx, hsx⟩ : ∃ z, sigM mixM sec bg.text = z := ⟨_, rfl⟩
   rw [hsx] at HSIG0 HVC
   have HBGN := Lib.hid HBGN0
   have HSIG := Lib.hid HSIG0
   obtain ⟨h, p, q, b⟩ := a
   obtain ⟨bh, bp, bq, bbo⟩ := bg
   have HN0 := Lib.hid (r2S_new 27 w h p q b)
   clear hg hs hr h1 h2 h3 hsl his hck hvb q1 q3 q4 q5 q6 hlr hidl HBGN0 HSIG0 hbg hsx
   cases known with
   | false =>
     have k1 : verC ⟨h, p, q, b⟩ sec false now = 16 := by rw [HVC.out]; exact if_pos rfl
     have HA := Lib.hid (verA_no (a := ⟨h, p, q, b⟩) (sec := sec) (k := false) (n := now) (by rw [k1]; decide))
     have HC := Lib.hid (errC_at k1 (by decide))
     clear k1 HVC HVY
     go_enter Tryz.func51, Tryz.ntmps51
     go_wp2_with (first | (go_at_call 20; refine (HRD.out _ (HG.out.below HN0.out.bel)).mono ?_; rintro e w1 ⟨rfl, hb1⟩; have HN1 := Lib.hid (HN0.out.older hb1); have HK1 := Lib.hid (vfS_new 51 HN1.out rh rp rq id rb frm til); clear hb1; obtain ⟨⟨e0, e1, e2, e3⟩, ⟨g0, g1, g2, g3⟩, hz⟩ := HN1.out.facts; have hz1 : w.heap.size < w1.heap.size := (by omega)) | (go_at_call 47; refine (HBGN.out _ (HG.out.below HK1.out.r2.bel)).mono ?_; rintro e w2 ⟨rfl, hb2⟩; have HK2 := Lib.hid (HK1.out.older hb2); clear hb2; clear e0 e1 e2 e3 g0 g1 g2 g3 hz) | (go_at_call 48; refine (HSIG.out _ (HG.out.below HK2.out.r2.bel) (HS.out.older HK2.out.r2.bel)).mono ?_; rintro e w3 ⟨rfl, hb3⟩; have HK3 := Lib.hid (HK2.out.older hb3); clear hb3; obtain ⟨⟨e0, e1, e2, e3⟩, ⟨g0, g1, g2, g3⟩, hz⟩ := HK3.out.r2.facts; obtain ⟨⟨m0, m1, m2, m3⟩, ⟨t0, t1, t2⟩, hzm⟩ := HK3.out.facts))
     obtain ⟨⟨z0, z1, z2, z3⟩, hbf⟩ := HN1.out.done2 (.string ⟨#[]⟩) (.string ⟨#[]⟩) (.string ⟨#[]⟩) (.bool false) (.cells #[.string ⟨rh.toArray⟩, .string ⟨rp.toArray⟩, .string ⟨rq.toArray⟩, .bool rb] 27) (.cells #[.string ⟨id.toArray⟩, .int .i64 frm, .int .i64 til] 51)
     refine bodyPost_ret (v := .tuple #[.agg #[.string ⟨#[]⟩, .string ⟨#[]⟩, .string ⟨#[]⟩, .bool false], errV 16]) (by simp [results, Tryz.results51, go_sem, z0, z1, z2, z3]) rfl ⟨?_, hbf⟩
     rw [HA.out, HC.out]
   | true =>
     by_cases hsq : sx = sg
     ·have hse : (sx == sg) = true := beq_iff_eq.2 hsq
      by_cases hf : now < frm
      ·have k1 : verC ⟨h, p, q, b⟩ sec true now = 15 := by rw [HVC.out]; rw [if_neg (by decide), if_neg (fun hn => hn hsq), if_pos (.inl hf)]
       have HA := Lib.hid (verA_no (a := ⟨h, p, q, b⟩) (sec := sec) (k := true) (n := now) (by rw [k1]; decide))
       have HC := Lib.hid (errC_at k1 (by decide))
       clear k1 HVC HVY
       clear hsq
       go_enter Tryz.func51, Tryz.ntmps51
       go_wp2_with (first | (go_at_call 20; refine (HRD.out _ (HG.out.below HN0.out.bel)).mono ?_; rintro e w1 ⟨rfl, hb1⟩; have HN1 := Lib.hid (HN0.out.older hb1); have HK1 := Lib.hid (vfS_new 51 HN1.out rh rp rq id rb frm til); clear hb1; obtain ⟨⟨e0, e1, e2, e3⟩, ⟨g0, g1, g2, g3⟩, hz⟩ := HN1.out.facts; have hz1 : w.heap.size < w1.heap.size := (by omega)) | (go_at_call 47; refine (HBGN.out _ (HG.out.below HK1.out.r2.bel)).mono ?_; rintro e w2 ⟨rfl, hb2⟩; have HK2 := Lib.hid (HK1.out.older hb2); clear hb2; clear e0 e1 e2 e3 g0 g1 g2 g3 hz) | (go_at_call 48; refine (HSIG.out _ (HG.out.below HK2.out.r2.bel) (HS.out.older HK2.out.r2.bel)).mono ?_; rintro e w3 ⟨rfl, hb3⟩; have HK3 := Lib.hid (HK2.out.older hb3); clear hb3; obtain ⟨⟨e0, e1, e2, e3⟩, ⟨g0, g1, g2, g3⟩, hz⟩ := HK3.out.r2.facts; obtain ⟨⟨m0, m1, m2, m3⟩, ⟨t0, t1, t2⟩, hzm⟩ := HK3.out.facts))
       obtain ⟨⟨z0, z1, z2, z3⟩, hbf⟩ := HK3.out.r2.done (.string ⟨#[]⟩) (.string ⟨#[]⟩) (.string ⟨#[]⟩) (.bool false)
       refine bodyPost_ret (v := .tuple #[.agg #[.string ⟨#[]⟩, .string ⟨#[]⟩, .string ⟨#[]⟩, .bool false], errV 15]) (by simp [results, Tryz.results51, go_sem, z0, z1, z2, z3]) rfl ⟨?_, hbf⟩
       rw [HA.out, HC.out]
      ·by_cases ht : til ≤ now
       ·have k1 : verC ⟨h, p, q, b⟩ sec true now = 15 := by rw [HVC.out]; rw [if_neg (by decide), if_neg (fun hn => hn hsq), if_pos (.inr ht)]
        have HA := Lib.hid (verA_no (a := ⟨h, p, q, b⟩) (sec := sec) (k := true) (n := now) (by rw [k1]; decide))
        have HC := Lib.hid (errC_at k1 (by decide))
        clear k1 HVC HVY
        clear hsq
        go_enter Tryz.func51, Tryz.ntmps51
        go_wp2_with (first | (go_at_call 20; refine (HRD.out _ (HG.out.below HN0.out.bel)).mono ?_; rintro e w1 ⟨rfl, hb1⟩; have HN1 := Lib.hid (HN0.out.older hb1); have HK1 := Lib.hid (vfS_new 51 HN1.out rh rp rq id rb frm til); clear hb1; obtain ⟨⟨e0, e1, e2, e3⟩, ⟨g0, g1, g2, g3⟩, hz⟩ := HN1.out.facts; have hz1 : w.heap.size < w1.heap.size := (by omega)) | (go_at_call 47; refine (HBGN.out _ (HG.out.below HK1.out.r2.bel)).mono ?_; rintro e w2 ⟨rfl, hb2⟩; have HK2 := Lib.hid (HK1.out.older hb2); clear hb2; clear e0 e1 e2 e3 g0 g1 g2 g3 hz) | (go_at_call 48; refine (HSIG.out _ (HG.out.below HK2.out.r2.bel) (HS.out.older HK2.out.r2.bel)).mono ?_; rintro e w3 ⟨rfl, hb3⟩; have HK3 := Lib.hid (HK2.out.older hb3); clear hb3; obtain ⟨⟨e0, e1, e2, e3⟩, ⟨g0, g1, g2, g3⟩, hz⟩ := HK3.out.r2.facts; obtain ⟨⟨m0, m1, m2, m3⟩, ⟨t0, t1, t2⟩, hzm⟩ := HK3.out.facts))
        obtain ⟨⟨z0, z1, z2, z3⟩, hbf⟩ := HK3.out.r2.done (.string ⟨#[]⟩) (.string ⟨#[]⟩) (.string ⟨#[]⟩) (.bool false)
        refine bodyPost_ret (v := .tuple #[.agg #[.string ⟨#[]⟩, .string ⟨#[]⟩, .string ⟨#[]⟩, .bool false], errV 15]) (by simp [results, Tryz.results51, go_sem, z0, z1, z2, z3]) rfl ⟨?_, hbf⟩
        rw [HA.out, HC.out]
       ·have k1 : verC ⟨h, p, q, b⟩ sec true now = 0 := by rw [HVC.out, if_neg (by decide), if_neg (fun hn => hn hsq), if_neg (fun hn => hn.elim hf ht)]
        have HA := Lib.hid (HVY.out k1)
        have HC := Lib.hid (errC_zero k1)
        clear k1 HVC HVY hsq
        go_enter Tryz.func51, Tryz.ntmps51
        go_wp2_with (first | (go_at_call 20; refine (HRD.out _ (HG.out.below HN0.out.bel)).mono ?_; rintro e w1 ⟨rfl, hb1⟩; have HN1 := Lib.hid (HN0.out.older hb1); have HK1 := Lib.hid (vfS_new 51 HN1.out rh rp rq id rb frm til); clear hb1; obtain ⟨⟨e0, e1, e2, e3⟩, ⟨g0, g1, g2, g3⟩, hz⟩ := HN1.out.facts; have hz1 : w.heap.size < w1.heap.size := (by omega)) | (go_at_call 47; refine (HBGN.out _ (HG.out.below HK1.out.r2.bel)).mono ?_; rintro e w2 ⟨rfl, hb2⟩; have HK2 := Lib.hid (HK1.out.older hb2); clear hb2; clear e0 e1 e2 e3 g0 g1 g2 g3 hz) | (go_at_call 48; refine (HSIG.out _ (HG.out.below HK2.out.r2.bel) (HS.out.older HK2.out.r2.bel)).mono ?_; rintro e w3 ⟨rfl, hb3⟩; have HK3 := Lib.hid (HK2.out.older hb3); clear hb3; obtain ⟨⟨e0, e1, e2, e3⟩, ⟨g0, g1, g2, g3⟩, hz⟩ := HK3.out.r2.facts; obtain ⟨⟨m0, m1, m2, m3⟩, ⟨t0, t1, t2⟩, hzm⟩ := HK3.out.facts))
        obtain ⟨⟨z0, z1, z2, z3⟩, hbf⟩ := HK3.out.r2.done (.string ⟨rh.toArray⟩) (.string ⟨rp.toArray⟩) (.string ⟨rq.toArray⟩) (.bool rb)
        refine bodyPost_ret (v := .tuple #[.agg #[.string ⟨rh.toArray⟩, .string ⟨rp.toArray⟩, .string ⟨rq.toArray⟩, .bool rb], .nilIface]) (by simp [results, Tryz.results51, go_sem, z0, z1, z2, z3]) rfl ⟨?_, hbf⟩
        rw [HA.out, HC.out]
     ·have k1 : verC ⟨h, p, q, b⟩ sec true now = 14 := by rw [HVC.out]; rw [if_neg (by decide), if_pos hsq]
      have HA := Lib.hid (verA_no (a := ⟨h, p, q, b⟩) (sec := sec) (k := true) (n := now) (by rw [k1]; decide))
      have HC := Lib.hid (errC_at k1 (by decide))
      clear k1 HVC HVY
      have hse : (sx == sg) = false := beq_eq_false_iff_ne.2 hsq
      clear hsq
      go_enter Tryz.func51, Tryz.ntmps51
      go_wp2_with (first | (go_at_call 20; refine (HRD.out _ (HG.out.below HN0.out.bel)).mono ?_; rintro e w1 ⟨rfl, hb1⟩; have HN1 := Lib.hid (HN0.out.older hb1); have HK1 := Lib.hid (vfS_new 51 HN1.out rh rp rq id rb frm til); clear hb1; obtain ⟨⟨e0, e1, e2, e3⟩, ⟨g0, g1, g2, g3⟩, hz⟩ := HN1.out.facts; have hz1 : w.heap.size < w1.heap.size := (by omega)) | (go_at_call 47; refine (HBGN.out _ (HG.out.below HK1.out.r2.bel)).mono ?_; rintro e w2 ⟨rfl, hb2⟩; have HK2 := Lib.hid (HK1.out.older hb2); clear hb2; clear e0 e1 e2 e3 g0 g1 g2 g3 hz) | (go_at_call 48; refine (HSIG.out _ (HG.out.below HK2.out.r2.bel) (HS.out.older HK2.out.r2.bel)).mono ?_; rintro e w3 ⟨rfl, hb3⟩; have HK3 := Lib.hid (HK2.out.older hb3); clear hb3; obtain ⟨⟨e0, e1, e2, e3⟩, ⟨g0, g1, g2, g3⟩, hz⟩ := HK3.out.r2.facts; obtain ⟨⟨m0, m1, m2, m3⟩, ⟨t0, t1, t2⟩, hzm⟩ := HK3.out.facts))
      obtain ⟨⟨z0, z1, z2, z3⟩, hbf⟩ := HK3.out.r2.done (.string ⟨#[]⟩) (.string ⟨#[]⟩) (.string ⟨#[]⟩) (.bool false)
      refine bodyPost_ret (v := .tuple #[.agg #[.string ⟨#[]⟩, .string ⟨#[]⟩, .string ⟨#[]⟩, .bool false], errV 14]) (by simp [results, Tryz.results51, go_sem, z0, z1, z2, z3]) rfl ⟨?_, hbf⟩
      rw [HA.out, HC.out]
end Sg
end Go.Proofs.YtpkhbhdidkkebaaGreatDoor
end

