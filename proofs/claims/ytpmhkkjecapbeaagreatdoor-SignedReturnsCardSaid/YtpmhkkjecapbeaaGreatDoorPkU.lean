/- Contracts and plain facts that the statement's proof leans on (texts joined). No condition beyond those that each names. -/
import Derived.Lib.SlBytesConst
import Derived.Lib.SmallJoins
import Derived.Deep.LoopGhost
import Derived.Test.YtpmhkkjecapbeaaGreatDoorPkK
import Derived.Test.YtpmhkkjecapbeaaGreatDoorPkQ
import Derived.Test.YtpmhkkjecapbeaaGreatDoorPkS
import Derived.Test.YtpmhkkjecapbeaaGreatDoorPkT
section
namespace Go.Proofs.YtpmhkkjecapbeaaGreatDoor
open Go.RowKit Pl Ad Go.Shelf
attribute [local go_sem] ba_get ba_append ba_extract_end ba_extract_zero ba_extract conv_one
set_option maxRecDepth 100000
set_option maxHeartbeats 4000000
set_option linter.unusedVariables false
set_option linter.unusedSimpArgs false
namespace Sg
open Kr A1 Dg
theorem errC_at {m n : Int} (h : m = n) (hn : ¬ n = 0) : Sg.errC m = errV n := by rw [h]; exact if_neg hn
theorem errC_zero {m : Int} (h : m = 0) : Sg.errC m = .nilIface := if_pos h
theorem valid_lens {a : Adr} (h : valid a = true) : a.host.length ≤ 1024 ∧ a.path.length ≤ 1024 ∧ a.query.length ≤ 1024 := by
  have h1 := valid_len h
  obtain ⟨p1, p2⟩ := text_parts a
  refine ⟨by omega, by omega, ?_⟩
  cases hb : a.has with
  | true => have := p2 hb; omega
  | false => rw [valid_has h hb]; simp
theorem verC_none {a : Adr} {sec : Bs} {k : Bool} {n : Int} (h : readS a = none) : verC a sec k n = 2 ∧ verA a sec k n = ⟨[], [], [], false⟩ := by
  unfold verA verC
  rw [h]
  exact ⟨rfl, rfl⟩
theorem verC_some {a : Adr} {r : SigM} {sec : Bs} {k : Bool} {n : Int} (h : readS a = some r) : verC a sec k n = (if k = false then 16 else if ¬ sigM mixM sec (Ad.begun r.rest r.tok).text = r.sig then 14 else if n < r.tok.frm ∨ r.tok.til ≤ n then 15 else 0) := by
  unfold verC
  rw [h]
theorem verA_no {a : Adr} {sec : Bs} {k : Bool} {n : Int} (h : ¬ verC a sec k n = 0) : verA a sec k n = ⟨[], [], [], false⟩ := by
  unfold verA
  split
  · rfl
  · rw [if_neg h]
theorem verA_yes {a : Adr} {r : SigM} {sec : Bs} {k : Bool} {n : Int} (h : readS a = some r) (h0 : verC a sec k n = 0) : verA a sec k n = r.rest := by
  unfold verA
  rw [h]
  exact if_pos h0
/-- Two boxes: the address, the result. -/
structure R2S (U : Nat) (w0 w : World) : Prop where
  bel : Below w0.heap.size w0 w
  rb : Bx w (w0.heap.size + 1) U (#[.string ⟨#[]⟩, .string ⟨#[]⟩, .string ⟨#[]⟩, .bool false])
theorem R2S.older {U : Nat} {w0 w w' : World} (h : R2S U w0 w) (hb : Below w.heap.size w w') : R2S U w0 w' := ⟨h.bel.trans (hb.mono h.bel.size), h.rb.older hb⟩
theorem r2S_new (U : Nat) (w : World) (h p q : Bs) (b : Bool) : R2S U w ((w.alloc (.cells #[.string ⟨h.toArray⟩, .string ⟨p.toArray⟩, .string ⟨q.toArray⟩, .bool b] U)).alloc (.cells (#[.string ⟨#[]⟩, .string ⟨#[]⟩, .string ⟨#[]⟩, .bool false]) U)) :=
  ⟨((Below.refl _ _).alloc (Nat.le_refl _) _).alloc (by simp) _,
   by have h9 := Bx.new (w.alloc (.cells #[.string ⟨h.toArray⟩, .string ⟨p.toArray⟩, .string ⟨q.toArray⟩, .bool b] U)) U (#[.string ⟨#[]⟩, .string ⟨#[]⟩, .string ⟨#[]⟩, .bool false]); rw [show (w.alloc (.cells #[.string ⟨h.toArray⟩, .string ⟨p.toArray⟩, .string ⟨q.toArray⟩, .bool b] U)).heap.size = w.heap.size + 1 by simp] at h9; exact h9⟩
theorem R2S.facts {U : Nat} {w0 w : World} (h : R2S U w0 w) :
    (w.cell? ⟨w0.heap.size + 1, 0, none⟩ = some (.string ⟨#[]⟩) ∧ w.cell? ⟨w0.heap.size + 1, 1, none⟩ = some (.string ⟨#[]⟩) ∧ w.cell? ⟨w0.heap.size + 1, 2, none⟩ = some (.string ⟨#[]⟩) ∧ w.cell? ⟨w0.heap.size + 1, 3, none⟩ = some (.bool false)) ∧
    (w.frozen? ⟨w0.heap.size + 1, 0, none⟩ = false ∧ w.frozen? ⟨w0.heap.size + 1, 1, none⟩ = false ∧ w.frozen? ⟨w0.heap.size + 1, 2, none⟩ = false ∧ w.frozen? ⟨w0.heap.size + 1, 3, none⟩ = false) ∧ w0.heap.size + 1 < w.heap.size :=
  ⟨⟨h.rb.cell (i := 0) rfl, h.rb.cell (i := 1) rfl, h.rb.cell (i := 2) rfl, h.rb.cell (i := 3) rfl⟩, ⟨h.rb.frz 0, h.rb.frz 1, h.rb.frz 2, h.rb.frz 3⟩, h.rb.lt⟩
theorem R2S.done {U : Nat} {w0 w : World} (h : R2S U w0 w) (u0 u1 u2 u3 : Value) :
    let W := ((((w.setCell ⟨w0.heap.size + 1, 0, none⟩ u0).setCell ⟨w0.heap.size + 1, 1, none⟩ u1).setCell ⟨w0.heap.size + 1, 2, none⟩ u2).setCell ⟨w0.heap.size + 1, 3, none⟩ u3)
    (W.cell? ⟨w0.heap.size + 1, 0, none⟩ = some u0 ∧ W.cell? ⟨w0.heap.size + 1, 1, none⟩ = some u1 ∧ W.cell? ⟨w0.heap.size + 1, 2, none⟩ = some u2 ∧ W.cell? ⟨w0.heap.size + 1, 3, none⟩ = some u3) ∧ Below w0.heap.size w0 W :=
  have hr := ((((h.rb.set 0 u0).set 1 u1).set 2 u2).set 3 u3)
  ⟨⟨hr.cell (i := 0) rfl, hr.cell (i := 1) rfl, hr.cell (i := 2) rfl, hr.cell (i := 3) rfl⟩, Box.set h.bel (show w0.heap.size ≤ w0.heap.size + 1 by omega) _ _ _ _⟩
theorem R2S.done2 {U : Nat} {w0 w : World} (h : R2S U w0 w) (u0 u1 u2 u3 : Value) (o1 o2 : Obj) :
    let W := ((((((w.setCell ⟨w0.heap.size + 1, 0, none⟩ u0).setCell ⟨w0.heap.size + 1, 1, none⟩ u1).setCell ⟨w0.heap.size + 1, 2, none⟩ u2).setCell ⟨w0.heap.size + 1, 3, none⟩ u3).alloc o1).alloc o2)
    (W.cell? ⟨w0.heap.size + 1, 0, none⟩ = some u0 ∧ W.cell? ⟨w0.heap.size + 1, 1, none⟩ = some u1 ∧ W.cell? ⟨w0.heap.size + 1, 2, none⟩ = some u2 ∧ W.cell? ⟨w0.heap.size + 1, 3, none⟩ = some u3) ∧ Below w0.heap.size w0 W :=
  have hr := ((((h.rb.set 0 u0).set 1 u1).set 2 u2).set 3 u3)
  have hr2 := (hr.older ((Below.refl _ _).alloc (Nat.le_refl _) o1)).older ((Below.refl _ _).alloc (Nat.le_refl _) o2)
  have hb := Box.set h.bel (show w0.heap.size ≤ w0.heap.size + 1 by omega) u0 u1 u2 u3
  have hb2 := hb.alloc hb.size o1
  ⟨⟨hr2.cell (i := 0) rfl, hr2.cell (i := 1) rfl, hr2.cell (i := 2) rfl, hr2.cell (i := 3) rfl⟩, hb2.alloc hb2.size o2⟩
/-- What was read, in two boxes. -/
structure VfS (U1 U2 : Nat) (w0 w : World) (R : Nat) (r : Adr) (t : TokM) : Prop where
  r2 : R2S U1 w0 w
  kb : Bx w R U1 #[.string ⟨r.host.toArray⟩, .string ⟨r.path.toArray⟩, .string ⟨r.query.toArray⟩, .bool r.has]
  tb : Bx w (R + 1) U2 #[.string ⟨t.id.toArray⟩, .int .i64 t.frm, .int .i64 t.til]
  lt : w0.heap.size + 1 < R
theorem VfS.older {U1 U2 : Nat} {w0 w w' : World} {R : Nat} {r : Adr} {t : TokM} (h : VfS U1 U2 w0 w R r t) (hb : Below w.heap.size w w') : VfS U1 U2 w0 w' R r t := ⟨h.r2.older hb, h.kb.older hb, h.tb.older hb, h.lt⟩
theorem vfS_new {U1 : Nat} (U2 : Nat) {w0 w : World} (h : R2S U1 w0 w) (hh pp qq id : Bs) (bb : Bool) (frm til : Int) : VfS U1 U2 w0 ((w.alloc (.cells #[.string ⟨hh.toArray⟩, .string ⟨pp.toArray⟩, .string ⟨qq.toArray⟩, .bool bb] U1)).alloc (.cells #[.string ⟨id.toArray⟩, .int .i64 frm, .int .i64 til] U2)) w.heap.size ⟨hh, pp, qq, bb⟩ ⟨id, frm, til⟩ :=
  have b1 : Below w.heap.size w (w.alloc (.cells #[.string ⟨hh.toArray⟩, .string ⟨pp.toArray⟩, .string ⟨qq.toArray⟩, .bool bb] U1)) := (Below.refl _ _).alloc (Nat.le_refl _) _
  ⟨h.older (b1.alloc b1.size _), (Bx.new _ _ _).older ((Below.refl _ _).alloc (Nat.le_refl _) _),
   by have h9 := Bx.new (w.alloc (.cells #[.string ⟨hh.toArray⟩, .string ⟨pp.toArray⟩, .string ⟨qq.toArray⟩, .bool bb] U1)) U2 #[.string ⟨id.toArray⟩, .int .i64 frm, .int .i64 til]; rw [show (w.alloc (.cells #[.string ⟨hh.toArray⟩, .string ⟨pp.toArray⟩, .string ⟨qq.toArray⟩, .bool bb] U1)).heap.size = w.heap.size + 1 by simp] at h9; exact h9, h.rb.lt⟩
theorem VfS.facts {U1 U2 : Nat} {w0 w : World} {R : Nat} {r : Adr} {t : TokM} (h : VfS U1 U2 w0 w R r t) :
    (w.cell? ⟨R, 0, none⟩ = some (.string ⟨r.host.toArray⟩) ∧ w.cell? ⟨R, 1, none⟩ = some (.string ⟨r.path.toArray⟩) ∧ w.cell? ⟨R, 2, none⟩ = some (.string ⟨r.query.toArray⟩) ∧ w.cell? ⟨R, 3, none⟩ = some (.bool r.has)) ∧
    (w.cell? ⟨R + 1, 0, none⟩ = some (.string ⟨t.id.toArray⟩) ∧ w.cell? ⟨R + 1, 1, none⟩ = some (.int .i64 t.frm) ∧ w.cell? ⟨R + 1, 2, none⟩ = some (.int .i64 t.til)) ∧ R + 1 < w.heap.size :=
  ⟨⟨h.kb.cell (i := 0) rfl, h.kb.cell (i := 1) rfl, h.kb.cell (i := 2) rfl, h.kb.cell (i := 3) rfl⟩, ⟨h.tb.cell (i := 0) rfl, h.tb.cell (i := 1) rfl, h.tb.cell (i := 2) rfl⟩, h.tb.lt⟩
theorem verify_any (a : Adr) (sa : Option Addr) (sc : Nat) (sec : Bs) (known : Bool) (now : Int) (w : World) (hg : SgnAt w) (hs : SrcAt w (.slice sa sec.length sc) sec.length (bvals sec)) (h1 : a.host.length ≤ 33554432) (h2 : a.path.length ≤ 33554432) (h3 : a.query.length ≤ 33554432) (hsl : sec.length ≤ 134217728) :
    Calls Tryz.prog 38 #[adV a, .slice sa sec.length sc, .bool known, .int .i64 now] w fun e w' => e = .returned (.tuple #[adV (verA a sec known now), Sg.errC (verC a sec known now)]) ∧ Below w.heap.size w w' := by
  have HG := Lib.hid hg
  have HS := Lib.hid hs
  cases hr : readS a with
  | none =>
    obtain ⟨k1, k2⟩ := verC_none (sec := sec) (k := known) (n := now) hr
    have HA := Lib.hid k2
    have HC := Lib.hid (errC_at k1 (by decide))
    have HRD : Hid (∀ wz, SgnAt wz → Calls Tryz.prog 27 #[adV a] wz fun e w' => e = .returned (.tuple #[(.agg #[.string ⟨#[]⟩, .string ⟨#[]⟩, .string ⟨#[]⟩, .bool false]), (.agg #[.string ⟨#[]⟩, .int .i64 0, .int .i64 0]), .string ⟨#[]⟩, errV 2]) ∧ Below wz.heap.size wz w') := Lib.hid (fun wz hz => by have h9 := read_any a wz hz h1 h2 h3; rw [hr] at h9; exact h9)
    obtain ⟨h, p, q, b⟩ := a
    have HN0 := Lib.hid (r2S_new 27 w h p q b)
    clear hg hs hr k1 k2 h1 h2 h3 hsl
    go_enter Tryz.func38, Tryz.ntmps38
    go_wp2_with ((go_at_call 27; refine (HRD.out _ (HG.out.below HN0.out.bel)).mono ?_; rintro e w1 ⟨rfl, hb1⟩; have HN1 := Lib.hid (HN0.out.older hb1); have HK1 := Lib.hid (vfS_new 51 HN1.out [] [] [] [] false 0 0); clear hb1; obtain ⟨⟨e0, e1, e2, e3⟩, ⟨g0, g1, g2, g3⟩, hz⟩ := HN1.out.facts; have hz1 : w.heap.size < w1.heap.size := (by omega)))
    obtain ⟨⟨z0, z1, z2, z3⟩, hbf⟩ := HN1.out.done2 (.string ⟨#[]⟩) (.string ⟨#[]⟩) (.string ⟨#[]⟩) (.bool false) (.cells #[.string ⟨#[]⟩, .string ⟨#[]⟩, .string ⟨#[]⟩, .bool false] 27) (.cells #[.string ⟨#[]⟩, .int .i64 0, .int .i64 0] 51)
    refine bodyPost_ret (v := .tuple #[.agg #[.string ⟨#[]⟩, .string ⟨#[]⟩, .string ⟨#[]⟩, .bool false], errV 2]) (by simp [results, Tryz.results38, go_sem, z0, z1, z2, z3]) rfl ⟨?_, hbf⟩
    rw [HA.out, HC.out]
  | some r =>
    obtain ⟨⟨rh, rp, rq, rb⟩, ⟨id, frm, til⟩, sg⟩ := r
    have his := readS_is hr
    have hck := his.1
    simp only at hck
    have hvb := begun_valid hck
    obtain ⟨q1, _, q3, q4, q5, q6, _⟩ := checkS_ok.1 hck
    simp only at q3 q4 q5 q6
    have hlr := valid_lens q1
    simp only at hlr
    have hidl := idOk_len q3
    have HVC := Lib.hid (verC_some (sec := sec) (k := known) (n := now) hr)
    have HVY := Lib.hid (fun h0 => verA_yes (sec := sec) (k := known) (n := now) hr h0)
    have HRD : Hid (∀ wz, SgnAt wz → Calls Tryz.prog 27 #[adV a] wz fun e w' => e = .returned (.tuple #[adV ⟨rh, rp, rq, rb⟩, tkV ⟨id, frm, til⟩, .string ⟨sg.toArray⟩, .nilIface]) ∧ Below wz.heap.size wz w') := Lib.hid (fun wz hz => by have h9 := read_any a wz hz h1 h2 h3; rw [hr] at h9; exact h9)
    have HBGN0 := fun wz hz => begun_any ⟨rh, rp, rq, rb⟩ ⟨id, frm, til⟩ wz hz (by simp only; omega) (by simp only; omega) (by simp only; omega) (by simp only; omega) (by simp only; omega) (by simp only; omega)
    simp only at HVC HVY
    obtain ⟨bg, hbg⟩ : ∃ z, Ad.begun ⟨rh, rp, rq, rb⟩ ⟨id, frm, til⟩ = z := ⟨_, rfl⟩
    rw [hbg] at HBGN0 hvb HVC
    have HSIG0 := fun wz hz hw => signature_any bg sa sc sec wz hz hw hvb hsl
    obtain ⟨sx, hsx⟩ : ∃ z, sigM mixM sec bg.text = z := ⟨_, rfl⟩
    rw [hsx] at HSIG0 HVC
    have HBGN := Lib.hid HBGN0
    have HSIG := Lib.hid HSIG0
    obtain ⟨h, p, q, b⟩ := a
    obtain ⟨bh, bp, bq, bbo⟩ := bg
    have HN0 := Lib.hid (r2S_new 27 w h p q b)
    clear hg hs hr h1 h2 h3 hsl his hck hvb q1 q3 q4 q5 q6 hlr hidl HBGN0 HSIG0 hbg hsx
    cases known with
    | false =>
      have k1 : verC ⟨h, p, q, b⟩ sec false now = 16 := by rw [HVC.out]; exact if_pos rfl
      have HA := Lib.hid (verA_no (a := ⟨h, p, q, b⟩) (sec := sec) (k := false) (n := now) (by rw [k1]; decide))
      have HC := Lib.hid (errC_at k1 (by decide))
      clear k1 HVC HVY
      go_enter Tryz.func38, Tryz.ntmps38
      go_wp2_with (first | (go_at_call 27; refine (HRD.out _ (HG.out.below HN0.out.bel)).mono ?_; rintro e w1 ⟨rfl, hb1⟩; have HN1 := Lib.hid (HN0.out.older hb1); have HK1 := Lib.hid (vfS_new 51 HN1.out rh rp rq id rb frm til); clear hb1; obtain ⟨⟨e0, e1, e2, e3⟩, ⟨g0, g1, g2, g3⟩, hz⟩ := HN1.out.facts; have hz1 : w.heap.size < w1.heap.size := (by omega)) | (go_at_call 61; refine (HBGN.out _ (HG.out.below HK1.out.r2.bel)).mono ?_; rintro e w2 ⟨rfl, hb2⟩; have HK2 := Lib.hid (HK1.out.older hb2); clear hb2; clear e0 e1 e2 e3 g0 g1 g2 g3 hz) | (go_at_call 62; refine (HSIG.out _ (HG.out.below HK2.out.r2.bel) (HS.out.older HK2.out.r2.bel)).mono ?_; rintro e w3 ⟨rfl, hb3⟩; have HK3 := Lib.hid (HK2.out.older hb3); clear hb3; obtain ⟨⟨e0, e1, e2, e3⟩, ⟨g0, g1, g2, g3⟩, hz⟩ := HK3.out.r2.facts; obtain ⟨⟨m0, m1, m2, m3⟩, ⟨t0, t1, t2⟩, hzm⟩ := HK3.out.facts))
      obtain ⟨⟨z0, z1, z2, z3⟩, hbf⟩ := HN1.out.done2 (.string ⟨#[]⟩) (.string ⟨#[]⟩) (.string ⟨#[]⟩) (.bool false) (.cells #[.string ⟨rh.toArray⟩, .string ⟨rp.toArray⟩, .string ⟨rq.toArray⟩, .bool rb] 27) (.cells #[.string ⟨id.toArray⟩, .int .i64 frm, .int .i64 til] 51)
      refine bodyPost_ret (v := .tuple #[.agg #[.string ⟨#[]⟩, .string ⟨#[]⟩, .string ⟨#[]⟩, .bool false], errV 16]) (by simp [results, Tryz.results38, go_sem, z0, z1, z2, z3]) rfl ⟨?_, hbf⟩
      rw [HA.out, HC.out]
    | true =>
      by_cases hsq : sx = sg
      · have hse : (sx == sg) = true := beq_iff_eq.2 hsq
        by_cases hf : now < frm
        · have k1 : verC ⟨h, p, q, b⟩ sec true now = 15 := by rw [HVC.out]; rw [if_neg (by decide), if_neg (fun hn => hn hsq), if_pos (.inl hf)]
          have HA := Lib.hid (verA_no (a := ⟨h, p, q, b⟩) (sec := sec) (k := true) (n := now) (by rw [k1]; decide))
          have HC := Lib.hid (errC_at k1 (by decide))
          clear k1 HVC HVY
          clear hsq
          go_enter Tryz.func38, Tryz.ntmps38
          go_wp2_with (first | (go_at_call 27; refine (HRD.out _ (HG.out.below HN0.out.bel)).mono ?_; rintro e w1 ⟨rfl, hb1⟩; have HN1 := Lib.hid (HN0.out.older hb1); have HK1 := Lib.hid (vfS_new 51 HN1.out rh rp rq id rb frm til); clear hb1; obtain ⟨⟨e0, e1, e2, e3⟩, ⟨g0, g1, g2, g3⟩, hz⟩ := HN1.out.facts; have hz1 : w.heap.size < w1.heap.size := (by omega)) | (go_at_call 61; refine (HBGN.out _ (HG.out.below HK1.out.r2.bel)).mono ?_; rintro e w2 ⟨rfl, hb2⟩; have HK2 := Lib.hid (HK1.out.older hb2); clear hb2; clear e0 e1 e2 e3 g0 g1 g2 g3 hz) | (go_at_call 62; refine (HSIG.out _ (HG.out.below HK2.out.r2.bel) (HS.out.older HK2.out.r2.bel)).mono ?_; rintro e w3 ⟨rfl, hb3⟩; have HK3 := Lib.hid (HK2.out.older hb3); clear hb3; obtain ⟨⟨e0, e1, e2, e3⟩, ⟨g0, g1, g2, g3⟩, hz⟩ := HK3.out.r2.facts; obtain ⟨⟨m0, m1, m2, m3⟩, ⟨t0, t1, t2⟩, hzm⟩ := HK3.out.facts))
          obtain ⟨⟨z0, z1, z2, z3⟩, hbf⟩ := HK3.out.r2.done (.string ⟨#[]⟩) (.string ⟨#[]⟩) (.string ⟨#[]⟩) (.bool false)
          refine bodyPost_ret (v := .tuple #[.agg #[.string ⟨#[]⟩, .string ⟨#[]⟩, .string ⟨#[]⟩, .bool false], errV 15]) (by simp [results, Tryz.results38, go_sem, z0, z1, z2, z3]) rfl ⟨?_, hbf⟩
          rw [HA.out, HC.out]
        · by_cases ht : til ≤ now
          · have k1 : verC ⟨h, p, q, b⟩ sec true now = 15 := by rw [HVC.out]; rw [if_neg (by decide), if_neg (fun hn => hn hsq), if_pos (.inr ht)]
            have HA := Lib.hid (verA_no (a := ⟨h, p, q, b⟩) (sec := sec) (k := true) (n := now) (by rw [k1]; decide))
            have HC := Lib.hid (errC_at k1 (by decide))
            clear k1 HVC HVY
            clear hsq
            go_enter Tryz.func38, Tryz.ntmps38
            go_wp2_with (first | (go_at_call 27; refine (HRD.out _ (HG.out.below HN0.out.bel)).mono ?_; rintro e w1 ⟨rfl, hb1⟩; have HN1 := Lib.hid (HN0.out.older hb1); have HK1 := Lib.hid (vfS_new 51 HN1.out rh rp rq id rb frm til); clear hb1; obtain ⟨⟨e0, e1, e2, e3⟩, ⟨g0, g1, g2, g3⟩, hz⟩ := HN1.out.facts; have hz1 : w.heap.size < w1.heap.size := (by omega)) | (go_at_call 61; refine (HBGN.out _ (HG.out.below HK1.out.r2.bel)).mono ?_; rintro e w2 ⟨rfl, hb2⟩; have HK2 := Lib.hid (HK1.out.older hb2); clear hb2; clear e0 e1 e2 e3 g0 g1 g2 g3 hz) | (go_at_call 62; refine (HSIG.out _ (HG.out.below HK2.out.r2.bel) (HS.out.older HK2.out.r2.bel)).mono ?_; rintro e w3 ⟨rfl, hb3⟩; have HK3 := Lib.hid (HK2.out.older hb3); clear hb3; obtain ⟨⟨e0, e1, e2, e3⟩, ⟨g0, g1, g2, g3⟩, hz⟩ := HK3.out.r2.facts; obtain ⟨⟨m0, m1, m2, m3⟩, ⟨t0, t1, t2⟩, hzm⟩ := HK3.out.facts))
            obtain ⟨⟨z0, z1, z2, z3⟩, hbf⟩ := HK3.out.r2.done (.string ⟨#[]⟩) (.string ⟨#[]⟩) (.string ⟨#[]⟩) (.bool false)
            refine bodyPost_ret (v := .tuple #[.agg #[.string ⟨#[]⟩, .string ⟨#[]⟩, .string ⟨#[]⟩, .bool false], errV 15]) (by simp [results, Tryz.results38, go_sem, z0, z1, z2, z3]) rfl ⟨?_, hbf⟩
            rw [HA.out, HC.out]
          · have k1 : verC ⟨h, p, q, b⟩ sec true now = 0 := by rw [HVC.out, if_neg (by decide), if_neg (fun hn => hn hsq), if_neg (fun hn => hn.elim hf ht)]
            have HA := Lib.hid (HVY.out k1)
            have HC := Lib.hid (errC_zero k1)
            clear k1 HVC HVY hsq
            go_enter Tryz.func38, Tryz.ntmps38
            go_wp2_with (first | (go_at_call 27; refine (HRD.out _ (HG.out.below HN0.out.bel)).mono ?_; rintro e w1 ⟨rfl, hb1⟩; have HN1 := Lib.hid (HN0.out.older hb1); have HK1 := Lib.hid (vfS_new 51 HN1.out rh rp rq id rb frm til); clear hb1; obtain ⟨⟨e0, e1, e2, e3⟩, ⟨g0, g1, g2, g3⟩, hz⟩ := HN1.out.facts; have hz1 : w.heap.size < w1.heap.size := (by omega)) | (go_at_call 61; refine (HBGN.out _ (HG.out.below HK1.out.r2.bel)).mono ?_; rintro e w2 ⟨rfl, hb2⟩; have HK2 := Lib.hid (HK1.out.older hb2); clear hb2; clear e0 e1 e2 e3 g0 g1 g2 g3 hz) | (go_at_call 62; refine (HSIG.out _ (HG.out.below HK2.out.r2.bel) (HS.out.older HK2.out.r2.bel)).mono ?_; rintro e w3 ⟨rfl, hb3⟩; have HK3 := Lib.hid (HK2.out.older hb3); clear hb3; obtain ⟨⟨e0, e1, e2, e3⟩, ⟨g0, g1, g2, g3⟩, hz⟩ := HK3.out.r2.facts; obtain ⟨⟨m0, m1, m2, m3⟩, ⟨t0, t1, t2⟩, hzm⟩ := HK3.out.facts))
            obtain ⟨⟨z0, z1, z2, z3⟩, hbf⟩ := HK3.out.r2.done (.string ⟨rh.toArray⟩) (.string ⟨rp.toArray⟩) (.string ⟨rq.toArray⟩) (.bool rb)
            refine bodyPost_ret (v := .tuple #[.agg #[.string ⟨rh.toArray⟩, .string ⟨rp.toArray⟩, .string ⟨rq.toArray⟩, .bool rb], .nilIface]) (by simp [results, Tryz.results38, go_sem, z0, z1, z2, z3]) rfl ⟨?_, hbf⟩
            rw [HA.out, HC.out]
      · have k1 : verC ⟨h, p, q, b⟩ sec true now = 14 := by rw [HVC.out]; rw [if_neg (by decide), if_pos hsq]
        have HA := Lib.hid (verA_no (a := ⟨h, p, q, b⟩) (sec := sec) (k := true) (n := now) (by rw [k1]; decide))
        have HC := Lib.hid (errC_at k1 (by decide))
        clear k1 HVC HVY
        have hse : (sx == sg) = false := beq_eq_false_iff_ne.2 hsq
        clear hsq
        go_enter Tryz.func38, Tryz.ntmps38
        go_wp2_with (first | (go_at_call 27; refine (HRD.out _ (HG.out.below HN0.out.bel)).mono ?_; rintro e w1 ⟨rfl, hb1⟩; have HN1 := Lib.hid (HN0.out.older hb1); have HK1 := Lib.hid (vfS_new 51 HN1.out rh rp rq id rb frm til); clear hb1; obtain ⟨⟨e0, e1, e2, e3⟩, ⟨g0, g1, g2, g3⟩, hz⟩ := HN1.out.facts; have hz1 : w.heap.size < w1.heap.size := (by omega)) | (go_at_call 61; refine (HBGN.out _ (HG.out.below HK1.out.r2.bel)).mono ?_; rintro e w2 ⟨rfl, hb2⟩; have HK2 := Lib.hid (HK1.out.older hb2); clear hb2; clear e0 e1 e2 e3 g0 g1 g2 g3 hz) | (go_at_call 62; refine (HSIG.out _ (HG.out.below HK2.out.r2.bel) (HS.out.older HK2.out.r2.bel)).mono ?_; rintro e w3 ⟨rfl, hb3⟩; have HK3 := Lib.hid (HK2.out.older hb3); clear hb3; obtain ⟨⟨e0, e1, e2, e3⟩, ⟨g0, g1, g2, g3⟩, hz⟩ := HK3.out.r2.facts; obtain ⟨⟨m0, m1, m2, m3⟩, ⟨t0, t1, t2⟩, hzm⟩ := HK3.out.facts))
        obtain ⟨⟨z0, z1, z2, z3⟩, hbf⟩ := HK3.out.r2.done (.string ⟨#[]⟩) (.string ⟨#[]⟩) (.string ⟨#[]⟩) (.bool false)
        refine bodyPost_ret (v := .tuple #[.agg #[.string ⟨#[]⟩, .string ⟨#[]⟩, .string ⟨#[]⟩, .bool false], errV 14]) (by simp [results, Tryz.results38, go_sem, z0, z1, z2, z3]) rfl ⟨?_, hbf⟩
        rw [HA.out, HC.out]
end Sg
end Go.Proofs.YtpmhkkjecapbeaaGreatDoor
end

section
namespace Go.Proofs.YtpmhkkjecapbeaaGreatDoor
open Go.RowKit Pl Ad Go.Shelf
attribute [local go_sem] ba_get ba_append ba_extract_end ba_extract_zero ba_extract conv_one
set_option maxRecDepth 100000
set_option maxHeartbeats 4000000
set_option linter.unusedVariables false
set_option linter.unusedSimpArgs false
namespace Sg
open Kr A1 Dg
attribute [local go_sem] guard_pa eql_pa
attribute [-go_sem] run_eql_struct run_eqGuard_agg
theorem num_any (c : Int) (w : World) : Calls Tryz.prog 35 #[Sg.errC c] w fun e w' => e = .returned (.int .i64 c) ∧ w = w' := by
  by_cases h : c = 0
  · subst h; exact num_nil w
  · rw [show Sg.errC c = errV c from if_neg h]; exact num_err c w
theorem is_any (c n : Int) (w : World) (hn : ¬ n = 0) : Calls Tryz.prog 18 #[Sg.errC c, .int .i64 n] w fun e w' => e = .returned (.bool (decide (c = n))) ∧ w = w' := by
  have h1 : (n == 0) = false := beq_eq_false_iff_ne.2 hn
  by_cases hc : c = n
  · rw [show Sg.errC c = errV c from if_neg (by rw [hc]; exact hn), decide_eq_true hc, hc]
    exact is_err n w hn
  · have HN := Lib.hid hc
    have HNUM := Lib.hid (fun wz => num_any c wz)
    generalize Sg.errC c = ev at HNUM ⊢
    go_enter Tryz.func18, Tryz.ntmps18
    go_wp2_with (go_at_call 35; refine (HNUM.out _).mono ?_; rintro e w' ⟨rfl, rfl⟩)
    go_ret
    exact ⟨ret_bool (by simp [h1, bne, HN.out]), rfl⟩
/-- A literal's row of bytes, marked behind its end by the conversion. -/
theorem conv_lit (w : World) (C : Array Value) (n c : Nat) : (convert 45 45 (.slice (some ⟨w.heap.size, 0, none⟩) n c)).run Tryz.prog (w.alloc (.cells C 5)) = .ok (.slice (some ⟨w.heap.size, 0, none⟩) n c) (w.alloc (.cells C 5 (C.size, C.size + 1))) :=
  Lib.run_convert_bytes_const w 45 5 C n c Tryz.underlying45 Tryz.underlying5
attribute [local go_sem] conv_lit
theorem src_lit (w : World) (l : Bs) (n : Nat) (fr : Nat × Nat) : SrcAt (w.alloc (.cells (bvals l).toArray 5 fr)) (.slice (some ⟨w.heap.size, 0, none⟩) l.length n) l.length (bvals l) :=
  .inr ⟨⟨w.heap.size, 0, none⟩, n, rfl, fun j x hx => by
    have h9 := World.cell?_alloc_mark w (bvals l).toArray 5 fr j
    rw [show (⟨w.heap.size, 0, none⟩ : Addr).add j = ⟨w.heap.size, j, none⟩ by unfold Addr.add; split <;> simp_all, h9]
    simpa using hx⟩
/-- The fixed example. -/
def exA : Adr := ⟨[97, 46, 101, 120, 97, 109, 112, 108, 101], [47, 120], [], false⟩
def exT : TokM := ⟨[107, 49], 10, 20⟩
def exS : Bs := [115, 101, 99, 114, 101, 116]
theorem check_by {a : Adr} {t : TokM} (h1 : valid a = true) (h2 : plainQ a.query = true) (h3 : idOk t.id = true) (h4 : t.frm < t.til) (h5 : 0 ≤ t.frm) (h6 : t.til ≤ 1099511627776) (h7 : a.text.length + 74 + t.id.length ≤ 1024) : checkS a t = 0 := by
  refine checkS_ok.2 ⟨h1, h2, h3, h4, h5, h6, ?_⟩
  rw [begun_text_len _ _ (valid_has h1)]
  have a1 := decI_len (n := t.frm) (by omega)
  have a2 := decI_len (n := t.til) h6
  omega
theorem ex_check : checkS exA exT = 0 := check_by (by decide +kernel) (by decide +kernel) (by decide +kernel) (by decide) (by decide) (by decide) (by decide +kernel)
theorem awake49_any (w : World) (hg : SgnAt w) : Calls Tryz.prog 30 #[] w fun e w' => e = .returned (.bool true) ∧ Below w.heap.size w w' := by
  have HG := Lib.hid hg
  have hc := ex_check
  have HE := Lib.hid (errC_ok hc)
  obtain ⟨sd, hsd⟩ : ∃ z, signed exA exT (sigM mixM exS (Ad.begun exA exT).text) = z := ⟨_, rfl⟩
  have HA := Lib.hid (show signA exA exT exS = sd by rw [← hsd]; exact if_pos hc)
  have hv : valid sd = true := by rw [← hsd]; exact signed_valid hc (sigM_hex _ _ _)
  have hrd : readS sd = some ⟨exA, exT, sigM mixM exS (Ad.begun exA exT).text⟩ := by rw [← hsd]; exact signed_read hc
  have hvc : verC sd exS true 10 = 0 := by rw [← hsd, signed_ver hc]; decide
  have hva : verA sd exS true 10 = exA := verA_yes hrd hvc
  have hhas : sd.has = true := by rw [← hsd]; rfl
  have hl := valid_lens hv
  have HSGN : Hid (∀ wz, SgnAt wz → SrcAt wz (.slice (some ⟨w.heap.size, 0, none⟩) 6 6) 6 (bvals exS) → Calls Tryz.prog 22 #[adV exA, tkV exT, .slice (some ⟨w.heap.size, 0, none⟩) 6 6] wz fun e w' => e = .returned (.tuple #[adV sd, .nilIface]) ∧ Below wz.heap.size wz w') := Lib.hid (fun wz hz hs => by have h9 := sign_any exA exT (some ⟨w.heap.size, 0, none⟩) 6 exS wz hz hs (by decide) (by decide) (by decide) (by decide) (by decide); rw [HA.out, HE.out] at h9; exact h9)
  have HVER : Hid (∀ (g : Addr) wz, SgnAt wz → SrcAt wz (.slice (some g) 6 6) 6 (bvals exS) → Calls Tryz.prog 38 #[adV sd, .slice (some g) 6 6, .bool true, .int .i64 10] wz fun e w' => e = .returned (.tuple #[adV exA, .nilIface]) ∧ Below wz.heap.size wz w') := Lib.hid (fun g wz hz hs => by have h9 := verify_any sd (some g) 6 exS true 10 wz hz hs (by omega) (by omega) (by omega) (by decide); rw [hva, errC_zero hvc] at h9; exact h9)
  obtain ⟨sh, sp, sq, sb⟩ := sd
  simp only at hhas
  subst hhas
  have HS1 := Lib.hid (show SrcAt (w.alloc (.cells #[.int .u8 115, .int .u8 101, .int .u8 99, .int .u8 114, .int .u8 101, .int .u8 116] 5 (6, 7))) (.slice (some ⟨w.heap.size, 0, none⟩) 6 6) 6 (bvals exS) from src_lit w exS 6 (6, 7))
  have HB1 := Lib.hid ((Below.refl w.heap.size w).alloc (Nat.le_refl _) (.cells #[.int .u8 115, .int .u8 101, .int .u8 99, .int .u8 114, .int .u8 101, .int .u8 116] 5 (6, 7)))
  have heq : adB [97, 46, 101, 120, 97, 109, 112, 108, 101] [47, 120] [] false [97, 46, 101, 120, 97, 109, 112, 108, 101] [47, 120] [] false = true := by decide
  clear hg hc hsd hv hrd hvc hva hl
  go_enter Tryz.func30, Tryz.ntmps30
  go_wp2_with (first
    | (go_at_call 22; refine (HSGN.out _ (HG.out.below HB1.out) HS1.out).mono ?_; rintro e w1 ⟨rfl, hb1⟩; have HB2 := Lib.hid (HB1.out.trans (hb1.mono HB1.out.size)); have kc := fun (C : Array Value) (n c : Nat) => Joins.run_convert_bytes_const_at (P := Tryz.prog) (w1.alloc (.cells #[.string ⟨sh.toArray⟩, .string ⟨sp.toArray⟩, .string ⟨sq.toArray⟩, .bool true] 27)) 45 5 C n c (w1.heap.size + 1) (by simp) Tryz.underlying45 Tryz.underlying5; have HB3 := Lib.hid ((HB2.out.alloc HB2.out.size (.cells #[.string ⟨sh.toArray⟩, .string ⟨sp.toArray⟩, .string ⟨sq.toArray⟩, .bool true] 27)).alloc (by have := HB2.out.size; simp; omega) (.cells #[.int .u8 115, .int .u8 101, .int .u8 99, .int .u8 114, .int .u8 101, .int .u8 116] 5 (6, 7))); have HS3 := Lib.hid (show SrcAt ((w1.alloc (.cells #[.string ⟨sh.toArray⟩, .string ⟨sp.toArray⟩, .string ⟨sq.toArray⟩, .bool true] 27)).alloc (.cells #[.int .u8 115, .int .u8 101, .int .u8 99, .int .u8 114, .int .u8 101, .int .u8 116] 5 (6, 7))) (.slice (some ⟨w1.heap.size + 1, 0, none⟩) 6 6) 6 (bvals exS) by have h9 := src_lit (w1.alloc (.cells #[.string ⟨sh.toArray⟩, .string ⟨sp.toArray⟩, .string ⟨sq.toArray⟩, .bool true] 27)) exS 6 (6, 7); rw [show (w1.alloc (.cells #[.string ⟨sh.toArray⟩, .string ⟨sp.toArray⟩, .string ⟨sq.toArray⟩, .bool true] 27)).heap.size = w1.heap.size + 1 by simp] at h9; exact h9); clear hb1)
    | (go_at_call 38; refine (HVER.out _ _ (HG.out.below HB3.out) HS3.out).mono ?_; rintro e w2 ⟨rfl, hb2⟩; have HB4 := Lib.hid (HB3.out.trans (hb2.mono HB3.out.size)); clear hb2))
  go_ret
  exact ⟨rfl, HB4.out.alloc HB4.out.size _⟩
end Sg
end Go.Proofs.YtpmhkkjecapbeaaGreatDoor
end

section
namespace Go.Proofs.YtpmhkkjecapbeaaGreatDoor
open Go.RowKit Pl Ad Go.Shelf
set_option maxRecDepth 100000
set_option maxHeartbeats 4000000
set_option linter.unusedVariables false
set_option linter.unusedSimpArgs false
namespace Sg
open Kr A1 Dg
theorem token_any (t : TokM) (w : World) : Calls Tryz.prog 33 #[tkV t] w fun e w' => e = .returned (tkV t) ∧ Below w.heap.size w w' := by
  obtain ⟨id, frm, til⟩ := t
  go_enter Tryz.func33, Tryz.ntmps33
  go_wp2
  refine bodyPost_ret (v := tkV ⟨id, frm, til⟩) (by simp [results, Tryz.results33, go_sem]) rfl ⟨rfl, ?_⟩
  exact ((Below.refl _ _).alloc (Nat.le_refl _) _).alloc (by simp) _
def nvals (xs : List Nat) : List Value := xs.map fun (n : Nat) => Value.int .i64 (n : Int)
theorem take_sum {xs : List Nat} {k : Nat} (hk : k < xs.length) : (xs.take (k + 1)).sum = (xs.take k).sum + xs[k] := by
  rw [List.take_add_one, List.getElem?_eq_getElem hk]
  simp only [Option.toList_some, List.sum_append, List.sum_cons, List.sum_nil, Nat.add_zero]
theorem short_any (a : Adr) (sa : Option Addr) (sc : Nat) (xs : List Nat) (w : World) (hs : SrcAt w (.slice sa xs.length sc) xs.length (nvals xs)) (hx : xs.length ≤ 8) (hb : ∀ n ∈ xs, n ≤ 281474976710656) (h1 : a.host.length ≤ 281474976710656) (h2 : a.path.length ≤ 281474976710656) (h3 : a.query.length ≤ 281474976710656) :
    Calls Tryz.prog 31 #[adV a, .slice sa xs.length sc] w fun e w' => e = .returned (.bool (decide (a.host.length + a.path.length + a.query.length + xs.sum ≤ 3000))) ∧ Below w.heap.size w w' := by
  obtain ⟨h, p, q, b⟩ := a
  simp only at h1 h2 h3
  have HB0 := Lib.hid ((Below.refl w.heap.size w).alloc (Nat.le_refl _) (.cells #[.string ⟨h.toArray⟩, .string ⟨p.toArray⟩, .string ⟨q.toArray⟩, .bool b] 62))
  have HS := Lib.hid (hs.older HB0.out)
  have HBD := Lib.hid hb
  clear hs hb
  go_enter Tryz.func31, Tryz.ntmps31
  go_wp2
  obtain ⟨W, hW⟩ : ∃ x, w.alloc (.cells #[.string ⟨h.toArray⟩, .string ⟨p.toArray⟩, .string ⟨q.toArray⟩, .bool b] 62) = x := ⟨_, rfl⟩
  rw [hW] at HS HB0 ⊢
  clear hW
  go_loopg [21, 5] xs.length (fun gq iv sv wr => ∃ k n : Nat, wr = W ∧ k ≤ xs.length ∧ iv = .int .i64 k ∧ sv = .int .i64 n ∧ Hid (xs.length ≤ gq + k) ∧ Hid (n = h.length + p.length + q.length + (xs.take k).sum) ∧ n ≤ (k + 3) * 281474976710656)
  case atStart => exact ⟨0, h.length + p.length + q.length, rfl, Nat.zero_le _, rfl, by go_num, Lib.hid (by omega), Lib.hid (by simp), by omega⟩
  case round =>
    obtain ⟨k, n, rfl, hk, rfl, rfl, HQ, HN, hn⟩ := hrel
    by_cases hlt : k < xs.length
    · obtain ⟨ad, had, hcell⟩ := srcPos HS.out (show 0 < (nvals xs).length by simp [nvals]; omega)
      have hc9 := hcell k (.int .i64 ((xs[k] : Nat) : Int)) (by simp [nvals, hlt])
      subst had
      have hz9 := World.block_lt_of_cell? wr _ hc9
      have hbx := HBD.out xs[k] (List.getElem_mem hlt)
      have HTS := Lib.hid (take_sum hlt)
      clear hcell
      generalize xs[k] = x at hc9 hbx HTS
      go_wp2
      go_roundg (gk - 1)
      case rel => exact ⟨k + 1, n + x, rfl, by omega, by go_num, by go_num, Lib.hid (by have := HQ.out; omega), Lib.hid (by rw [HTS.out, HN.out]; omega), by omega⟩
      case measure => have := HQ.out; omega
    · have HT := Lib.hid (show n = h.length + p.length + q.length + xs.sum by rw [HN.out, List.take_of_length_le (by omega)])
      go_wp2
      go_ret
      exact ⟨ret_bool (by have := HT.out; rw [Bool.eq_iff_iff]; simp; omega), HB0.out⟩
theorem short_yes (a : Adr) (sa : Option Addr) (sc : Nat) (xs : List Nat) (w : World) (hs : SrcAt w (.slice sa xs.length sc) xs.length (nvals xs)) (hx : xs.length ≤ 8) (hb : ∀ n ∈ xs, n ≤ 281474976710656) (h1 : a.host.length ≤ 281474976710656) (h2 : a.path.length ≤ 281474976710656) (h3 : a.query.length ≤ 281474976710656) (h : a.host.length + a.path.length + a.query.length + xs.sum ≤ 3000) :
    Calls Tryz.prog 31 #[adV a, .slice sa xs.length sc] w fun e w' => e = .returned (.bool true) ∧ Below w.heap.size w w' :=
  (short_any a sa sc xs w hs hx hb h1 h2 h3).mono fun e w' hh => ⟨by rw [hh.1, decide_eq_true h], hh.2⟩
theorem short_no (a : Adr) (sa : Option Addr) (sc : Nat) (xs : List Nat) (w : World) (hs : SrcAt w (.slice sa xs.length sc) xs.length (nvals xs)) (hx : xs.length ≤ 8) (hb : ∀ n ∈ xs, n ≤ 281474976710656) (h1 : a.host.length ≤ 281474976710656) (h2 : a.path.length ≤ 281474976710656) (h3 : a.query.length ≤ 281474976710656) (h : ¬ a.host.length + a.path.length + a.query.length + xs.sum ≤ 3000) :
    Calls Tryz.prog 31 #[adV a, .slice sa xs.length sc] w fun e w' => e = .returned (.bool false) ∧ Below w.heap.size w w' :=
  (short_any a sa sc xs w hs hx hb h1 h2 h3).mono fun e w' hh => ⟨by rw [hh.1, decide_eq_false h], hh.2⟩
theorem nvals_src (w : World) (xs : List Nat) (c : Nat) : SrcAt (w.alloc (.cells (nvals xs).toArray 3)) (.slice (some ⟨w.heap.size, 0, none⟩) xs.length c) xs.length (nvals xs) :=
  .inr ⟨⟨w.heap.size, 0, none⟩, c, rfl, fun j x hx => by
    have h9 := (Bx.new w 3 (nvals xs).toArray).cell (i := j) (v := x) (by simpa using hx)
    rw [show (⟨w.heap.size, 0, none⟩ : Addr).add j = ⟨w.heap.size, j, none⟩ by unfold Addr.add; split <;> simp_all]
    exact h9⟩
theorem conv_src {w : World} {a : Option Addr} {c : Nat} {l : Bs} (h : SrcAt w (.slice a l.length c) l.length (bvals l)) : (convert 45 9 (.slice a l.length c)).run Tryz.prog w = .ok (.string ⟨l.toArray⟩) w := by
  rcases h with ⟨h0, h1, h2⟩ | ⟨ad, c', h1, h2⟩
  · have hl : l = [] := List.eq_nil_of_length_eq_zero h1
    subst hl
    have h3 := Value.slice.inj h0
    rw [h3.1, h3.2.2, show ([] : Bs).length = 0 from rfl]
    rw [run_convert_bytes_string w 45 9 5 none 0 0 Tryz.underlying45 Tryz.underlying5 Tryz.underlying9]
    rfl
  · have h3 := Value.slice.inj h1
    rw [h3.1]
    refine run_convert_bytes_back w 45 9 5 ad c l Tryz.underlying45 Tryz.underlying5 Tryz.underlying9 (fun j hj => h2 j (.int .u8 ((l[j].toNat : Nat) : Int)) (by simp [bvals, hj]))
theorem bytes_any (a b : Option Addr) (ac bc : Nat) (l m : Bs) (w : World) (h1 : SrcAt w (.slice a l.length ac) l.length (bvals l)) (h2 : SrcAt w (.slice b m.length bc) m.length (bvals m)) :
    Calls Tryz.prog 40 #[.slice a l.length ac, .slice b m.length bc] w fun e w' => e = .returned (.bool (l == m)) ∧ w = w' := by
  have hc1 := conv_src h1
  have hc2 := conv_src h2
  clear h1 h2
  go_enter Tryz.func40, Tryz.ntmps40
  go_wp2
  go_ret
  exact ⟨rfl, rfl⟩
end Sg
end Go.Proofs.YtpmhkkjecapbeaaGreatDoor
end

