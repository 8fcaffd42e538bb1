/- Contracts and plain facts that the statement's proof leans on (texts joined). No condition beyond those that each names. -/
import Derived.Deep.RegionHeld3
import Derived.OrdersHeld
import Derived.Test.YtpkhbhdidkkebaaGreatDoorPvO
import Derived.Test.YtpkhbhdidkkebaaGreatDoorPvU
import Derived.Test.YtpkhbhdidkkebaaGreatDoorPvd
import Derived.Test.YtpkhbhdidkkebaaGreatDoorPvg
import Derived.Test.YtpkhbhdidkkebaaGreatDoorPvj
section
namespace Go.Proofs.YtpkhbhdidkkebaaGreatDoor
open Go.RowKit Pl Ad Go.Shelf
attribute [local go_sem] ba_get ba_append ba_extract_end ba_extract_zero ba_extract conv_one
set_option maxRecDepth 100000
set_option maxHeartbeats 4000000
set_option linter.unusedVariables false
set_option linter.unusedSimpArgs false
namespace Sg
open Kr A1 Dg
/-- What Verify of a ring answers; k: the key with the token's id. -/
noncomputable def ringC (f : Bs → Option KeyM) (a : Adr) (now : Int) : Int :=
 match readS a with
 | none => 2
 | some r => match f r.tok.id with
   | none => 16
   | some k => if k.at now then verC a k.sec true now else 16
noncomputable def ringA (f : Bs → Option KeyM) (a : Adr) (now : Int) : Adr :=
 match readS a with
 | none => ⟨[], [], [], false⟩
 | some r => match f r.tok.id with
   | none => ⟨[], [], [], false⟩
   | some k => if k.at now then verA a k.sec true now else ⟨[], [], [], false⟩
theorem ring_none {f : Bs → Option KeyM} {a : Adr} {now : Int} (h : readS a = none) : ringC f a now = 2 ∧ ringA f a now = ⟨[], [], [], false⟩ := by
 unfold ringC ringA; rw [h]; exact ⟨rfl, rfl⟩
theorem ring_nokey {f : Bs → Option KeyM} {a : Adr} {now : Int} {r : SigM} (h : readS a = some r) (hf : f r.tok.id = none) : ringC f a now = 16 ∧ ringA f a now = ⟨[], [], [], false⟩ := by
 unfold ringC ringA; rw [h]; simp [hf]
theorem ring_dead {f : Bs → Option KeyM} {a : Adr} {now : Int} {r : SigM} {k : KeyM} (h : readS a = some r) (hf : f r.tok.id = some k) (hk : k.at now = false) : ringC f a now = 16 ∧ ringA f a now = ⟨[], [], [], false⟩ := by
 unfold ringC ringA; rw [h]; simp [hf, hk]
theorem ring_yes {f : Bs → Option KeyM} {a : Adr} {now : Int} {r : SigM} {k : KeyM} (h : readS a = some r) (hf : f r.tok.id = some k) (hk : k.at now = true) : ringC f a now = verC a k.sec true now ∧ ringA f a now = verA a k.sec true now := by
 unfold ringC ringA; rw [h]; simp [hf, hk]
/-- The address, the result, an older block's cell. -/
structure KvS (U : Nat) (w0 w : World) (a : Adr) (q i : Nat) (u : Value) : Prop where
 r2 : R2S U w0 w
 ab : Bx w w0.heap.size U #[.string ⟨a.host.toArray⟩, .string ⟨a.path.toArray⟩, .string ⟨a.query.toArray⟩, .bool a.has]
 lt : q < w.heap.size
 cell : w.cell? ⟨q, i, none⟩ = some u
theorem KvS.older {U : Nat} {w0 w w' : World} {a : Adr} {q i : Nat} {u : Value} (h : KvS U w0 w a q i u) (hb : Below w.heap.size w w') : KvS U w0 w' a q i u := ⟨h.r2.older hb, h.ab.older hb, Nat.lt_of_lt_of_le h.lt hb.size, keepC hb h.cell⟩
theorem KvS.facts {U : Nat} {w0 w : World} {a : Adr} {q i : Nat} {u : Value} (h : KvS U w0 w a q i u) :
 (w.cell? ⟨w0.heap.size, 0, none⟩ = some (.string ⟨a.host.toArray⟩) ∧ w.cell? ⟨w0.heap.size, 1, none⟩ = some (.string ⟨a.path.toArray⟩) ∧ w.cell? ⟨w0.heap.size, 2, none⟩ = some (.string ⟨a.query.toArray⟩) ∧ w.cell? ⟨w0.heap.size, 3, none⟩ = some (.bool a.has)) ∧
 ((w.cell? ⟨w0.heap.size + 1, 0, none⟩ = some (.string ⟨#[]⟩) ∧ w.cell? ⟨w0.heap.size + 1, 1, none⟩ = some (.string ⟨#[]⟩) ∧ w.cell? ⟨w0.heap.size + 1, 2, none⟩ = some (.string ⟨#[]⟩) ∧ w.cell? ⟨w0.heap.size + 1, 3, none⟩ = some (.bool false)) ∧
 (w.frozen? ⟨w0.heap.size + 1, 0, none⟩ = false ∧ w.frozen? ⟨w0.heap.size + 1, 1, none⟩ = false ∧ w.frozen? ⟨w0.heap.size + 1, 2, none⟩ = false ∧ w.frozen? ⟨w0.heap.size + 1, 3, none⟩ = false)) ∧ w.cell? ⟨q, i, none⟩ = some u ∧ (w0.heap.size + 1 < w.heap.size ∧ w0.heap.size < w.heap.size ∧ q < w.heap.size) :=
 ⟨⟨h.ab.cell (i := 0) rfl, h.ab.cell (i := 1) rfl, h.ab.cell (i := 2) rfl, h.ab.cell (i := 3) rfl⟩, ⟨h.r2.facts.1, h.r2.facts.2.1⟩, h.cell, h.r2.facts.2.2, Nat.lt_of_succ_lt h.r2.facts.2.2, h.lt⟩
theorem KvS.done {U : Nat} {w0 w : World} {a : Adr} {q i : Nat} {u : Value} (h : KvS U w0 w a q i u) (hq : q < w0.heap.size) (u0 u1 u2 u3 : Value) :
 let W := ((((w.setCell ⟨w0.heap.size + 1, 0, none⟩ u0).setCell ⟨w0.heap.size + 1, 1, none⟩ u1).setCell ⟨w0.heap.size + 1, 2, none⟩ u2).setCell ⟨w0.heap.size + 1, 3, none⟩ u3)
 W.cell? ⟨w0.heap.size, 0, none⟩ = some (.string ⟨a.host.toArray⟩) ∧ W.cell? ⟨w0.heap.size, 1, none⟩ = some (.string ⟨a.path.toArray⟩) ∧ W.cell? ⟨w0.heap.size, 2, none⟩ = some (.string ⟨a.query.toArray⟩) ∧ W.cell? ⟨w0.heap.size, 3, none⟩ = some (.bool a.has) ∧ W.cell? ⟨q, i, none⟩ = some u := by
 intro W
 have ht : Touch (fun k => k = w0.heap.size + 1) w W := ((((Touch.refl (fun k => k = w0.heap.size + 1) w).setCell (a := ⟨w0.heap.size + 1, 0, none⟩) rfl u0).setCell (a := ⟨w0.heap.size + 1, 1, none⟩) rfl u1).setCell (a := ⟨w0.heap.size + 1, 2, none⟩) rfl u2).setCell (a := ⟨w0.heap.size + 1, 3, none⟩) rfl u3
 have hb := h.ab.touch ht (fun (e : w0.heap.size = w0.heap.size + 1) => by omega)
 exact ⟨hb.cell (i := 0) rfl, hb.cell (i := 1) rfl, hb.cell (i := 2) rfl, hb.cell (i := 3) rfl, ht.cell h.cell (fun (e : q = w0.heap.size + 1) => by omega)⟩
theorem src_form2 {w : World} {v : Value} {m : Nat} {C : List Value} (h : SrcAt w v m C) : ∃ a c, v = .slice a m c := by
 rcases h with ⟨rfl, rfl, _⟩ | ⟨a, c, rfl, _⟩
 ·exact ⟨_, _, rfl⟩
 ·exact ⟨_, _, rfl⟩
theorem kverify_any (B R : Nat) (t : Int) (a : Adr) (now : Int) (V : Nat → Value) (E : Nat → List Ent) (w : World) (hg : SgnAt w) (hr : RingAt w B R V E) (hl : (tlK E t).length ≤ 1000000) (hsl : ∀ e ∈ tlK E t, e.key.sec.length ≤ 1000000) (h1 : a.host.length ≤ 33554432) (h2 : a.path.length ≤ 33554432) (h3 : a.query.length ≤ 33554432) :
 Calls Tryz.prog 17 #[ptrK R, .int .i64 t, adV a, .int .i64 now] w fun e w' => e = .returned (.tuple #[adV (ringA (fun id => (findE (tlK E t) id).map Ent.key) a now), Sg.errC (ringC (fun id => (findE (tlK E t) id).map Ent.key) a now)]) ∧ Below w.heap.size w w' := by
 have HG := Lib.hid hg
 have HR := Lib.hid hr
 have HVF0 := fun s1 s2 sec wz hz hv hs => verify_any a s1 s2 sec true now wz hz hv h1 h2 h3 hs
 have HRD0 := fun wz hz => read_any a wz hz h1 h2 h3
 cases hrd : readS a with
 | none =>
   obtain ⟨k1, k2⟩ := ring_none (f := fun id => (findE (tlK E t) id).map Ent.key) (now := now) hrd
   have HA := Lib.hid k2
   have HC := Lib.hid (errC_at k1 (by decide))
   rw [hrd] at HRD0
   have HRD : Hid (∀ wz, SgnAt wz → Calls Tryz.prog 20 #[adV a] wz fun e w' => e = .returned (.tuple #[(.agg #[.string ⟨#[]⟩, .string ⟨#[]⟩, .string ⟨#[]⟩, .bool false]), (.agg #[.string ⟨#[]⟩, .int .i64 0, .int .i64 0]), .string ⟨#[]⟩, errV 2]) ∧ Below wz.heap.size wz w') := Lib.hid HRD0
   obtain ⟨h, p, q, b⟩ := a
   have HN0 := Lib.hid (r2S_new 27 w h p q b)
   have HX0 := Lib.hid ((Bx.new w 27 #[.string ⟨h.toArray⟩, .string ⟨p.toArray⟩, .string ⟨q.toArray⟩, .bool b]).older ((Below.refl _ _).alloc (Nat.le_refl _) (.cells (#[.string ⟨#[]⟩, .string ⟨#[]⟩, .string ⟨#[]⟩, .bool false]) 27)))
   clear hg hr hrd k1 k2 h1 h2 h3 HVF0 HRD0
   go_enter Tryz.func17, Tryz.ntmps17
   go_wp2_with ((go_at_call 20; refine (HRD.out _ (HG.out.below HN0.out.bel)).mono ?_; rintro e w1 ⟨rfl, hb1⟩; have HN1 := Lib.hid (HN0.out.older hb1); have HX1 := Lib.hid (HX0.out.older hb1); have HR1 := Lib.hid (HR.out.older (HN1.out.bel)); clear hb1; obtain ⟨⟨e0, e1, e2, e3⟩, ⟨g0, g1, g2, g3⟩, hz⟩ := HN1.out.facts; have hz1 : w.heap.size < w1.heap.size := (by omega)))
   obtain ⟨⟨z0, z1, z2, z3⟩, hbf⟩ := HN1.out.done2 (.string ⟨#[]⟩) (.string ⟨#[]⟩) (.string ⟨#[]⟩) (.bool false) (.cells #[.string ⟨#[]⟩, .string ⟨#[]⟩, .string ⟨#[]⟩, .bool false] 27) (.cells #[.string ⟨#[]⟩, .int .i64 0, .int .i64 0] 51)
   refine bodyPost_ret (v := .tuple #[.agg #[.string ⟨#[]⟩, .string ⟨#[]⟩, .string ⟨#[]⟩, .bool false], errV 2]) (by simp [results, Tryz.results17, go_sem, z0, z1, z2, z3]) rfl ⟨?_, hbf⟩
   rw [HA.out, HC.out]
 | some r =>
   obtain ⟨⟨rh, rp, rq, rb⟩, ⟨id, frm, til⟩, sg⟩ := r
   rw [hrd] at HRD0
   have HRD : Hid (∀ wz, SgnAt wz → Calls Tryz.prog 20 #[adV a] wz fun e w' => e = .returned (.tuple #[adV ⟨rh, rp, rq, rb⟩, tkV ⟨id, frm, til⟩, .string ⟨sg.toArray⟩, .nilIface]) ∧ Below wz.heap.size wz w') := Lib.hid HRD0
   have HFI := Lib.hid (fun wz hz => find_any B R t id V E wz hz hl)
   cases hf : findE (tlK E t) id with
   | none =>
     obtain ⟨k1, k2⟩ := ring_nokey (f := fun id => (findE (tlK E t) id).map Ent.key) (now := now) hrd (by simp [hf])
     have HA := Lib.hid k2
     have HC := Lib.hid (errC_at k1 (by decide))
     rw [hf, ptrE_none] at HFI
     obtain ⟨h, p, q, b⟩ := a
     have HN0 := Lib.hid (r2S_new 27 w h p q b)
     have HX0 := Lib.hid ((Bx.new w 27 #[.string ⟨h.toArray⟩, .string ⟨p.toArray⟩, .string ⟨q.toArray⟩, .bool b]).older ((Below.refl _ _).alloc (Nat.le_refl _) (.cells (#[.string ⟨#[]⟩, .string ⟨#[]⟩, .string ⟨#[]⟩, .bool false]) 27)))
     clear hg hr hrd k1 k2 h1 h2 h3 HVF0 HRD0 hf
     go_enter Tryz.func17, Tryz.ntmps17
     go_wp2_with (first | (go_at_call 20; refine (HRD.out _ (HG.out.below HN0.out.bel)).mono ?_; rintro e w1 ⟨rfl, hb1⟩; have HN1 := Lib.hid (HN0.out.older hb1); have HX1 := Lib.hid (HX0.out.older hb1); have HR1 := Lib.hid (HR.out.older (HN1.out.bel)); clear hb1; obtain ⟨⟨e0, e1, e2, e3⟩, ⟨g0, g1, g2, g3⟩, hz⟩ := HN1.out.facts; have hz1 : w.heap.size < w1.heap.size := (by omega)) | (go_at_call 40; refine (HFI.out _ (HR1.out.older (((Below.refl w1.heap.size w1).alloc (Nat.le_refl _) (.cells #[.string ⟨rh.toArray⟩, .string ⟨rp.toArray⟩, .string ⟨rq.toArray⟩, .bool rb] 27)).alloc (by simp) (.cells #[.string ⟨id.toArray⟩, .int .i64 frm, .int .i64 til] 51)))).mono ?_; rintro e w' ⟨rfl, rfl⟩))
     obtain ⟨⟨z0, z1, z2, z3⟩, hbf⟩ := HN1.out.done2 (.string ⟨#[]⟩) (.string ⟨#[]⟩) (.string ⟨#[]⟩) (.bool false) (.cells #[.string ⟨rh.toArray⟩, .string ⟨rp.toArray⟩, .string ⟨rq.toArray⟩, .bool rb] 27) (.cells #[.string ⟨id.toArray⟩, .int .i64 frm, .int .i64 til] 51)
     refine bodyPost_ret (v := .tuple #[.agg #[.string ⟨#[]⟩, .string ⟨#[]⟩, .string ⟨#[]⟩, .bool false], errV 16]) (by simp [results, Tryz.results17, go_sem, z0, z1, z2, z3]) rfl ⟨?_, hbf⟩
     rw [HA.out, HC.out]
   | some x =>
     have hmem := findE_some hf
     have hxs := hsl x hmem
     have HENT := Lib.hid (hr.found hmem)
     rw [hf, ptrE_some] at HFI
     cases hat : x.key.at now with
     | false =>
       obtain ⟨k1, k2⟩ := ring_dead (f := fun id => (findE (tlK E t) id).map Ent.key) (now := now) (k := x.key) hrd (by simp [hf]) hat
       have HA := Lib.hid k2
       have HC := Lib.hid (errC_at k1 (by decide))
       have HVL : Hid (∀ wz, EntAt wz B x → Calls Tryz.prog 50 #[ptrK x.blk, .int .i64 now] wz fun e w' => e = .returned (.bool false) ∧ wz = w') := Lib.hid (fun wz hz => by have h9 := entValid_any x B now wz hz; rw [hat] at h9; exact h9)
       obtain ⟨h, p, q, b⟩ := a
       have HN0 := Lib.hid (r2S_new 27 w h p q b)
       have HX0 := Lib.hid ((Bx.new w 27 #[.string ⟨h.toArray⟩, .string ⟨p.toArray⟩, .string ⟨q.toArray⟩, .bool b]).older ((Below.refl _ _).alloc (Nat.le_refl _) (.cells (#[.string ⟨#[]⟩, .string ⟨#[]⟩, .string ⟨#[]⟩, .bool false]) 27)))
       clear hg hr hrd k1 k2 h1 h2 h3 HVF0 HRD0 hf hat hmem hxs
       go_enter Tryz.func17, Tryz.ntmps17
       go_wp2_with (first | (go_at_call 20; refine (HRD.out _ (HG.out.below HN0.out.bel)).mono ?_; rintro e w1 ⟨rfl, hb1⟩; have HN1 := Lib.hid (HN0.out.older hb1); have HX1 := Lib.hid (HX0.out.older hb1); have HR1 := Lib.hid (HR.out.older (HN1.out.bel)); clear hb1; obtain ⟨⟨e0, e1, e2, e3⟩, ⟨g0, g1, g2, g3⟩, hz⟩ := HN1.out.facts; have hz1 : w.heap.size < w1.heap.size := (by omega)) | (go_at_call 40; refine (HFI.out _ (HR1.out.older (((Below.refl w1.heap.size w1).alloc (Nat.le_refl _) (.cells #[.string ⟨rh.toArray⟩, .string ⟨rp.toArray⟩, .string ⟨rq.toArray⟩, .bool rb] 27)).alloc (by simp) (.cells #[.string ⟨id.toArray⟩, .int .i64 frm, .int .i64 til] 51)))).mono ?_; rintro e w' ⟨rfl, rfl⟩; have HE1 := Lib.hid (((HENT.out.older HN1.out.bel).older ((Below.refl w1.heap.size w1).alloc (Nat.le_refl _) (.cells #[.string ⟨rh.toArray⟩, .string ⟨rp.toArray⟩, .string ⟨rq.toArray⟩, .bool rb] 27))).older ((Below.refl _ _).alloc (Nat.le_refl _) (.cells #[.string ⟨id.toArray⟩, .int .i64 frm, .int .i64 til] 51)))) | (go_at_call 50; refine (HVL.out _ HE1.out).mono ?_; rintro e w' ⟨rfl, rfl⟩))
       obtain ⟨⟨z0, z1, z2, z3⟩, hbf⟩ := HN1.out.done2 (.string ⟨#[]⟩) (.string ⟨#[]⟩) (.string ⟨#[]⟩) (.bool false) (.cells #[.string ⟨rh.toArray⟩, .string ⟨rp.toArray⟩, .string ⟨rq.toArray⟩, .bool rb] 27) (.cells #[.string ⟨id.toArray⟩, .int .i64 frm, .int .i64 til] 51)
       refine bodyPost_ret (v := .tuple #[.agg #[.string ⟨#[]⟩, .string ⟨#[]⟩, .string ⟨#[]⟩, .bool false], errV 16]) (by simp [results, Tryz.results17, go_sem, z0, z1, z2, z3]) rfl ⟨?_, hbf⟩
       rw [HA.out, HC.out]
     | true =>
       obtain ⟨k1, k2⟩ := ring_yes (f := fun id => (findE (tlK E t) id).map Ent.key) (now := now) (k := x.key) hrd (by simp [hf]) hat
       have HA := Lib.hid k2
       have HC := Lib.hid k1
       have HVL : Hid (∀ wz, EntAt wz B x → Calls Tryz.prog 50 #[ptrK x.blk, .int .i64 now] wz fun e w' => e = .returned (.bool true) ∧ wz = w') := Lib.hid (fun wz hz => by have h9 := entValid_any x B now wz hz; rw [hat] at h9; exact h9)
       have HCL := Lib.hid (fun wz hz => cloneB_any x.sv x.key.sec wz hz hxs)
       have HVF : Hid (∀ s1 s2 wz, SgnAt wz → SrcAt wz (.slice s1 x.key.sec.length s2) x.key.sec.length (bvals x.key.sec) → Calls Tryz.prog 51 #[adV a, .slice s1 x.key.sec.length s2, .bool true, .int .i64 now] wz fun e w' => e = .returned (.tuple #[adV (verA a x.key.sec true now), Sg.errC (verC a x.key.sec true now)]) ∧ Below wz.heap.size wz w') := Lib.hid (fun s1 s2 wz hz hv => HVF0 s1 s2 x.key.sec wz hz hv (by omega))
       obtain ⟨va, hva⟩ : ∃ z, verA a x.key.sec true now = z := ⟨_, rfl⟩
       obtain ⟨ev, hev⟩ : ∃ z, Sg.errC (verC a x.key.sec true now) = z := ⟨_, rfl⟩
       have HVA := Lib.hid hva
       have HEV := Lib.hid hev
       rw [hva, hev] at HVF
       have hxb : x.blk < w.heap.size := (hr.found hmem).facts.2.2
       obtain ⟨h, p, q, b⟩ := a
       obtain ⟨vh, vp, vq, vb⟩ := va
       have HN0 := Lib.hid (r2S_new 27 w h p q b)
       have HX0 := Lib.hid ((Bx.new w 27 #[.string ⟨h.toArray⟩, .string ⟨p.toArray⟩, .string ⟨q.toArray⟩, .bool b]).older ((Below.refl _ _).alloc (Nat.le_refl _) (.cells (#[.string ⟨#[]⟩, .string ⟨#[]⟩, .string ⟨#[]⟩, .bool false]) 27)))
       clear hg hr hrd k1 k2 h1 h2 h3 HVF0 HRD0 hf hat hmem hxs hva hev
       go_enter Tryz.func17, Tryz.ntmps17
       go_wp2_with (first | (go_at_call 20; refine (HRD.out _ (HG.out.below HN0.out.bel)).mono ?_; rintro e w1 ⟨rfl, hb1⟩; have HN1 := Lib.hid (HN0.out.older hb1); have HX1 := Lib.hid (HX0.out.older hb1); have HR1 := Lib.hid (HR.out.older (HN1.out.bel)); clear hb1; obtain ⟨⟨e0, e1, e2, e3⟩, ⟨g0, g1, g2, g3⟩, hz⟩ := HN1.out.facts; have hz1 : w.heap.size < w1.heap.size := (by omega)) | (go_at_call 40; refine (HFI.out _ (HR1.out.older (((Below.refl w1.heap.size w1).alloc (Nat.le_refl _) (.cells #[.string ⟨rh.toArray⟩, .string ⟨rp.toArray⟩, .string ⟨rq.toArray⟩, .bool rb] 27)).alloc (by simp) (.cells #[.string ⟨id.toArray⟩, .int .i64 frm, .int .i64 til] 51)))).mono ?_; rintro e w' ⟨rfl, rfl⟩; have HE1 := Lib.hid (((HENT.out.older HN1.out.bel).older ((Below.refl w1.heap.size w1).alloc (Nat.le_refl _) (.cells #[.string ⟨rh.toArray⟩, .string ⟨rp.toArray⟩, .string ⟨rq.toArray⟩, .bool rb] 27))).older ((Below.refl _ _).alloc (Nat.le_refl _) (.cells #[.string ⟨id.toArray⟩, .int .i64 frm, .int .i64 til] 51)))) | (go_at_call 50; refine (HVL.out _ HE1.out).mono ?_; rintro e w' ⟨rfl, rfl⟩))
       have HK0 := Lib.hid (show KvS 27 w w1 ⟨h, p, q, b⟩ x.blk 1 x.sv from ⟨HN1.out, HX1.out, Nat.lt_of_lt_of_le hxb HN1.out.bel.size, (HENT.out.older HN1.out.bel).facts.1.2.1⟩)
       have HK1 := Lib.hid (HK0.out.older (((Below.refl w1.heap.size w1).alloc (Nat.le_refl _) (.cells #[.string ⟨rh.toArray⟩, .string ⟨rp.toArray⟩, .string ⟨rq.toArray⟩, .bool rb] 27)).alloc (by simp) (.cells #[.string ⟨id.toArray⟩, .int .i64 frm, .int .i64 til] 51)))
       have HSC := Lib.hid (SrcAt.of (HE1.out.sec))
       have HK2 := Lib.hid (HK1.out.older ((Below.refl _ _).drew))
       have HSC2 := Lib.hid (HSC.out.older ((Below.refl _ _).drew))
       obtain ⟨w2, hw2⟩ : ∃ z, ((w1.alloc (.cells #[.string ⟨rh.toArray⟩, .string ⟨rp.toArray⟩, .string ⟨rq.toArray⟩, .bool rb] 27)).alloc (.cells #[.string ⟨id.toArray⟩, .int .i64 frm, .int .i64 til] 51)) = z := ⟨_, rfl⟩
       rw [hw2] at HK1 HK2 HSC2 ⊢
       clear hw2 e0 e1 e2 e3 g0 g1 g2 g3 hz hz1
       obtain ⟨⟨c0, c1, c2, c3⟩, ⟨⟨e0, e1, e2, e3⟩, ⟨g0, g1, g2, g3⟩⟩, q0, ⟨hz, hz1, hz2⟩⟩ := HK1.out.facts
       refine wp_region_held_drew (S := fun w' => w'.cell? ⟨w.heap.size, 0, none⟩ = some (.string ⟨h.toArray⟩) ∧ w'.cell? ⟨w.heap.size, 1, none⟩ = some (.string ⟨p.toArray⟩) ∧ w'.cell? ⟨w.heap.size, 2, none⟩ = some (.string ⟨q.toArray⟩) ∧ w'.cell? ⟨w.heap.size, 3, none⟩ = some (.bool b) ∧ w'.cell? ⟨x.blk, 1, none⟩ = some (x.sv)) (by kernel_rfl) (by exact ⟨c0, c1, c2, c3, q0⟩) (fun hHeld => ?_)
       obtain ⟨wd, hwd⟩ : ∃ z, w2.drew = z := ⟨_, rfl⟩
       rw [hwd] at hHeld HK2 HSC2 ⊢
       clear hwd
       clear c0 c1 c2 c3 e0 e1 e2 e3 g0 g1 g2 g3 q0 hz hz1 hz2
       obtain ⟨⟨c0, c1, c2, c3⟩, ⟨⟨e0, e1, e2, e3⟩, ⟨g0, g1, g2, g3⟩⟩, q0, ⟨hz, hz1, hz2⟩⟩ := HK2.out.facts
       refine Hd.tk 0 ?_
       try simp only [Act.put, List.setIfInBounds_toArray, List.set_cons_zero, List.set_cons_succ]
       refine Hd.tk 1 ?_
       try simp only [Act.put, List.setIfInBounds_toArray, List.set_cons_zero, List.set_cons_succ]
       refine Hd.tk 2 ?_
       try simp only [Act.put, List.setIfInBounds_toArray, List.set_cons_zero, List.set_cons_succ]
       refine Hd.tk 3 ?_
       try simp only [Act.put, List.setIfInBounds_toArray, List.set_cons_zero, List.set_cons_succ]
       refine Hd.tk 4 ?_
       try simp only [Act.put, List.setIfInBounds_toArray, List.set_cons_zero, List.set_cons_succ]
       refine Hd.tk 5 ?_
       try simp only [Act.put, List.setIfInBounds_toArray, List.set_cons_zero, List.set_cons_succ]
       refine Hd.tk 7 ?_
       try simp only [Act.put, List.setIfInBounds_toArray, List.set_cons_zero, List.set_cons_succ]
       refine wpAnyH_ready (rs := [6]) (by kernel_rfl) (by simp) (AllReadyH.cons (by simp only [List.getElem?_toArray, List.getElem?_cons_succ, List.getElem?_cons_zero]; rfl) (fun K hK => ?_) AllReadyH.nil)
       go_simp
       go_at_call 52
       refine (HCL.out _ HSC2.out).mono ?_
       rintro e y1 ⟨u, rfl, hu, hy1⟩
       have hus := SrcAt.of hu
       obtain ⟨ua, uc, rfl⟩ := src_form2 hus
       have HUS := Lib.hid hus
       have HK3 := Lib.hid (HK2.out.older hy1)
       clear c0 c1 c2 c3 e0 e1 e2 e3 g0 g1 g2 g3 q0 hz hz1 hz2
       obtain ⟨⟨c0, c1, c2, c3⟩, ⟨⟨e0, e1, e2, e3⟩, ⟨g0, g1, g2, g3⟩⟩, q0, ⟨hz, hz1, hz2⟩⟩ := HK3.out.facts
       clear hu hus hy1
       go_wp2_with fail
       refine hK.out _ _ (by exact ⟨c0, c1, c2, c3, q0⟩) (fun hHf1 => ?_)
       clear hK K
       try simp only [Act.put, List.setIfInBounds_toArray, List.set_cons_zero, List.set_cons_succ]
       refine wpAnyH_ready (rs := [8]) (by kernel_rfl) (by simp) (AllReadyH.cons (by simp only [List.getElem?_toArray, List.getElem?_cons_succ, List.getElem?_cons_zero]; rfl) (fun K hK => ?_) AllReadyH.nil)
       go_simp
       go_at_call 51
       refine (HVF.out _ _ _ (HG.out.below HK3.out.r2.bel) HUS.out).mono ?_
       rintro e y2 ⟨rfl, hy2⟩
       have HK4 := Lib.hid (HK3.out.older hy2)
       clear c0 c1 c2 c3 e0 e1 e2 e3 g0 g1 g2 g3 q0 hz hz1 hz2
       obtain ⟨⟨c0, c1, c2, c3⟩, ⟨⟨e0, e1, e2, e3⟩, ⟨g0, g1, g2, g3⟩⟩, q0, ⟨hz, hz1, hz2⟩⟩ := HK4.out.facts
       clear hy2
       go_wp2_with fail
       refine hK.out _ _ (by exact ⟨c0, c1, c2, c3, q0⟩) (fun hHf2 => ?_)
       clear hK K
       try simp only [Act.put, List.setIfInBounds_toArray, List.set_cons_zero, List.set_cons_succ]
       refine Hd.tk 9 ?_
       try simp only [Act.put, List.setIfInBounds_toArray, List.set_cons_zero, List.set_cons_succ]
       refine Hd.tk 10 ?_
       try simp only [Act.put, List.setIfInBounds_toArray, List.set_cons_zero, List.set_cons_succ]
       refine wpAnyH_ready (rs := [11]) (by kernel_rfl) (by simp) (AllReadyH.cons (by simp only [List.getElem?_toArray, List.getElem?_cons_succ, List.getElem?_cons_zero]; rfl) (fun K hK => ?_) AllReadyH.nil)
       go_simp
       refine hK.out _ _ (by exact HK4.out.done hxb (.string ⟨vh.toArray⟩) (.string ⟨vp.toArray⟩) (.string ⟨vq.toArray⟩) (.bool vb)) (fun hHf3 => ?_)
       clear hK K
       try simp only [Act.put, List.setIfInBounds_toArray, List.set_cons_zero, List.set_cons_succ]
       refine Hd.tk 12 ?_
       try simp only [Act.put, List.setIfInBounds_toArray, List.set_cons_zero, List.set_cons_succ]
       refine wpAnyH_done (by kernel_rfl) ?_ _
       go_wp2_with fail
       obtain ⟨⟨z0, z1, z2, z3⟩, hbf⟩ := HK4.out.r2.done (.string ⟨vh.toArray⟩) (.string ⟨vp.toArray⟩) (.string ⟨vq.toArray⟩) (.bool vb)
       refine bodyPost_ret (v := .tuple #[adV ⟨vh, vp, vq, vb⟩, ev]) (by simp [results, Tryz.results17, go_sem, z0, z1, z2, z3]) rfl ⟨?_, hbf⟩
       rw [HA.out, HC.out, HVA.out, HEV.out]
end Sg
end Go.Proofs.YtpkhbhdidkkebaaGreatDoor
end

section
namespace Go.Proofs.YtpkhbhdidkkebaaGreatDoor
open Go.RowKit Pl Ad Go.Shelf
attribute [local go_sem] ba_get ba_append ba_extract_end ba_extract_zero ba_extract conv_one A1.conv_bytes
set_option maxRecDepth 100000
set_option maxHeartbeats 4000000
set_option linter.unusedVariables false
set_option linter.unusedSimpArgs false
namespace Sg
open Kr A1 Dg
/-- The key of a tenant with an id, in the reference's list. -/
def keyF (ml : KL) (t : Int) (id : Bs) : Option KeyM := (per ml t).find? fun k => k.id == id
theorem keyF_none {ml : KL} {t : Int} {id : Bs} (h : findR ml t id = none) : keyF ml t id = none := by
 have h9 := findR_none h
 unfold hasId at h9
 unfold keyF
 rw [List.find?_eq_none]
 intro k hk
 have := List.any_eq_false.1 h9 k hk
 simpa using this
theorem validR_none {ml : KL} {t n : Int} {id : Bs} (h : findR ml t id = none) : validR ml t id n = false := by unfold validR; rw [h]
theorem validR_some {ml : KL} {t n : Int} {id : Bs} {i : Nat} {k : KeyM} (h : findR ml t id = some i) (hk : ml[i]? = some (t, k)) : validR ml t id n = k.at n := by
 unfold validR; rw [h]; simp only [hk]
structure KrS (U : Nat) (w0 w : World) (a : Adr) (q1 i1 : Nat) (u1 : Value) (q2 i2 : Nat) (u2 : Value) : Prop where
 r2 : R2S U w0 w
 ab : Bx w w0.heap.size U #[.string ⟨a.host.toArray⟩, .string ⟨a.path.toArray⟩, .string ⟨a.query.toArray⟩, .bool a.has]
 n1 : ¬ q1 = w0.heap.size + 1
 n2 : ¬ q2 = w0.heap.size + 1
 x1 : w.cell? ⟨q1, i1, none⟩ = some u1
 x2 : w.cell? ⟨q2, i2, none⟩ = some u2
section
variable {U : Nat} {w0 w w' : World} {a : Adr} {q1 i1 q2 i2 : Nat} {u1 u2 : Value}
theorem KrS.older (h : KrS U w0 w a q1 i1 u1 q2 i2 u2) (hb : Below w.heap.size w w') : KrS U w0 w' a q1 i1 u1 q2 i2 u2 := ⟨h.r2.older hb, h.ab.older hb, h.n1, h.n2, keepC hb h.x1, keepC hb h.x2⟩
theorem KrS.facts (h : KrS U w0 w a q1 i1 u1 q2 i2 u2) :
 (w.cell? ⟨w0.heap.size, 0, none⟩ = some (.string ⟨a.host.toArray⟩) ∧ w.cell? ⟨w0.heap.size, 1, none⟩ = some (.string ⟨a.path.toArray⟩) ∧ w.cell? ⟨w0.heap.size, 2, none⟩ = some (.string ⟨a.query.toArray⟩) ∧ w.cell? ⟨w0.heap.size, 3, none⟩ = some (.bool a.has)) ∧
 ((w.cell? ⟨w0.heap.size + 1, 0, none⟩ = some (.string ⟨#[]⟩) ∧ w.cell? ⟨w0.heap.size + 1, 1, none⟩ = some (.string ⟨#[]⟩) ∧ w.cell? ⟨w0.heap.size + 1, 2, none⟩ = some (.string ⟨#[]⟩) ∧ w.cell? ⟨w0.heap.size + 1, 3, none⟩ = some (.bool false)) ∧
 (w.frozen? ⟨w0.heap.size + 1, 0, none⟩ = false ∧ w.frozen? ⟨w0.heap.size + 1, 1, none⟩ = false ∧ w.frozen? ⟨w0.heap.size + 1, 2, none⟩ = false ∧ w.frozen? ⟨w0.heap.size + 1, 3, none⟩ = false)) ∧ (w.cell? ⟨q1, i1, none⟩ = some u1 ∧ w.cell? ⟨q2, i2, none⟩ = some u2) ∧ (w0.heap.size + 1 < w.heap.size ∧ w0.heap.size < w.heap.size ∧ q1 < w.heap.size ∧ q2 < w.heap.size) :=
 ⟨⟨h.ab.cell (i := 0) rfl, h.ab.cell (i := 1) rfl, h.ab.cell (i := 2) rfl, h.ab.cell (i := 3) rfl⟩, ⟨h.r2.facts.1, h.r2.facts.2.1⟩, ⟨h.x1, h.x2⟩, h.r2.facts.2.2, Nat.lt_of_succ_lt h.r2.facts.2.2, World.block_lt_of_cell? w _ h.x1, World.block_lt_of_cell? w _ h.x2⟩
theorem KrS.done (h : KrS U w0 w a q1 i1 u1 q2 i2 u2) (v0 v1 v2 v3 : Value) :
 let W := ((((w.setCell ⟨w0.heap.size + 1, 0, none⟩ v0).setCell ⟨w0.heap.size + 1, 1, none⟩ v1).setCell ⟨w0.heap.size + 1, 2, none⟩ v2).setCell ⟨w0.heap.size + 1, 3, none⟩ v3)
 W.cell? ⟨w0.heap.size, 0, none⟩ = some (.string ⟨a.host.toArray⟩) ∧ W.cell? ⟨w0.heap.size, 1, none⟩ = some (.string ⟨a.path.toArray⟩) ∧ W.cell? ⟨w0.heap.size, 2, none⟩ = some (.string ⟨a.query.toArray⟩) ∧ W.cell? ⟨w0.heap.size, 3, none⟩ = some (.bool a.has) ∧ W.cell? ⟨q1, i1, none⟩ = some u1 ∧ W.cell? ⟨q2, i2, none⟩ = some u2 := by
 intro W
 have ht : Touch (fun k => k = w0.heap.size + 1) w W := ((((Touch.refl (fun k => k = w0.heap.size + 1) w).setCell (a := ⟨w0.heap.size + 1, 0, none⟩) rfl v0).setCell (a := ⟨w0.heap.size + 1, 1, none⟩) rfl v1).setCell (a := ⟨w0.heap.size + 1, 2, none⟩) rfl v2).setCell (a := ⟨w0.heap.size + 1, 3, none⟩) rfl v3
 have hb := h.ab.touch ht (fun (e : w0.heap.size = w0.heap.size + 1) => by omega)
 exact ⟨hb.cell (i := 0) rfl, hb.cell (i := 1) rfl, hb.cell (i := 2) rfl, hb.cell (i := 3) rfl, ht.cell h.x1 h.n1, ht.cell h.x2 h.n2⟩
end
theorem krverify_any (B : Nat) (v : Value) (ml : KL) (t : Int) (a : Adr) (now : Int) (w : World) (hr : RefAt w B v ml) (hl : ml.length ≤ 1000000) (hsl : ∀ e ∈ ml, e.2.sec.length ≤ 1000000) (h1 : a.host.length ≤ 33554432) (h2 : a.path.length ≤ 33554432) (h3 : a.query.length ≤ 33554432) :
 Calls Tryz.prog 30 #[v, .int .i64 t, adV a, .int .i64 now] w fun e w' => e = .returned (.tuple #[adV (ringA (keyF ml t) a now), .int .i64 (ringC (keyF ml t) a now)]) ∧ Below w.heap.size w w' := by
 obtain ⟨la, lc, rfl, hrow⟩ := hr.slot
 have HR := Lib.hid hr
 have HVF0 := fun s1 s2 sec wz hv hs => rverify_any a s1 s2 sec true now wz hv h1 h2 h3 hs
 have HRD0 := fun wz => rread_any a wz h1 h2 h3
 cases hrd : readS a with
 | none =>
   obtain ⟨k1, k2⟩ := ring_none (f := keyF ml t) (now := now) hrd
   have HA := Lib.hid k2
   have HC := Lib.hid k1
   rw [hrd] at HRD0
   have HRD : Hid (∀ wz, Calls Tryz.prog 73 #[adV a] wz fun e w' => e = .returned (.tuple #[(.agg #[.string ⟨#[]⟩, .string ⟨#[]⟩, .string ⟨#[]⟩, .bool false]), (.agg #[.string ⟨#[]⟩, .int .i64 0, .int .i64 0]), .string ⟨#[]⟩, .bool false]) ∧ Below wz.heap.size wz w') := Lib.hid HRD0
   obtain ⟨h, p, q, b⟩ := a
   have HN0 := Lib.hid (r2S_new 63 w h p q b)
   have HX0 := Lib.hid ((Bx.new w 63 #[.string ⟨h.toArray⟩, .string ⟨p.toArray⟩, .string ⟨q.toArray⟩, .bool b]).older ((Below.refl _ _).alloc (Nat.le_refl _) (.cells (#[.string ⟨#[]⟩, .string ⟨#[]⟩, .string ⟨#[]⟩, .bool false]) 63)))
   clear hr hrd k1 k2 h1 h2 h3 HVF0 HRD0 hrow
   go_enter Tryz.func30, Tryz.ntmps30
   go_wp2_with ((go_at_call 73; refine (HRD.out _).mono ?_; rintro e w1 ⟨rfl, hb1⟩; have HN1 := Lib.hid (HN0.out.older hb1); have HX1 := Lib.hid (HX0.out.older hb1); have HR1 := Lib.hid (RefAt.older HR.out (HN1.out.bel)); clear hb1; obtain ⟨⟨e0, e1, e2, e3⟩, ⟨g0, g1, g2, g3⟩, hz⟩ := HN1.out.facts; have hz1 : w.heap.size < w1.heap.size := (by omega)))
   obtain ⟨⟨z0, z1, z2, z3⟩, hbf⟩ := HN1.out.done2 (.string ⟨#[]⟩) (.string ⟨#[]⟩) (.string ⟨#[]⟩) (.bool false) (.cells #[.string ⟨#[]⟩, .string ⟨#[]⟩, .string ⟨#[]⟩, .bool false] 63) (.cells #[.string ⟨#[]⟩, .int .i64 0, .int .i64 0] 64)
   refine bodyPost_ret (v := .tuple #[.agg #[.string ⟨#[]⟩, .string ⟨#[]⟩, .string ⟨#[]⟩, .bool false], .int .i64 2]) (by simp [results, Tryz.results30, go_sem, z0, z1, z2, z3]) rfl ⟨?_, hbf⟩
   rw [HA.out, HC.out]
 | some r =>
   obtain ⟨⟨rh, rp, rq, rb⟩, ⟨id, frm, til⟩, sg⟩ := r
   rw [hrd] at HRD0
   have HRD : Hid (∀ wz, Calls Tryz.prog 73 #[adV a] wz fun e w' => e = .returned (.tuple #[adV ⟨rh, rp, rq, rb⟩, tkV ⟨id, frm, til⟩, .string ⟨sg.toArray⟩, .bool true]) ∧ Below wz.heap.size wz w') := Lib.hid HRD0
   have HVL0 := fun wz hz => refValid_any B (.slice la ml.length lc) ml t now id wz hz hl
   have HT1 : Hid (∀ wz : World, R2S 63 w wz → Bx ((wz.alloc (.cells #[.string ⟨rh.toArray⟩, .string ⟨rp.toArray⟩, .string ⟨rq.toArray⟩, .bool rb] 63)).alloc (.cells #[.string ⟨id.toArray⟩, .int .i64 frm, .int .i64 til] 64)) (wz.heap.size + 1) 64 #[.string ⟨id.toArray⟩, .int .i64 frm, .int .i64 til]) := Lib.hid (fun wz _ => by have h9 := Bx.new (wz.alloc (.cells #[.string ⟨rh.toArray⟩, .string ⟨rp.toArray⟩, .string ⟨rq.toArray⟩, .bool rb] 63)) 64 #[.string ⟨id.toArray⟩, .int .i64 frm, .int .i64 til]; rw [show (wz.alloc (.cells #[.string ⟨rh.toArray⟩, .string ⟨rp.toArray⟩, .string ⟨rq.toArray⟩, .bool rb] 63)).heap.size = wz.heap.size + 1 by simp] at h9; exact h9)
   cases hvl : validR ml t id now with
   | false =>
     have hkk : ringC (keyF ml t) a now = 16 ∧ ringA (keyF ml t) a now = ⟨[], [], [], false⟩ := by
      cases hf : findR ml t id with
      | none => exact ring_nokey hrd (keyF_none hf)
      | some i =>
        obtain ⟨k, hk, _, _, hkf⟩ := findR_some hf
        rw [validR_some hf hk] at hvl
        exact ring_dead (k := k) hrd hkf hvl
     have HA := Lib.hid hkk.2
     have HC := Lib.hid hkk.1
     rw [hvl] at HVL0
     have HVL := Lib.hid HVL0
     obtain ⟨h, p, q, b⟩ := a
     have HN0 := Lib.hid (r2S_new 63 w h p q b)
     have HX0 := Lib.hid ((Bx.new w 63 #[.string ⟨h.toArray⟩, .string ⟨p.toArray⟩, .string ⟨q.toArray⟩, .bool b]).older ((Below.refl _ _).alloc (Nat.le_refl _) (.cells (#[.string ⟨#[]⟩, .string ⟨#[]⟩, .string ⟨#[]⟩, .bool false]) 63)))
     clear hr hrd hkk h1 h2 h3 HVF0 HRD0 HVL0 hvl hrow
     go_enter Tryz.func30, Tryz.ntmps30
     go_wp2_with (first | (go_at_call 73; refine (HRD.out _).mono ?_; rintro e w1 ⟨rfl, hb1⟩; have HN1 := Lib.hid (HN0.out.older hb1); have HX1 := Lib.hid (HX0.out.older hb1); have HR1 := Lib.hid (RefAt.older HR.out (HN1.out.bel)); clear hb1; obtain ⟨⟨e0, e1, e2, e3⟩, ⟨g0, g1, g2, g3⟩, hz⟩ := HN1.out.facts; have hz1 : w.heap.size < w1.heap.size := (by omega)) | (go_at_call 74; refine (HVL.out _ (RefAt.older HR1.out (((Below.refl w1.heap.size w1).alloc (Nat.le_refl _) (.cells #[.string ⟨rh.toArray⟩, .string ⟨rp.toArray⟩, .string ⟨rq.toArray⟩, .bool rb] 63)).alloc (by simp) (.cells #[.string ⟨id.toArray⟩, .int .i64 frm, .int .i64 til] 64)))).mono ?_; rintro e w2 ⟨rfl, hb2⟩; have HN2 := Lib.hid ((HN1.out.older (((Below.refl w1.heap.size w1).alloc (Nat.le_refl _) (.cells #[.string ⟨rh.toArray⟩, .string ⟨rp.toArray⟩, .string ⟨rq.toArray⟩, .bool rb] 63)).alloc (by simp) (.cells #[.string ⟨id.toArray⟩, .int .i64 frm, .int .i64 til] 64))).older hb2); have HX2 := Lib.hid ((HX1.out.older (((Below.refl w1.heap.size w1).alloc (Nat.le_refl _) (.cells #[.string ⟨rh.toArray⟩, .string ⟨rp.toArray⟩, .string ⟨rq.toArray⟩, .bool rb] 63)).alloc (by simp) (.cells #[.string ⟨id.toArray⟩, .int .i64 frm, .int .i64 til] 64))).older hb2); have HR2 := Lib.hid (RefAt.older (RefAt.older HR1.out (((Below.refl w1.heap.size w1).alloc (Nat.le_refl _) (.cells #[.string ⟨rh.toArray⟩, .string ⟨rp.toArray⟩, .string ⟨rq.toArray⟩, .bool rb] 63)).alloc (by simp) (.cells #[.string ⟨id.toArray⟩, .int .i64 frm, .int .i64 til] 64))) hb2); have HT2 := Lib.hid ((HT1.out w1 HN1.out).older hb2); clear hb2; clear e0 e1 e2 e3 g0 g1 g2 g3 hz hz1; obtain ⟨⟨e0, e1, e2, e3⟩, ⟨g0, g1, g2, g3⟩, hz⟩ := HN2.out.facts))
     obtain ⟨⟨z0, z1, z2, z3⟩, hbf⟩ := HN2.out.done (.string ⟨#[]⟩) (.string ⟨#[]⟩) (.string ⟨#[]⟩) (.bool false)
     refine bodyPost_ret (v := .tuple #[.agg #[.string ⟨#[]⟩, .string ⟨#[]⟩, .string ⟨#[]⟩, .bool false], .int .i64 16]) (by simp [results, Tryz.results30, go_sem, z0, z1, z2, z3]) rfl ⟨?_, hbf⟩
     rw [HA.out, HC.out]
   | true =>
     obtain ⟨i, hf⟩ : ∃ i, findR ml t id = some i := by
      cases hf : findR ml t id with
      | none => rw [validR_none hf] at hvl; cases hvl
      | some i => exact ⟨i, rfl⟩
     obtain ⟨k, hk, _, _, hkf⟩ := findR_some hf
     have hat := hvl
     rw [validR_some hf hk] at hat
     obtain ⟨k1, k2⟩ := ring_yes (f := keyF ml t) (now := now) (k := k) hrd hkf hat
     have HA := Lib.hid k2
     have HC := Lib.hid k1
     rw [hvl] at HVL0
     have HVL := Lib.hid HVL0
     obtain ⟨bq, oq, rfl, hmc, hbq, hrw⟩ := hrow i _ hk
     have hil : i < ml.length := (List.getElem?_eq_some_iff.1 hk).1
     have hks : k.sec.length ≤ 1000000 := hsl _ (List.mem_of_getElem? hk)
     have HFN0 := fun wz hz => refFind_any B (.slice (some ⟨bq, oq, none⟩) ml.length lc) ml t id wz hz hl
     rw [hf, show idxV (some i) = .int .i64 (i : Int) from rfl] at HFN0
     have HFN := Lib.hid HFN0
     have HVF : Hid (∀ s1 s2 wz, SrcAt wz (.slice s1 k.sec.length s2) k.sec.length (bvals k.sec) → Calls Tryz.prog 75 #[adV a, .slice s1 k.sec.length s2, .bool true, .int .i64 now] wz fun e w' => e = .returned (.tuple #[adV (verA a k.sec true now), .int .i64 (verC a k.sec true now)]) ∧ Below wz.heap.size wz w') := Lib.hid (fun s1 s2 wz hv => HVF0 s1 s2 k.sec wz hv (by omega))
     obtain ⟨va, hva⟩ : ∃ z, verA a k.sec true now = z := ⟨_, rfl⟩
     obtain ⟨vc, hvc⟩ : ∃ z, verC a k.sec true now = z := ⟨_, rfl⟩
     have HVA := Lib.hid hva
     have HVC := Lib.hid hvc
     rw [hva, hvc] at HVF
     obtain ⟨h, p, q, b⟩ := a
     obtain ⟨vh, vp, vq, vb⟩ := va
     have HN0 := Lib.hid (r2S_new 63 w h p q b)
     have HX0 := Lib.hid ((Bx.new w 63 #[.string ⟨h.toArray⟩, .string ⟨p.toArray⟩, .string ⟨q.toArray⟩, .bool b]).older ((Below.refl _ _).alloc (Nat.le_refl _) (.cells (#[.string ⟨#[]⟩, .string ⟨#[]⟩, .string ⟨#[]⟩, .bool false]) 63)))
     clear hr hrd k1 k2 h1 h2 h3 HVF0 HRD0 HVL0 HFN0 hf hk hkf hat hvl hva hvc hrow
     go_enter Tryz.func30, Tryz.ntmps30
     go_wp2_with (first | (go_at_call 73; refine (HRD.out _).mono ?_; rintro e w1 ⟨rfl, hb1⟩; have HN1 := Lib.hid (HN0.out.older hb1); have HX1 := Lib.hid (HX0.out.older hb1); have HR1 := Lib.hid (RefAt.older HR.out (HN1.out.bel)); clear hb1; obtain ⟨⟨e0, e1, e2, e3⟩, ⟨g0, g1, g2, g3⟩, hz⟩ := HN1.out.facts; have hz1 : w.heap.size < w1.heap.size := (by omega)) | (go_at_call 74; refine (HVL.out _ (RefAt.older HR1.out (((Below.refl w1.heap.size w1).alloc (Nat.le_refl _) (.cells #[.string ⟨rh.toArray⟩, .string ⟨rp.toArray⟩, .string ⟨rq.toArray⟩, .bool rb] 63)).alloc (by simp) (.cells #[.string ⟨id.toArray⟩, .int .i64 frm, .int .i64 til] 64)))).mono ?_; rintro e w2 ⟨rfl, hb2⟩; have HN2 := Lib.hid ((HN1.out.older (((Below.refl w1.heap.size w1).alloc (Nat.le_refl _) (.cells #[.string ⟨rh.toArray⟩, .string ⟨rp.toArray⟩, .string ⟨rq.toArray⟩, .bool rb] 63)).alloc (by simp) (.cells #[.string ⟨id.toArray⟩, .int .i64 frm, .int .i64 til] 64))).older hb2); have HX2 := Lib.hid ((HX1.out.older (((Below.refl w1.heap.size w1).alloc (Nat.le_refl _) (.cells #[.string ⟨rh.toArray⟩, .string ⟨rp.toArray⟩, .string ⟨rq.toArray⟩, .bool rb] 63)).alloc (by simp) (.cells #[.string ⟨id.toArray⟩, .int .i64 frm, .int .i64 til] 64))).older hb2); have HR2 := Lib.hid (RefAt.older (RefAt.older HR1.out (((Below.refl w1.heap.size w1).alloc (Nat.le_refl _) (.cells #[.string ⟨rh.toArray⟩, .string ⟨rp.toArray⟩, .string ⟨rq.toArray⟩, .bool rb] 63)).alloc (by simp) (.cells #[.string ⟨id.toArray⟩, .int .i64 frm, .int .i64 til] 64))) hb2); have HT2 := Lib.hid ((HT1.out w1 HN1.out).older hb2); clear hb2; clear e0 e1 e2 e3 g0 g1 g2 g3 hz hz1; obtain ⟨⟨e0, e1, e2, e3⟩, ⟨g0, g1, g2, g3⟩, hz⟩ := HN2.out.facts))
     clear e0 e1 e2 e3 g0 g1 g2 g3 hz
     have hz10 := HN1.out.rb.lt
     have HK1 := Lib.hid (show KrS 63 w w2 ⟨h, p, q, b⟩ (w1.heap.size + 1) 0 (.string ⟨id.toArray⟩) bq (oq + i * 6 + 2) (.string ⟨k.sec.toArray⟩) from ⟨HN2.out, HX2.out, by omega, by omega, HT2.out.cell (i := 0) rfl, keepC HN2.out.bel hrw.c2⟩)
     have HK2 := Lib.hid (HK1.out.older ((Below.refl _ _).drew))
     have HR3 := Lib.hid (RefAt.older HR2.out ((Below.refl _ _).drew))
     obtain ⟨⟨c0, c1, c2, c3⟩, ⟨⟨e0, e1, e2, e3⟩, ⟨g0, g1, g2, g3⟩⟩, ⟨q0, q1⟩, ⟨hz, hz1, hz2, hz3⟩⟩ := HK1.out.facts
     refine wp_region_held_drew (S := fun w' => w'.cell? ⟨w.heap.size, 0, none⟩ = some (.string ⟨h.toArray⟩) ∧ w'.cell? ⟨w.heap.size, 1, none⟩ = some (.string ⟨p.toArray⟩) ∧ w'.cell? ⟨w.heap.size, 2, none⟩ = some (.string ⟨q.toArray⟩) ∧ w'.cell? ⟨w.heap.size, 3, none⟩ = some (.bool b) ∧ w'.cell? ⟨w1.heap.size + 1, 0, none⟩ = some (.string ⟨id.toArray⟩) ∧ w'.cell? ⟨bq, oq + i * 6 + 2, none⟩ = some (.string ⟨k.sec.toArray⟩)) (by kernel_rfl) (by exact ⟨c0, c1, c2, c3, q0, q1⟩) (fun hHeld => ?_)
     obtain ⟨wd, hwd⟩ : ∃ z, w2.drew = z := ⟨_, rfl⟩
     rw [hwd] at hHeld HK2 HR3 ⊢
     clear hwd
     clear c0 c1 c2 c3 e0 e1 e2 e3 g0 g1 g2 g3 q0 q1 hz hz1 hz2 hz3
     obtain ⟨⟨c0, c1, c2, c3⟩, ⟨⟨e0, e1, e2, e3⟩, ⟨g0, g1, g2, g3⟩⟩, ⟨q0, q1⟩, ⟨hz, hz1, hz2, hz3⟩⟩ := HK2.out.facts
     refine Hd.tk 0 ?_
     try simp only [Act.put, List.setIfInBounds_toArray, List.set_cons_zero, List.set_cons_succ]
     refine Hd.tk 1 ?_
     try simp only [Act.put, List.setIfInBounds_toArray, List.set_cons_zero, List.set_cons_succ]
     refine Hd.tk 2 ?_
     try simp only [Act.put, List.setIfInBounds_toArray, List.set_cons_zero, List.set_cons_succ]
     refine Hd.tk 3 ?_
     try simp only [Act.put, List.setIfInBounds_toArray, List.set_cons_zero, List.set_cons_succ]
     refine Hd.tk 4 ?_
     try simp only [Act.put, List.setIfInBounds_toArray, List.set_cons_zero, List.set_cons_succ]
     refine Hd.tk 5 ?_
     try simp only [Act.put, List.setIfInBounds_toArray, List.set_cons_zero, List.set_cons_succ]
     refine Hd.tk 11 ?_
     try simp only [Act.put, List.setIfInBounds_toArray, List.set_cons_zero, List.set_cons_succ]
     refine wpAnyH_ready (rs := [6]) (by kernel_rfl) (by simp) (AllReadyH.cons (by simp only [List.getElem?_toArray, List.getElem?_cons_succ, List.getElem?_cons_zero]; rfl) (fun K hK => ?_) AllReadyH.nil)
     go_simp
     go_at_call 66
     refine (HFN.out _ HR3.out).mono ?_
     rintro e y0 ⟨rfl, rfl⟩
     go_wp2_with fail
     refine hK.out _ _ (by exact ⟨c0, c1, c2, c3, q0, q1⟩) (fun hHf0 => ?_)
     clear hK K
     try simp only [Act.put, List.setIfInBounds_toArray, List.set_cons_zero, List.set_cons_succ]
     refine Hd.tk 7 ?_
     try simp only [Act.put, List.setIfInBounds_toArray, List.set_cons_zero, List.set_cons_succ]
     refine Hd.tk 8 ?_
     try simp only [Act.put, List.setIfInBounds_toArray, List.set_cons_zero, List.set_cons_succ]
     refine Hd.tk 9 ?_
     try simp only [Act.put, List.setIfInBounds_toArray, List.set_cons_zero, List.set_cons_succ]
     refine wpAnyH_ready (rs := [10]) (by kernel_rfl) (by simp) (AllReadyH.cons (by simp only [List.getElem?_toArray, List.getElem?_cons_succ, List.getElem?_cons_zero]; rfl) (fun K hK => ?_) AllReadyH.nil)
     go_simp
     have HK3 := Lib.hid (HK2.out.older (A1.bworld_below wd k.sec))
     have HUS := Lib.hid (bytesSrc (c := A1.bcap wd k.sec) (A1.bytesAt_new wd k.sec))
     obtain ⟨w3, hw3⟩ : ∃ z, A1.bworld wd k.sec = z := ⟨_, rfl⟩
     rw [hw3] at HK3 HUS ⊢
     clear hw3
     clear c0 c1 c2 c3 e0 e1 e2 e3 g0 g1 g2 g3 q0 q1 hz hz1 hz2 hz3
     obtain ⟨⟨c0, c1, c2, c3⟩, ⟨⟨e0, e1, e2, e3⟩, ⟨g0, g1, g2, g3⟩⟩, ⟨q0, q1⟩, ⟨hz, hz1, hz2, hz3⟩⟩ := HK3.out.facts
     refine hK.out _ _ (by exact ⟨c0, c1, c2, c3, q0, q1⟩) (fun hHf1 => ?_)
     clear hK K
     try simp only [Act.put, List.setIfInBounds_toArray, List.set_cons_zero, List.set_cons_succ]
     refine wpAnyH_ready (rs := [12]) (by kernel_rfl) (by simp) (AllReadyH.cons (by simp only [List.getElem?_toArray, List.getElem?_cons_succ, List.getElem?_cons_zero]; rfl) (fun K hK => ?_) AllReadyH.nil)
     go_simp
     go_at_call 75
     refine (HVF.out _ _ _ HUS.out).mono ?_
     rintro e y2 ⟨rfl, hy2⟩
     have HK4 := Lib.hid (HK3.out.older hy2)
     clear c0 c1 c2 c3 e0 e1 e2 e3 g0 g1 g2 g3 q0 q1 hz hz1 hz2 hz3
     obtain ⟨⟨c0, c1, c2, c3⟩, ⟨⟨e0, e1, e2, e3⟩, ⟨g0, g1, g2, g3⟩⟩, ⟨q0, q1⟩, ⟨hz, hz1, hz2, hz3⟩⟩ := HK4.out.facts
     clear hy2
     go_wp2_with fail
     refine hK.out _ _ (by exact ⟨c0, c1, c2, c3, q0, q1⟩) (fun hHf2 => ?_)
     clear hK K
     try simp only [Act.put, List.setIfInBounds_toArray, List.set_cons_zero, List.set_cons_succ]
     refine Hd.tk 13 ?_
     try simp only [Act.put, List.setIfInBounds_toArray, List.set_cons_zero, List.set_cons_succ]
     refine Hd.tk 14 ?_
     try simp only [Act.put, List.setIfInBounds_toArray, List.set_cons_zero, List.set_cons_succ]
     refine wpAnyH_ready (rs := [15]) (by kernel_rfl) (by simp) (AllReadyH.cons (by simp only [List.getElem?_toArray, List.getElem?_cons_succ, List.getElem?_cons_zero]; rfl) (fun K hK => ?_) AllReadyH.nil)
     go_simp
     refine hK.out _ _ (by exact HK4.out.done (.string ⟨vh.toArray⟩) (.string ⟨vp.toArray⟩) (.string ⟨vq.toArray⟩) (.bool vb)) (fun hHf3 => ?_)
     clear hK K
     try simp only [Act.put, List.setIfInBounds_toArray, List.set_cons_zero, List.set_cons_succ]
     refine Hd.tk 16 ?_
     try simp only [Act.put, List.setIfInBounds_toArray, List.set_cons_zero, List.set_cons_succ]
     refine wpAnyH_done (by kernel_rfl) ?_ _
     go_wp2_with fail
     obtain ⟨⟨z0, z1, z2, z3⟩, hbf⟩ := HK4.out.r2.done (.string ⟨vh.toArray⟩) (.string ⟨vp.toArray⟩) (.string ⟨vq.toArray⟩) (.bool vb)
     refine bodyPost_ret (v := .tuple #[.agg #[.string ⟨vh.toArray⟩, .string ⟨vp.toArray⟩, .string ⟨vq.toArray⟩, .bool vb], .int .i64 vc]) (by simp [results, Tryz.results30, go_sem, z0, z1, z2, z3]) rfl ⟨?_, hbf⟩
     rw [HA.out, HC.out, HVA.out, HVC.out]
end Sg
end Go.Proofs.YtpkhbhdidkkebaaGreatDoor
end

section
namespace Go.Proofs.YtpkhbhdidkkebaaGreatDoor
open Go.RowKit Pl Ad
attribute [local go_sem] ba_get ba_append ba_extract_end ba_extract_zero ba_extract
set_option maxRecDepth 100000
set_option maxHeartbeats 1000000
set_option linter.unusedVariables false
set_option linter.unusedSimpArgs false
namespace Kr
theorem validE_keys (l : List Ent) (id : Bs) (n : Int) : validE l id n = validL (l.map Ent.key) id n := by
 unfold validE validL findE
 rw [List.find?_map]
 show _ = match (l.find? fun e => e.key.id == id).map Ent.key with | none => false | some k => k.at n
 cases l.find? fun e => e.key.id == id <;> rfl
theorem bytesAt_src {w : World} {g c : Nat} {l : Bs} (h : A1.BytesAt w g l) : SrcAt w (.slice (some ⟨g, 0, none⟩) l.length c) l.length (bvals l) := by
 refine .inr ⟨_, _, rfl, fun j x hx => ?_⟩
 obtain ⟨hj, hx⟩ := List.getElem?_eq_some_iff.1 hx
 rw [bvals_len] at hj
 rw [Addr.add_lit, Nat.zero_add, h.cell j hj, ← hx]
 simp [bvals]
def kAw : KeyM := ⟨[107, 49], secN 16, 0, 100, 0⟩
theorem addC_aw : addC 1 [] kAw = 0 := by decide
theorem one_key {l : List Ent} {k : KeyM} (h : l.map Ent.key = [k]) : ∃ x, l = [x] ∧ x.key = k := by
 match l, h with
 | [x], h => exact ⟨x, rfl, by simpa using h⟩
theorem aw_keys {E4 : Nat → List Ent} {k : List KeyM} (h : KStep (fun _ => []) E4 1 (addL 1 (keysOf (fun _ => []) 1) ⟨[107, 49], secN 16, 0, 100, 0⟩)) (h2 : addL 1 (keysOf (fun _ => []) 1) ⟨[107, 49], secN 16, 0, 100, 0⟩ = k) : keysOf E4 1 = k := by
 have := h 1
 rw [if_pos rfl, h2] at this
 exact this
theorem awake50_any (w : World) : Calls Tryz.prog 23 #[] w fun e w' => e = .returned (.bool true) ∧ Below w.heap.size w w' := by
 have hr := ringAt_new w w.heap.size (Nat.le_refl _)
 have hb1 := (Below.refl w.heap.size w).alloc (Nat.le_refl _) (.cells ring0 102)
 have HR := Lib.hid hr
 have HB := Lib.hid hb1
 have hz := hb1.size
 have hs16 : Hid (∀ w, Calls Tryz.prog 26 #[.int .u8 16] w fun e w' => e = .returned (.string ⟨(secN 16).toArray⟩) ∧ Below w.heap.size w w') := Lib.hid (fun w => secret_any 16 w (by decide))
 have HC := Lib.hid (show errC (addC 1 (keysOf (fun _ => []) 1) ⟨[107, 49], secN 16, 0, 100, 0⟩) = .nilIface from errC_ok addC_aw)
 have HA1 := Lib.hid (show addL 1 (keysOf (fun _ => []) 1) ⟨[107, 49], secN 16, 0, 100, 0⟩ = [newK kAw] from if_pos addC_aw)
 clear hr hb1
 go_enter Tryz.func23, Tryz.ntmps23
 go_wp2_with (go_at_call 8; refine (keyNew_any _).mono ?_; rintro e w1 ⟨rfl, rfl⟩)
 go_wp2_with (first
  | (go_at_call 26; refine (hs16.out _).mono ?_; rintro e w2 ⟨rfl, hb2⟩; have hcv := A1.conv_bytes w2 (secN 16); have hb3 := hb2.trans ((A1.bworld_below w2 (secN 16)).mono hb2.size); have HR3 := Lib.hid (HR.out.older hb3); have HB3 := Lib.hid (HB.out.trans (hb3.mono hz)); have HS3 := Lib.hid (bytesAt_src (c := A1.bcap w2 (secN 16)) (A1.bytesAt_new w2 (secN 16))); clear hb2 hb3)
  | (go_at_call 24; refine (add_any w.heap.size w.heap.size 1 [107, 49] (secN 16) 0 100 (some ⟨w2.heap.size, 0, none⟩) (A1.bcap w2 (secN 16)) (fun _ => .slice none 0 0) (fun _ => []) _ HR3.out HB3.out.size (by decide) (by decide) HS3.out).mono ?_; rw [HC.out]; rintro e w4 ⟨V4, E4, rfl, hd4, hst4, _⟩; have HD4 := Lib.hid hd4; have HK4 := Lib.hid (aw_keys hst4 HA1.out); clear hd4 hst4))
 obtain ⟨x, hx, hxk⟩ := one_key HK4.out
 have HX := Lib.hid hx
 have HXK := Lib.hid hxk
 have HSG := Lib.hid (show signI (keysOf E4 1) 50 = some 0 by rw [HK4.out]; decide)
 have HV1 := Lib.hid (show validE (tlK E4 1) [107, 49] 99 = true by rw [validE_keys]; show validL (keysOf E4 1) _ _ = _; rw [HK4.out]; decide)
 have HV2 := Lib.hid (show validE (tlK E4 1) [107, 49] 100 = false by rw [validE_keys]; show validL (keysOf E4 1) _ _ = _; rw [HK4.out]; decide)
 have HLN := Lib.hid (show (tlK E4 1).length = 1 by rw [hx]; rfl)
 have HB4 := Lib.hid (HB3.out.trans ((HD4.out.goes.touch.below (B := w.heap.size) HB3.out.size (fun i hi => HR3.out.ge hi))))
 clear hx
 obtain ⟨blk, sv, key⟩ := x
 simp only at hxk
 subst hxk
 have HSGN : Hid (∀ w', RingAt w' w.heap.size w.heap.size V4 E4 → Calls Tryz.prog 33 #[ptrK w.heap.size, .int .i64 1, .int .i64 50] w' fun e w2 => ∃ ua uc, e = .returned (.tuple #[keyV [107, 49] (.slice ua 16 uc) 0 100, .nilIface]) ∧ Below w'.heap.size w' w2) := Lib.hid (fun w' hr => by
  refine (sign_some w.heap.size w.heap.size 1 50 V4 E4 w' hr (by rw [HLN.out]; decide) 0 ⟨blk, sv, newK kAw⟩ HSG.out (by rw [HX.out]; rfl) (by show (secN 16).length ≤ 1000000; decide)).mono ?_
  rintro e w2 ⟨ua, uc, rfl, _, hb⟩
  exact ⟨ua, uc, rfl, hb⟩)
 go_wp2_with (first
  | (go_at_call 33; refine (HSGN.out _ HD4.out.ring).mono ?_; rintro e w5 ⟨ua, uc, rfl, hb5⟩; have HR5 := Lib.hid (HD4.out.ring.older (hb5.alloc hb5.size (.cells #[.string ⟨#[107, 49]⟩, .slice ua 16 uc, .int .i64 0, .int .i64 100] 74))); have HB5 := Lib.hid (HB4.out.trans (hb5.mono HB4.out.size)); have hz5 := HB5.out.size; clear hb5)
  | (go_at_call 16; refine (valid_any w.heap.size w.heap.size 1 _ [107, 49] V4 E4 _ HR5.out (by rw [HLN.out]; decide)).mono ?_; (first | rw [HV1.out] | rw [HV2.out]); rintro e w' ⟨rfl, rfl⟩))
 go_ret
 exact ⟨rfl, HB5.out.alloc hz5 _⟩
end Kr
end Go.Proofs.YtpkhbhdidkkebaaGreatDoor
end

