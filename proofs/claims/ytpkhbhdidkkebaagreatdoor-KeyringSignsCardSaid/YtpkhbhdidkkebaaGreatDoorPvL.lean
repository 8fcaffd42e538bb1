/- Contracts and plain facts that the statement's proof leans on (texts joined). No condition beyond those that each names. -/
import Derived.Test.YtpkhbhdidkkebaaGreatDoorPvK
section
namespace Go.Proofs.YtpkhbhdidkkebaaGreatDoor
open Go.RowKit Pl Ad Go.Shelf
attribute [local go_sem] ba_get ba_append ba_extract_end ba_extract_zero ba_extract conv_one
set_option maxRecDepth 100000
set_option maxHeartbeats 4000000
set_option linter.unusedVariables false
set_option linter.unusedSimpArgs false
namespace Sg
open Kr A1
theorem text09_any (n : Nat) : ∀ (w : World), n < 9223372036854775808 → Calls Tryz.prog 98 #[.int .i64 (n : Int)] w fun e w' => e = .returned (.string ⟨(Lib.decDigits n).toArray⟩) ∧ Below w.heap.size w w' := by
 have hle : ∀ n : Nat, (Lib.decDigits n).length ≤ n + 1 := fun n => by
  induction n using Nat.strongRecOn with
  | _ n ih =>
    rw [Lib.decDigits]
    split
    ·simp
    ·rw [List.length_append]
     have := ih (n / 10) (by omega)
     simp only [List.length_cons, List.length_nil]
     omega
 induction n using Nat.strongRecOn with
 | _ n ih =>
   intro w hn
   by_cases h : n < 10
   ·have HD := Lib.hid (show Lib.decDigits n = [UInt8.ofNat (48 + n % 10)] by rw [Lib.decDigits, dif_pos h, Nat.mod_eq_of_lt h])
    have h2 : (n : Int) < 10 := by omega
    have h3 : (0 : Int) ≤ (n : Int) := by omega
    clear ih hle
    go_enter Tryz.func98, Tryz.ntmps98
    go_wp2
    go_ret
    exact ⟨ret_str HD.out.symm, (Below.refl _ _).alloc (Nat.le_refl _) _⟩
   ·have HD := Lib.hid (show Lib.decDigits n = Lib.decDigits (n / 10) ++ [UInt8.ofNat (48 + n % 10)] by rw [Lib.decDigits, dif_neg h])
    have h2 : ¬ (n : Int) < 10 := by omega
    have h3 : (0 : Int) ≤ (n : Int) := by omega
    have hdl := hle (n / 10)
    have hdm : n / 10 + 1 ≤ 922337203685477582 := by omega
    obtain ⟨dd, hdd⟩ : ∃ dd, Lib.decDigits (n / 10) = dd := ⟨_, rfl⟩
    have HDD := Lib.hid hdd
    rw [hdd] at hdl
    have hdl2 : dd.length ≤ 922337203685477582 := by omega
    have HI := Lib.hid (fun w1 => ih (n / 10) (by omega) w1 (by omega))
    have HQ : Hid (((n / 10 : Nat) : Int) = (n : Int) / 10) := Lib.hid (by omega)
    clear ih hdd hdl hdm h hle
    go_enter Tryz.func98, Tryz.ntmps98
    go_wp2_with (go_at_call 98; rw [← HQ.out]; refine (HI.out _).mono ?_; rw [HDD.out]; rintro e w2 ⟨rfl, hb2⟩)
    go_ret
    exact ⟨ret_str (by rw [HD.out, HDD.out]; simp [UInt8.ofNat_add]), ((Below.refl _ _).alloc (Nat.le_refl _) _).trans (hb2.mono (by simp))⟩
theorem rtext_any (n : Int) (w : World) (h0 : 0 ≤ n) (h1 : n ≤ 1099511627776) :
 Calls Tryz.prog 98 #[.int .i64 n] w fun e w' => e = .returned (.string ⟨(decI n).toArray⟩) ∧ Below w.heap.size w w' := by
 have h9 := text09_any n.toNat w (by omega)
 rw [show ((n.toNat : Nat) : Int) = n by omega] at h9
 exact h9
/-- Within begun: the address, the token, the result. -/
structure BgS (w0 w : World) (T1 T2 : Nat) (a : Adr) (t : TokM) (cs : Array Value) : Prop where
 bel : Below w0.heap.size w0 w
 ab : Bx w w0.heap.size T1 #[.string ⟨a.host.toArray⟩, .string ⟨a.path.toArray⟩, .string ⟨a.query.toArray⟩, .bool a.has]
 tb : Bx w (w0.heap.size + 1) T2 #[.string ⟨t.id.toArray⟩, .int .i64 t.frm, .int .i64 t.til]
 rb : Bx w (w0.heap.size + 2) T1 cs
theorem BgS.older {w0 w w' : World} {T1 T2 : Nat} {a : Adr} {t : TokM} {cs : Array Value} (h : BgS w0 w T1 T2 a t cs) (hb : Below w.heap.size w w') : BgS w0 w' T1 T2 a t cs :=
 ⟨h.bel.trans (hb.mono h.bel.size), h.ab.older hb, h.tb.older hb, h.rb.older hb⟩
theorem BgS.setA {w0 w : World} {T1 T2 : Nat} {a : Adr} {t : TokM} {cs : Array Value} (h : BgS w0 w T1 T2 a t cs) (a' : Adr) :
 BgS w0 ((((w.setCell ⟨w0.heap.size, 0, none⟩ (.string ⟨a'.host.toArray⟩)).setCell ⟨w0.heap.size, 1, none⟩ (.string ⟨a'.path.toArray⟩)).setCell ⟨w0.heap.size, 2, none⟩ (.string ⟨a'.query.toArray⟩)).setCell ⟨w0.heap.size, 3, none⟩ (.bool a'.has)) T1 T2 a' t cs :=
 have st : ∀ {w : World} {R T i : Nat} {cs : Array Value} {u : Value}, Bx w R T cs → ¬ R = w0.heap.size → Bx (w.setCell ⟨w0.heap.size, i, none⟩ u) R T cs := fun h hne => h.touch (touch_set1 _ _ _ _) hne
 ⟨Box.set h.bel (Nat.le_refl _) _ _ _ _, (((h.ab.set 0 _).set 1 _).set 2 _).set 3 _,
  st (st (st (st h.tb (by omega)) (by omega)) (by omega)) (by omega), st (st (st (st h.rb (by omega)) (by omega)) (by omega)) (by omega)⟩
theorem BgS.facts {w0 w : World} {T1 T2 : Nat} {a : Adr} {t : TokM} {v0 v1 v2 v3 : Value} (h : BgS w0 w T1 T2 a t #[v0, v1, v2, v3]) :
 ((w.cell? ⟨w0.heap.size, 0, none⟩ = some (.string ⟨a.host.toArray⟩) ∧ w.cell? ⟨w0.heap.size, 1, none⟩ = some (.string ⟨a.path.toArray⟩) ∧ w.cell? ⟨w0.heap.size, 2, none⟩ = some (.string ⟨a.query.toArray⟩) ∧ w.cell? ⟨w0.heap.size, 3, none⟩ = some (.bool a.has)) ∧
  (w.frozen? ⟨w0.heap.size, 0, none⟩ = false ∧ w.frozen? ⟨w0.heap.size, 1, none⟩ = false ∧ w.frozen? ⟨w0.heap.size, 2, none⟩ = false ∧ w.frozen? ⟨w0.heap.size, 3, none⟩ = false)) ∧
 (w.cell? ⟨w0.heap.size + 1, 0, none⟩ = some (.string ⟨t.id.toArray⟩) ∧ w.cell? ⟨w0.heap.size + 1, 1, none⟩ = some (.int .i64 t.frm) ∧ w.cell? ⟨w0.heap.size + 1, 2, none⟩ = some (.int .i64 t.til)) ∧
 ((w.cell? ⟨w0.heap.size + 2, 0, none⟩ = some v0 ∧ w.cell? ⟨w0.heap.size + 2, 1, none⟩ = some v1 ∧ w.cell? ⟨w0.heap.size + 2, 2, none⟩ = some v2 ∧ w.cell? ⟨w0.heap.size + 2, 3, none⟩ = some v3) ∧
  (w.frozen? ⟨w0.heap.size + 2, 0, none⟩ = false ∧ w.frozen? ⟨w0.heap.size + 2, 1, none⟩ = false ∧ w.frozen? ⟨w0.heap.size + 2, 2, none⟩ = false ∧ w.frozen? ⟨w0.heap.size + 2, 3, none⟩ = false)) ∧ w0.heap.size + 2 < w.heap.size :=
 ⟨⟨⟨h.ab.cell (i := 0) rfl, h.ab.cell (i := 1) rfl, h.ab.cell (i := 2) rfl, h.ab.cell (i := 3) rfl⟩, ⟨h.ab.frz 0, h.ab.frz 1, h.ab.frz 2, h.ab.frz 3⟩⟩,
  ⟨h.tb.cell (i := 0) rfl, h.tb.cell (i := 1) rfl, h.tb.cell (i := 2) rfl⟩,
  ⟨⟨h.rb.cell (i := 0) rfl, h.rb.cell (i := 1) rfl, h.rb.cell (i := 2) rfl, h.rb.cell (i := 3) rfl⟩, ⟨h.rb.frz 0, h.rb.frz 1, h.rb.frz 2, h.rb.frz 3⟩⟩, h.rb.lt⟩
theorem begun_any (a : Adr) (t : TokM) (w : World) (hg : SgnAt w) (h3 : a.query.length ≤ 33554432) (hid : t.id.length ≤ 33554432) (hf0 : 0 ≤ t.frm) (hf1 : t.frm ≤ 1099511627776) (hu0 : 0 ≤ t.til) (hu1 : t.til ≤ 1099511627776) :
 Calls Tryz.prog 47 #[adV a, tkV t] w fun e w' => e = .returned (adV (Ad.begun a t)) ∧ Below w.heap.size w w' := by
 have HG := Lib.hid hg
 clear hg
 obtain ⟨h, p, q, b⟩ := a
 obtain ⟨id, frm, til⟩ := t
 simp only at h3 hid hf0 hf1 hu0 hu1
 have HW1 : Hid (∀ wz, Calls Tryz.prog 49 #[.agg #[.string ⟨h.toArray⟩, .string ⟨p.toArray⟩, .string ⟨q.toArray⟩, .bool b], .string ⟨(pK ++ id).toArray⟩] wz fun e w' => e = .returned (adV ((Adr.mk h p q b).plus (pK ++ id))) ∧ Below wz.heap.size wz w') := Lib.hid (fun wz => with_any ⟨h, p, q, b⟩ _ wz (by simp only; omega) (by simp [pK]; omega))
 have hl1 : ((Adr.mk h p q b).plus (pK ++ id)).query.length ≤ 67108900 := by cases b <;> simp [Adr.plus, pK] <;> omega
 obtain ⟨a1, ha1⟩ : ∃ x, (Adr.mk h p q b).plus (pK ++ id) = x := ⟨_, rfl⟩
 rw [ha1] at HW1 hl1
 obtain ⟨fs, hfs⟩ : ∃ x, decI frm = x := ⟨_, rfl⟩
 have hfl : fs.length ≤ 13 := by rw [← hfs]; exact decI_len hf1
 obtain ⟨us, hus⟩ : ∃ x, decI til = x := ⟨_, rfl⟩
 have hul : us.length ≤ 13 := by rw [← hus]; exact decI_len hu1
 obtain ⟨h1, p1, q1, b1⟩ := a1
 simp only at hl1
 have HW2 : Hid (∀ wz, Calls Tryz.prog 49 #[.agg #[.string ⟨h1.toArray⟩, .string ⟨p1.toArray⟩, .string ⟨q1.toArray⟩, .bool b1], .string ⟨(pF ++ fs).toArray⟩] wz fun e w' => e = .returned (adV ((Adr.mk h1 p1 q1 b1).plus (pF ++ fs))) ∧ Below wz.heap.size wz w') := Lib.hid (fun wz => with_any ⟨h1, p1, q1, b1⟩ _ wz (by simp only; omega) (by simp [pF]; omega))
 have hl2 : ((Adr.mk h1 p1 q1 b1).plus (pF ++ fs)).query.length ≤ 67109000 := by cases b1 <;> simp [Adr.plus, pF] <;> omega
 obtain ⟨a2, ha2⟩ : ∃ x, (Adr.mk h1 p1 q1 b1).plus (pF ++ fs) = x := ⟨_, rfl⟩
 rw [ha2] at HW2 hl2
 obtain ⟨h2, p2, q2, b2⟩ := a2
 simp only at hl2
 have HW3 : Hid (∀ wz, Calls Tryz.prog 49 #[.agg #[.string ⟨h2.toArray⟩, .string ⟨p2.toArray⟩, .string ⟨q2.toArray⟩, .bool b2], .string ⟨(pU ++ us).toArray⟩] wz fun e w' => e = .returned (adV ((Adr.mk h2 p2 q2 b2).plus (pU ++ us))) ∧ Below wz.heap.size wz w') := Lib.hid (fun wz => with_any ⟨h2, p2, q2, b2⟩ _ wz (by simp only; omega) (by simp [pU]; omega))
 obtain ⟨a3, ha3⟩ : ∃ x, (Adr.mk h2 p2 q2 b2).plus (pU ++ us) = x := ⟨_, rfl⟩
 rw [ha3] at HW3
 have HFIN := Lib.hid (show Ad.begun ⟨h, p, q, b⟩ ⟨id, frm, til⟩ = a3 by unfold Ad.begun; rw [ha1]; simp only; rw [hfs, ha2, hus, ha3])
 obtain ⟨h3', p3, q3, b3⟩ := a3
 have HIF : Hid (∀ wz, SgnAt wz → Calls Tryz.prog 43 #[.int .i64 frm] wz fun e w' => e = .returned (.string ⟨fs.toArray⟩) ∧ Below wz.heap.size wz w') := Lib.hid (fun wz hz => by have h9 := itoa_any frm wz hz hf0 hf1; rw [hfs] at h9; exact h9)
 have HIU : Hid (∀ wz, SgnAt wz → Calls Tryz.prog 43 #[.int .i64 til] wz fun e w' => e = .returned (.string ⟨us.toArray⟩) ∧ Below wz.heap.size wz w') := Lib.hid (fun wz hz => by have h9 := itoa_any til wz hz hu0 hu1; rw [hus] at h9; exact h9)
 have HS0 := Lib.hid (show BgS w (((w.alloc (.cells #[.string ⟨h.toArray⟩, .string ⟨p.toArray⟩, .string ⟨q.toArray⟩, .bool b] 27)).alloc (.cells #[.string ⟨id.toArray⟩, .int .i64 frm, .int .i64 til] 51)).alloc (.cells #[.string ⟨#[]⟩, .string ⟨#[]⟩, .string ⟨#[]⟩, .bool false] 27)) 27 51 ⟨h, p, q, b⟩ ⟨id, frm, til⟩ #[.string ⟨#[]⟩, .string ⟨#[]⟩, .string ⟨#[]⟩, .bool false] from
   ⟨(((Below.refl _ _).alloc (Nat.le_refl _) _).alloc (by simp) _).alloc (by simp; omega) _, ((Bx.new w _ _).older ((Below.refl _ _).alloc (Nat.le_refl _) _)).older ((Below.refl _ _).alloc (Nat.le_refl _) _),
    by have h9 := (Bx.new (w.alloc (.cells #[.string ⟨h.toArray⟩, .string ⟨p.toArray⟩, .string ⟨q.toArray⟩, .bool b] 27)) 51 #[.string ⟨id.toArray⟩, .int .i64 frm, .int .i64 til]).older ((Below.refl _ _).alloc (Nat.le_refl _) (.cells #[.string ⟨#[]⟩, .string ⟨#[]⟩, .string ⟨#[]⟩, .bool false] 27)); rw [show (w.alloc (.cells #[.string ⟨h.toArray⟩, .string ⟨p.toArray⟩, .string ⟨q.toArray⟩, .bool b] 27)).heap.size = w.heap.size + 1 by simp] at h9; exact h9,
    by have h9 := Bx.new ((w.alloc (.cells #[.string ⟨h.toArray⟩, .string ⟨p.toArray⟩, .string ⟨q.toArray⟩, .bool b] 27)).alloc (.cells #[.string ⟨id.toArray⟩, .int .i64 frm, .int .i64 til] 51)) 27 #[.string ⟨#[]⟩, .string ⟨#[]⟩, .string ⟨#[]⟩, .bool false]; rw [show ((w.alloc (.cells #[.string ⟨h.toArray⟩, .string ⟨p.toArray⟩, .string ⟨q.toArray⟩, .bool b] 27)).alloc (.cells #[.string ⟨id.toArray⟩, .int .i64 frm, .int .i64 til] 51)).heap.size = w.heap.size + 2 by simp] at h9; exact h9⟩)
 clear ha1 hfs hus ha2 ha3
 go_enter Tryz.func47, Tryz.ntmps47
 go_wp2_with (go_at_call 49; refine (HW1.out _).mono ?_; rintro e w2 ⟨rfl, hb2⟩; have HS2 := Lib.hid (HS0.out.older hb2); clear hb2; obtain ⟨⟨⟨c0, c1, c2, c3⟩, ⟨f0, f1, f2, f3⟩⟩, ⟨d0, d1, d2⟩, ⟨⟨e0, e1, e2, e3⟩, ⟨g0, g1, g2, g3⟩⟩, hz⟩ := HS2.out.facts)
 have HS3 := Lib.hid (HS2.out.setA ⟨h1, p1, q1, b1⟩)
 clear c0 c1 c2 c3 f0 f1 f2 f3 d0 d1 d2 e0 e1 e2 e3 g0 g1 g2 g3 hz
 obtain ⟨w3, hw3⟩ : ∃ x, ((((w2.setCell ⟨w.heap.size, 0, none⟩ (.string ⟨h1.toArray⟩)).setCell ⟨w.heap.size, 1, none⟩ (.string ⟨p1.toArray⟩)).setCell ⟨w.heap.size, 2, none⟩ (.string ⟨q1.toArray⟩)).setCell ⟨w.heap.size, 3, none⟩ (.bool b1)) = x := ⟨_, rfl⟩
 rw [hw3] at HS3 ⊢
 clear hw3 HS2 HS0
 obtain ⟨⟨⟨c0, c1, c2, c3⟩, ⟨f0, f1, f2, f3⟩⟩, ⟨d0, d1, d2⟩, ⟨⟨e0, e1, e2, e3⟩, ⟨g0, g1, g2, g3⟩⟩, hz⟩ := HS3.out.facts
 go_region_with (first
  | (go_at_call 43; refine (HIF.out _ (HG.out.below (HS3.out.bel.trans ((Below.refl _ _).drew.mono HS3.out.bel.size)))).mono ?_; rintro e w4 ⟨rfl, hb4⟩; have HS4 := Lib.hid ((HS3.out.older ((Below.refl _ _).drew)).older hb4); clear hb4; clear c0 c1 c2 c3 f0 f1 f2 f3 d0 d1 d2 e0 e1 e2 e3 g0 g1 g2 g3 hz; obtain ⟨⟨⟨c0, c1, c2, c3⟩, ⟨f0, f1, f2, f3⟩⟩, ⟨d0, d1, d2⟩, ⟨⟨e0, e1, e2, e3⟩, ⟨g0, g1, g2, g3⟩⟩, hz⟩ := HS4.out.facts)
  | (go_at_call 49; refine (HW2.out _).mono ?_; rintro e w5 ⟨rfl, hb5⟩; have HS5 := Lib.hid (HS4.out.older hb5); clear hb5; clear c0 c1 c2 c3 f0 f1 f2 f3 d0 d1 d2 e0 e1 e2 e3 g0 g1 g2 g3 hz; obtain ⟨⟨⟨c0, c1, c2, c3⟩, ⟨f0, f1, f2, f3⟩⟩, ⟨d0, d1, d2⟩, ⟨⟨e0, e1, e2, e3⟩, ⟨g0, g1, g2, g3⟩⟩, hz⟩ := HS5.out.facts))
 all_goals
   go_wp2_with fail
   have HS6 := Lib.hid (HS5.out.setA ⟨h2, p2, q2, b2⟩)
   clear c0 c1 c2 c3 f0 f1 f2 f3 d0 d1 d2 e0 e1 e2 e3 g0 g1 g2 g3 hz
   obtain ⟨w6, hw6⟩ : ∃ x, ((((w5.setCell ⟨w.heap.size, 0, none⟩ (.string ⟨h2.toArray⟩)).setCell ⟨w.heap.size, 1, none⟩ (.string ⟨p2.toArray⟩)).setCell ⟨w.heap.size, 2, none⟩ (.string ⟨q2.toArray⟩)).setCell ⟨w.heap.size, 3, none⟩ (.bool b2)) = x := ⟨_, rfl⟩
   rw [hw6] at HS6 ⊢
   clear hw6 HS5
   obtain ⟨⟨⟨c0, c1, c2, c3⟩, ⟨f0, f1, f2, f3⟩⟩, ⟨d0, d1, d2⟩, ⟨⟨e0, e1, e2, e3⟩, ⟨g0, g1, g2, g3⟩⟩, hz⟩ := HS6.out.facts
   go_region_with (first
    | (go_at_call 43; refine (HIU.out _ (HG.out.below (HS6.out.bel.trans ((Below.refl _ _).drew.mono HS6.out.bel.size)))).mono ?_; rintro e w7 ⟨rfl, hb7⟩; have HS7 := Lib.hid ((HS6.out.older ((Below.refl _ _).drew)).older hb7); clear hb7; clear c0 c1 c2 c3 f0 f1 f2 f3 d0 d1 d2 e0 e1 e2 e3 g0 g1 g2 g3 hz; obtain ⟨⟨⟨c0, c1, c2, c3⟩, ⟨f0, f1, f2, f3⟩⟩, ⟨d0, d1, d2⟩, ⟨⟨e0, e1, e2, e3⟩, ⟨g0, g1, g2, g3⟩⟩, hz⟩ := HS7.out.facts)
    | (go_at_call 49; refine (HW3.out _).mono ?_; rintro e w8 ⟨rfl, hb8⟩; have HS8 := Lib.hid (HS7.out.older hb8); clear hb8; clear c0 c1 c2 c3 f0 f1 f2 f3 d0 d1 d2 e0 e1 e2 e3 g0 g1 g2 g3 hz; obtain ⟨⟨⟨c0, c1, c2, c3⟩, ⟨f0, f1, f2, f3⟩⟩, ⟨d0, d1, d2⟩, ⟨⟨e0, e1, e2, e3⟩, ⟨g0, g1, g2, g3⟩⟩, hz⟩ := HS8.out.facts))
   all_goals
     go_wp2_with fail
     have hr := ((((HS8.out.rb.set 0 (.string ⟨h3'.toArray⟩)).set 1 (.string ⟨p3.toArray⟩)).set 2 (.string ⟨q3.toArray⟩)).set 3 (.bool b3))
     have z0 := hr.cell (i := 0) rfl
     have z1 := hr.cell (i := 1) rfl
     have z2 := hr.cell (i := 2) rfl
     have z3 := hr.cell (i := 3) rfl
     refine bodyPost_ret (v := adV ⟨h3', p3, q3, b3⟩) (by simp [results, Tryz.results47, go_sem, z0, z1, z2, z3]) rfl ⟨by rw [HFIN.out], ?_⟩
     exact Box.set HS8.out.bel (by omega) _ _ _ _
end Sg
end Go.Proofs.YtpkhbhdidkkebaaGreatDoor
end

