/- Contract: the gate's Apply. Conditions: at most a million entries; numbers from -2^50 to 2^50; values of at most 2^27 bytes. -/
import Derived.Test.YtnppicekfjdefaaGreatDoorGateE
import Derived.Test.YtnppicekfjdefaaGreatDoorPlogY
namespace Go.Proofs.YtnppicekfjdefaaGreatDoor
open Go.RowKit Pl Ad Go.Maps
attribute [local go_sem] ba_get ba_append ba_extract_end ba_extract_zero ba_extract
set_option maxRecDepth 100000
set_option maxHeartbeats 8000000
set_option linter.unusedVariables false
set_option linter.unusedSimpArgs false
namespace A1
/-- A law's gate on its way: the law began at w0. -/
structure GRun (w0 w : World) (R M : Nat) (v : Value) (g : GateM) : Prop where
  bel : Below w0.heap.size w0 w
  gate : GateAt w w0.heap.size R M v g g.aside
  ok : g.Ok
theorem GRun.older {w0 w w' : World} {R M : Nat} {v : Value} {g : GateM} (h : GRun w0 w R M v g) (hb : Below w.heap.size w w') : GRun w0 w' R M v g := ⟨h.bel.trans (hb.mono h.bel.size), h.gate.older hb, h.ok⟩
theorem GRun.goes {w0 w w' : World} {R M : Nat} {v v' : Value} {g g' : GateM} (h : GRun w0 w R M v g) (hg : GateAt w' w0.heap.size R M v' g' g'.aside) (hs : GGoes w w' R M v v') (ho : g'.Ok) : GRun w0 w' R M v' g' :=
  ⟨h.bel.trans (hs.touch.below h.bel.size fun i hi => by
    rcases hi with rfl | rfl | hi
    · exact h.gate.hR
    · exact h.gate.hM
    · exact (h.gate.own.lt i hi).1), hg, ho⟩
/-- A block that is none of the gate's. -/
def Apart (R M : Nat) (v u : Value) : Prop := ∀ q, u.ownBlock = some q → ¬ (q = R ∨ q = M ∨ v.ownBlock = some q)
theorem Apart.goes {w w' : World} {R M : Nat} {v v' u : Value} (h : Apart R M v u) (hs : GGoes w w' R M v v') (hu : ∀ q, u.ownBlock = some q → q < w.heap.size) : Apart R M v' u := fun q hq hs2 => by
  rcases hs2 with h1 | h1 | h1
  · exact h q hq (.inl h1)
  · exact h q hq (.inr (.inl h1))
  · rcases hs.lies q h1 with h2 | h2
    · exact h q hq (.inr (.inr h2))
    · have := hu q hq; omega
theorem rows_lt {w : World} {u : Value} {l : List Pg} (h : RowsV pcells 3 w u l) (hz : 0 < l.length) : ∀ q, u.ownBlock = some q → q < w.heap.size := fun q hq => by
  rcases h with ⟨rfl, _⟩ | ⟨b, o, c, rfl, _, hb, _⟩
  · simp at hz
  · simp [Value.ownBlock] at hq
    omega
theorem apply_step {g : GateM} {n : Int} {l : List Pg} {k : Nat} (hk : k < l.length) (hc : checkN l[k] = 0) (hn : n ≤ 1099511627776) : g.apply n (l.drop k) = (g.one n l[k]).apply (n + 1) (l.drop (k + 1)) := by
  rw [drop_cons hk, GateM.apply, if_pos ⟨hc, hn⟩]
theorem apply_stop {g : GateM} {n : Int} {l : List Pg} {k : Nat} (hk : k < l.length) (h : ¬ (checkN l[k] = 0 ∧ n ≤ 1099511627776)) : g.apply n (l.drop k) = g := by
  rw [drop_cons hk, GateM.apply, if_neg h]
theorem addI_keep {g : GateM} (ho : g.Ok) {p : Pg} (hp : p.value.length ≤ 134217728) (ha : g.applied + 1 ≤ 1099511627776) : AddI (g.keep p) true g g.aside p :=
  .go g g.aside p ho.near hp ha (fun e he => by have := (ho.far e he).1; omega) (by
    have hf : g.aside.filter (fun e => !(e.1 == g.applied + 1)) = g.aside := by
      rw [List.filter_eq_self]
      intro e he
      have := (ho.far e he).1
      simp; omega
    rw [hf]
    rfl)
/-- The state of the loop. -/
structure ApS (w0 w wr : World) (R M : Nat) (v v' u : Value) (g : GateM) (l : List Pg) : Prop where
  run : GRun w0 wr R M v' g
  goes : GGoes w wr R M v v'
  rows : RowsV pcells 3 wr u l
  apart : Apart R M v' u
theorem ApS.older {w0 w wr w' : World} {R M : Nat} {v v' u : Value} {g : GateM} {l : List Pg} (h : ApS w0 w wr R M v v' u g l) (hb : Below wr.heap.size wr w') : ApS w0 w w' R M v v' u g l := ⟨h.run.older hb, h.goes.older hb, h.rows.below hb, h.apart⟩
theorem ApS.gate {w0 w wr w' : World} {R M : Nat} {v v1 v2 u : Value} {g g' : GateM} {l : List Pg} (h : ApS w0 w wr R M v v1 u g l) (hz : 0 < l.length) (hg : GateAt w' w0.heap.size R M v2 g' g'.aside) (hs : GGoes wr w' R M v1 v2) (ho : g'.Ok) : ApS w0 w w' R M v v2 u g' l :=
  ⟨h.run.goes hg hs ho, h.goes.trans hs, h.rows.touch hs.touch h.apart, h.apart.goes hs (rows_lt h.rows hz)⟩
theorem apply_any (w0 w : World) (R M : Nat) (v u : Value) (g : GateM) (n : Int) (l : List Pg) (h : GRun w0 w R M v g) (hr : Ready w0) (hu : RowsV pcells 3 w u l) (hap : Apart R M v u) (hs : ∀ p ∈ l, p.value.length ≤ 134217728) (hl : l.length ≤ 1000000) (hn1 : -1125899906842624 ≤ n) (hn2 : n ≤ 1125899906842624) :
    Calls Tryz.prog 17 #[ptrV R, .int .i64 n, u] w fun e w' => ∃ v', e = .returned (.int .i64 (g.apply n l).applied) ∧ GRun w0 w' R M v' (g.apply n l) ∧ GGoes w w' R M v v' := by
  obtain ⟨ua, uc, rfl, _⟩ := hu.form
  have HS := Lib.hid (show ApS w0 w w R M v v (.slice ua l.length uc) g l from ⟨h, GGoes.of_below (Below.refl _ _), hu, hap⟩)
  have HSZ := Lib.hid hs
  have HR := Lib.hid hr
  clear h hu hap hs
  go_enter Tryz.func17, Tryz.ntmps17
  go_wp2
  go_loopw [14] (fun iv wr => ∃ (k : Nat) (g' : GateM) (v' : Value), k ≤ l.length ∧ iv = .int .i64 k ∧ Hid (g.apply n l = g'.apply (n + k) (l.drop k)) ∧ ApS w0 w wr R M v v' (.slice ua l.length uc) g' l) (fun iv _ => l.length - (intOf iv).toNat)
  case atStart => exact ⟨0, g, v, Nat.zero_le _, rfl, Lib.hid (by simp), HS.out⟩
  case round =>
    obtain ⟨k, g', v', hk, rfl, HH, s⟩ := hrel
    have HS1 := Lib.hid s
    have hg0 : 0 ≤ g'.applied := by have := s.run.ok.lo; have := s.run.ok.len; omega
    have hg1 := s.run.ok.hi
    by_cases hlt : k < l.length
    · obtain ⟨b, o, c, e, hc, hbz, hcell⟩ := s.rows.at hlt
      cases e
      have hpv := HSZ.out l[k] (List.getElem_mem hlt)
      have HST := Lib.hid (fun hc hn => apply_step (g := g') (n := n + k) (l := l) hlt hc hn)
      have HSP := Lib.hid (fun h => apply_stop (g := g') (n := n + k) (l := l) hlt h)
      have p0 := hcell 0 _ rfl
      have p1 := hcell 1 _ rfl
      have p2 := hcell 2 _ rfl
      rw [Nat.add_zero] at p0
      rw [← Nat.add_assoc] at p1 p2
      generalize l[k] = y at hpv p0 p1 p2 HST HSP
      obtain ⟨yk, yt, yv⟩ := y
      simp only at hpv p0 p1 p2
      have hal := (Below.refl wr.heap.size wr).alloc (Nat.le_refl _) (.cells #[.int .i64 yk, .int .i64 yt, .string ⟨yv.toArray⟩] 56)
      have HS2 := Lib.hid (s.older hal)
      have HX2 := Lib.hid (box3_new wr 56 (.int .i64 yk) (.int .i64 yt) (.string ⟨yv.toArray⟩))
      clear s hcell hal
      by_cases hbig : 1099511627776 < n + k
      · have HE := Lib.hid (HSP.out (by rintro ⟨_, h⟩; omega))
        have hbig2 : 1099511627776 - (k : Int) < n := by omega
        obtain ⟨⟨c0, c1, c2, c3, c4⟩, _, hzg⟩ := HS2.out.run.gate.box.facts
        go_wp2
        go_ret
        exact ⟨v', by rw [HH.out, HE.out]; rfl, by rw [HH.out, HE.out]; exact HS2.out.run, HS2.out.goes⟩
      · have hbig2 : ¬ 1099511627776 - (k : Int) < n := by omega
        by_cases hc : checkN ⟨yk, yt, yv⟩ = 0
        · have HC := Lib.hid (chkV_ok hc)
          have HST2 := Lib.hid (HST.out hc (by omega))
          clear hc
          by_cases h1 : n + (k : Int) ≤ g'.applied
          · have HO := Lib.hid (show g'.one (n + k) ⟨yk, yt, yv⟩ = g' from if_pos h1)
            go_wp2_with (go_at_call 35; refine (check_any ⟨yk, yt, yv⟩ _ (HR.out.below HS2.out.run.bel) hpv).mono ?_; rw [HC.out]; rintro e w3 ⟨rfl, hb3⟩; have HS3 := Lib.hid (HS2.out.older hb3); have HX3 := Lib.hid (HX2.out.older hb3); clear hb3; obtain ⟨⟨c0, c1, c2, c3, c4⟩, _, hzg⟩ := HS3.out.run.gate.box.facts; obtain ⟨⟨d0, d1, d2⟩, _, hzd⟩ := HX3.out.facts)
            go_roundw
            case rel => exact ⟨k + 1, g', v', by omega, by go_num, Lib.hid (by rw [HH.out, HST2.out, HO.out, show (n + ((k + 1 : Nat) : Int)) = n + k + 1 by omega]), HS3.out⟩
            case measure => simp [intOf]; omega
          · by_cases h2 : n + (k : Int) = g'.applied + 1
            · have HO := Lib.hid (show g'.one (n + k) ⟨yk, yt, yv⟩ = g'.keep ⟨yk, yt, yv⟩ by unfold GateM.one; rw [if_neg h1, if_pos h2])
              have HI := Lib.hid (addI_keep (p := ⟨yk, yt, yv⟩) HS1.out.run.ok hpv (by omega))
              have HK := Lib.hid (GateM.ok_keep HS1.out.run.ok (p := ⟨yk, yt, yv⟩) hpv (by omega))
              have hb2 : ((n + (k : Int)) == g'.applied + 1) = true := by simpa using h2
              clear h2
              go_wp2_with (first | (go_at_call 35; refine (check_any ⟨yk, yt, yv⟩ _ (HR.out.below HS2.out.run.bel) hpv).mono ?_; rw [HC.out]; rintro e w3 ⟨rfl, hb3⟩; have HS3 := Lib.hid (HS2.out.older hb3); have HX3 := Lib.hid (HX2.out.older hb3); clear hb3; obtain ⟨⟨c0, c1, c2, c3, c4⟩, _, hzg⟩ := HS3.out.run.gate.box.facts; obtain ⟨⟨d0, d1, d2⟩, _, hzd⟩ := HX3.out.facts) | (go_at_call 36; refine (add_any (B := w0.heap.size) (p := ⟨yk, yt, yv⟩) HS3.out.run.bel.size _ HS3.out.run.gate HI.out).mono ?_; rintro e w4 ⟨v4, rfl, hg4, hs4⟩))
              have HS4 := Lib.hid (HS3.out.gate (by omega) hg4 hs4 HK.out)
              clear hg4 hs4
              go_roundw
              case rel => exact ⟨k + 1, _, v4, by omega, by go_num, Lib.hid (by rw [HH.out, HST2.out, HO.out, show (n + ((k + 1 : Nat) : Int)) = n + k + 1 by omega]), HS4.out⟩
              case measure => simp [intOf]; omega
            · have HO := Lib.hid (show g'.one (n + k) ⟨yk, yt, yv⟩ = g'.put (n + k) ⟨yk, yt, yv⟩ by unfold GateM.one; rw [if_neg h1, if_neg h2])
              have hb2 : ((n + (k : Int)) == g'.applied + 1) = false := by simpa using h2
              have h3 : g'.applied + 1 < n + (k : Int) := by omega
              have HK := Lib.hid (GateM.ok_put HS1.out.run.ok (p := ⟨yk, yt, yv⟩) hpv h3 (by omega))
              clear h2
              go_wp2_with (first | (go_at_call 35; refine (check_any ⟨yk, yt, yv⟩ _ (HR.out.below HS2.out.run.bel) hpv).mono ?_; rw [HC.out]; rintro e w3 ⟨rfl, hb3⟩; have HS3 := Lib.hid (HS2.out.older hb3); have HX3 := Lib.hid (HX2.out.older hb3); clear hb3; obtain ⟨⟨c0, c1, c2, c3, c4⟩, _, hzg⟩ := HS3.out.run.gate.box.facts; obtain ⟨⟨d0, d1, d2⟩, _, hzd⟩ := HX3.out.facts) | (go_at_call 37; refine (put_any (B := w0.heap.size) (p := ⟨yk, yt, yv⟩) HS3.out.run.bel.size HS3.out.run.gate HS3.out.run.ok h3 (by omega)).mono ?_; rintro e w4 ⟨rfl, hg4, hs4⟩))
              have HS4 := Lib.hid (HS3.out.gate (by omega) hg4 hs4 HK.out)
              clear hg4 hs4
              go_roundw
              case rel => exact ⟨k + 1, _, v', by omega, by go_num, Lib.hid (by rw [HH.out, HST2.out, HO.out, show (n + ((k + 1 : Nat) : Int)) = n + k + 1 by omega]), HS4.out⟩
              case measure => simp [intOf]; omega
        · obtain ⟨cn, hcn⟩ : ∃ cn, checkN ⟨yk, yt, yv⟩ = cn := ⟨_, rfl⟩
          have HC := Lib.hid (chkV_err hcn (by rw [← hcn]; exact hc))
          have HE := Lib.hid (HSP.out (by rintro ⟨h, _⟩; exact hc h))
          clear hc hcn
          go_wp2_with (go_at_call 35; refine (check_any ⟨yk, yt, yv⟩ _ (HR.out.below HS2.out.run.bel) hpv).mono ?_; rw [HC.out]; rintro e w3 ⟨rfl, hb3⟩; have HS3 := Lib.hid (HS2.out.older hb3); have HX3 := Lib.hid (HX2.out.older hb3); clear hb3; obtain ⟨⟨c0, c1, c2, c3, c4⟩, _, hzg⟩ := HS3.out.run.gate.box.facts; obtain ⟨⟨d0, d1, d2⟩, _, hzd⟩ := HX3.out.facts)
          go_ret
          exact ⟨v', by rw [HH.out, HE.out]; rfl, by rw [HH.out, HE.out]; exact HS3.out.run, HS3.out.goes⟩
    · have HE := Lib.hid (show g.apply n l = g' by rw [HH.out, List.drop_of_length_le (by omega)]; rfl)
      obtain ⟨⟨c0, c1, c2, c3, c4⟩, _, hzg⟩ := s.run.gate.box.facts
      clear s
      go_wp2
      go_ret
      exact ⟨v', by rw [HE.out]; rfl, by rw [HE.out]; exact HS1.out.run, HS1.out.goes⟩
end A1
end Go.Proofs.YtnppicekfjdefaaGreatDoor
