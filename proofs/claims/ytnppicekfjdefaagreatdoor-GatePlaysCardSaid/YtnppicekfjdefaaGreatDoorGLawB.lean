/- Contract: the gate laws' do. Conditions: at most a million purges of at most 2^27 bytes. -/
import Derived.Test.YtnppicekfjdefaaGreatDoorGLawA
import Derived.Test.YtnppicekfjdefaaGreatDoorGateI
import Derived.Test.YtnppicekfjdefaaGreatDoorPlogI
namespace Go.Proofs.YtnppicekfjdefaaGreatDoor
open Go.RowKit Pl Ad Go.Maps
attribute [local go_sem] ba_get ba_append ba_extract_end ba_extract_zero ba_extract
set_option maxRecDepth 100000
set_option maxHeartbeats 4000000
set_option linter.unusedVariables false
set_option linter.unusedSimpArgs false
namespace Ad
def GateM.doA (g : GateM) (a : GAct) : GateM := if a.jump then g.jump a.first else g.apply (A1.clip50 a.first) a.list
end Ad
namespace A1
/-- Block q is none of the gate's. -/
structure GOff (w0 : World) (R M : Nat) (v : Value) (q : Nat) : Prop where
  r : ¬ q = R
  m : ¬ q = M
  own : ¬ v.ownBlock = some q
  old : w0.heap.size ≤ q
theorem GRun.set1 {w0 w : World} {R M q : Nat} {v : Value} {g : GateM} (h : GRun w0 w R M v g) (ho : GOff w0 R M v q) (i : Nat) (x : Value) : GRun w0 (w.setCell ⟨q, i, none⟩ x) R M v g := by
  have ht := touch_set1 w q i x
  refine ⟨h.bel.setCell (p := ⟨q, i, none⟩) ho.old x, ⟨h.gate.hR, h.gate.hM, ?_, h.gate.own.touch ht (fun k hk e => ho.own (e ▸ hk)), map_touch h.gate.map ht (fun e => ho.m e.symm)⟩, h.ok⟩
  exact (ht.block R h.gate.box.facts.2.2 (fun e => ho.r e.symm)).trans h.gate.box
theorem GGoes.set1 {w w1 : World} {R M q : Nat} {v v1 : Value} (h : GGoes w w1 R M v v1) (hq : w.heap.size ≤ q) (i : Nat) (x : Value) : GGoes w (w1.setCell ⟨q, i, none⟩ x) R M v v1 :=
  ⟨h.touch.trans' (touch_set1 w1 q i x) (fun k hk e => by subst e; omega), h.lies⟩
theorem map_lt {w : World} {P : Program} {k : TypeId} {b n : Nat} {D : DataW Unit} {R : Value → Option (DataW Unit × List MemPlace)} (h : w.ownsMap P k R b n D) : b < w.heap.size := by
  obtain ⟨es, clock, hb, _⟩ := h
  exact (Array.getElem?_eq_some_iff.1 hb).1
theorem do38_any (w0 w : World) (R M : Nat) (v u : Value) (g : GateM) (j : Bool) (n : Int) (l : List Pg) (h : GRun w0 w R M v g) (hr : Ready w0) (hu : RowsV pcells 3 w u l) (hs : ∀ p ∈ l, p.value.length ≤ 134217728) (hl : l.length ≤ 1000000) :
    Calls Tryz.prog 10 #[ptrV R, .agg #[.bool j, .int .i64 n, u]] w fun e w' => ∃ v', e = .returned (.int .i64 (g.doA ⟨j, n, u, l⟩).applied) ∧ GRun w0 w' R M v' (g.doA ⟨j, n, u, l⟩) ∧ GGoes w w' R M v v' := by
  obtain ⟨ua, uc, rfl, _⟩ := hu.form
  have hb0 := (Below.refl w.heap.size w).alloc (Nat.le_refl _) (.cells #[.bool j, .int .i64 n, .slice ua l.length uc] 37)
  have hbx := box3_new w 37 (.bool j) (.int .i64 n) (.slice ua l.length uc)
  have HG := Lib.hid (h.older hb0)
  have HGG := Lib.hid (GGoes.of_below (R := R) (M := M) (v := v) hb0)
  have HU := Lib.hid (hu.below hb0)
  have HX := Lib.hid hbx
  have HS := Lib.hid hs
  have HR := Lib.hid hr
  have hB := h.bel.size
  obtain ⟨⟨c0, c1, c2⟩, _, hz⟩ := hbx.facts
  clear h hb0 hbx hu hs hr
  cases j with
  | true =>
    rw [show g.doA ⟨true, n, .slice ua l.length uc, l⟩ = g.jump n from rfl]
    go_enter Tryz.func10, Tryz.ntmps10
    go_wp2_with fail
    refine (gateJump w0.heap.size R M v g n _ HG.out.gate HG.out.ok (by simp; omega)).mono ?_
    rintro e w2 ⟨v2, rfl, hg2, hs2⟩
    have HJ := Lib.hid hg2
    have HJS := Lib.hid hs2
    clear hg2 hs2
    go_wp2_with fail
    go_ret
    exact ⟨v2, rfl, HG.out.goes HJ.out HJS.out (GateM.ok_jump HG.out.ok n), HGG.out.trans HJS.out⟩
  | false =>
    rw [show g.doA ⟨false, n, .slice ua l.length uc, l⟩ = g.apply (clip50 n) l from rfl]
    have hc1 : -1125899906842624 ≤ clip50 n ∧ clip50 n ≤ 1125899906842624 := by unfold clip50; omega
    go_enter Tryz.func10, Tryz.ntmps10
    go_wp2_with fail
    refine (of38_any _ l _ HU.out hl).mono ?_
    rintro e w2 ⟨u2, rfl, hown, hb2⟩
    have HG2 := Lib.hid (HG.out.older hb2)
    have HGG2 := Lib.hid (HGG.out.trans (GGoes.of_below hb2))
    have HX2 := Lib.hid (HX.out.older hb2)
    have HO2 := Lib.hid hown
    obtain ⟨a2, q2, rfl, _⟩ := hown.form
    have HSZ := Lib.hid hb2.size
    obtain ⟨⟨d0, d1, d2⟩, _, hz2⟩ := HX2.out.facts
    clear hown hb2 c0 c1 c2
    have hAP : Apart R M v (.slice a2 l.length q2) := fun q hq hs2 => by
      have h1 := (HO2.out.lt q hq).1
      have h2 := HG.out.gate.box.facts.2.2
      have h3 := HG.out.gate.map
      rcases hs2 with h4 | h4 | h4
      · omega
      · have := map_lt HG.out.gate.map; omega
      · have := (HG.out.gate.own.lt q h4).2; omega
    have HAP := Lib.hid hAP
    clear hAP
    go_wp2_with (go_at_call 22; refine (first38_any _ _ _ _ rfl).mono ?_; rintro e w3 ⟨rfl, hb3⟩; have HG3 := Lib.hid (HG2.out.older hb3); have HGG3 := Lib.hid (HGG2.out.trans (GGoes.of_below hb3)); have HO3 := Lib.hid (HO2.out.older hb3); clear hb3)
    refine (apply_any w0 _ R M v (.slice a2 l.length q2) g (clip50 n) l HG3.out HR.out (rows_own HO3.out) HAP.out HS.out hl hc1.1 hc1.2).mono ?_
    rintro e w4 ⟨v4, rfl, hr4, hg4⟩
    have HG4 := Lib.hid hr4
    have HGG4 := Lib.hid (HGG3.out.trans hg4)
    have HZ4 := Lib.hid (ZRow.of (HO3.out.touch hg4.touch HAP.out))
    have HOFF : Hid (∀ q o, a2 = some ⟨q, o, none⟩ → GOff w0 R M v4 q ∧ w.heap.size ≤ q) := Lib.hid fun q o e => by
      subst e
      have h1 := HAP.out.goes hg4 (fun q hq => (HO3.out.lt q hq).2) q rfl
      have h2 := (HO3.out.lt q rfl).1
      have h3 : w.heap.size ≤ q := by simp at h2; omega
      exact ⟨⟨fun e => h1 (.inl e), fun e => h1 (.inr (.inl e)), fun e => h1 (.inr (.inr e)), by omega⟩, h3⟩
    clear hr4 hg4
    go_wp2_with fail
    go_loopw [7] (fun jv wr => ∃ k : Nat, k ≤ l.length ∧ jv = .int .i64 k ∧ GRun w0 wr R M v4 (g.apply (clip50 n) l) ∧ GGoes w wr R M v v4 ∧ ZRow wr 56 a2 l.length) (fun i _ => l.length - (intOf i).toNat)
    case atStart => exact ⟨0, Nat.zero_le _, rfl, HG4.out, HGG4.out, HZ4.out⟩
    case round =>
      obtain ⟨k, hk, rfl, s, t, z⟩ := hrel
      have HS7 := Lib.hid s
      have HT7 := Lib.hid t
      have HZ7 := Lib.hid z
      clear s t z
      by_cases hlt2 : k < l.length
      · obtain ⟨q, lo, c, e, _⟩ := HO3.out.cells (by omega)
        cases e
        have hrow := HZ7.out q lo rfl
        obtain ⟨y0, q0⟩ := hrow.cell (i := lo + k * 3) (by omega)
        obtain ⟨y1, q1⟩ := hrow.cell (i := lo + k * 3 + 1) (by omega)
        obtain ⟨y2, q2⟩ := hrow.cell (i := lo + k * 3 + 2) (by omega)
        have f0 := hrow.frozen (lo + k * 3)
        have f1 := hrow.frozen (lo + k * 3 + 1)
        have f2 := hrow.frozen (lo + k * 3 + 2)
        have HO7 := Lib.hid (HOFF.out q lo rfl)
        clear hrow
        go_wp2
        go_roundw
        case rel => exact ⟨k + 1, by omega, by go_num, ((HS7.out.set1 HO7.out.1 _ _).set1 HO7.out.1 _ _).set1 HO7.out.1 _ _, ((HT7.out.set1 HO7.out.2 _ _).set1 HO7.out.2 _ _).set1 HO7.out.2 _ _, ((HZ7.out.set _ _).set _ _).set _ _⟩
        case measure => simp [intOf]; omega
      · go_wp2
        go_ret
        exact ⟨v4, rfl, HS7.out, HT7.out⟩
end A1
end Go.Proofs.YtnppicekfjdefaaGreatDoor
