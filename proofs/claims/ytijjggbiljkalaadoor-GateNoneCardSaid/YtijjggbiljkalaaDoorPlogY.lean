/- Contract: the laws' play over the log of purges. Conditions: at most a million purges in all. A row of cells that is written from end to end (the laws blank what they were handed). No condition. -/
import Derived.Test.YtijjggbiljkalaaDoorPlogF
import Derived.Test.YtijjggbiljkalaaDoorActs
import Derived.Deep.DeepCutAuto
section
namespace Go.Proofs.YtijjggbiljkalaaDoor
open Go.RowKit Pl Ad
attribute [local go_sem] ba_get ba_append ba_extract_end ba_extract_zero ba_extract
set_option maxRecDepth 100000
set_option maxHeartbeats 4000000
set_option linter.unusedVariables false
namespace A1
theorem Goes.trans {w w1 w2 : World} {R : Nat} {v v1 v2 : Value} (h : Goes w w1 R v v1) (k : Goes w1 w2 R v1 v2) : Goes w w2 R v v2 :=
  ⟨h.touch.trans' k.touch fun i hi hs => by
    rcases hs with hs | hs
    · exact .inl hs
    · rcases h.lies i hs with h1 | h1
      · exact .inr h1
      · omega,
   fun q hq => by
    rcases k.lies q hq with h1 | h1
    · exact h.lies q h1
    · exact .inr (Nat.le_trans h.touch.size h1)⟩
theorem Goes.older {w w1 w2 : World} {R : Nat} {v v1 : Value} (h : Goes w w1 R v v1) (hb : Below w1.heap.size w1 w2) : Goes w w2 R v v1 := h.trans (Goes.of_below hb)
/-- A round's state: the log, the reference's log, the two boxes. -/
structure PlayS (w0 w wr : World) (R G : Nat) (v v' u' : Value) (L' : LogM) : Prop where
  run : Run w0 wr R v' L'
  ref : RefOwn wr w0.heap.size u' L'
  goes : Goes w wr R v v'
  box : Box3 wr G 51 u' (.int .i64 L'.dropped) (.int .i64 L'.win)
  res : Box3 wr (G + 1) 51 (.slice none 0 0) (.int .i64 0) (.int .i64 0)
theorem PlayS.older {w0 w w1 w2 : World} {R G : Nat} {v v' u' : Value} {L' : LogM} (h : PlayS w0 w w1 R G v v' u' L') (hb : Below w1.heap.size w1 w2) : PlayS w0 w w2 R G v v' u' L' :=
  ⟨h.run.older hb, h.ref.older hb, h.goes.older hb, h.box.older hb, h.res.older hb⟩
/-- The log moves on, the reference's stands. -/
theorem PlayS.log {w0 w w1 w2 : World} {R G : Nat} {v v' v2 u' : Value} {L' L2 : LogM} (h : PlayS w0 w w1 R G v v' u' L') (hg : Goes w1 w2 R v' v2) (hr : Run w0 w2 R v2 L2) :
    Run w0 w2 R v2 L2 ∧ RefOwn w2 w0.heap.size u' L' ∧ Goes w w2 R v v2 ∧ Box3 w2 G 51 u' (.int .i64 L'.dropped) (.int .i64 L'.win) ∧ Box3 w2 (G + 1) 51 (.slice none 0 0) (.int .i64 0) (.int .i64 0) :=
  ⟨hr, h.ref.goes h.run.log hg, h.goes.trans hg,
   h.box.goes hg (box_ne h.box h.run.log.box (by decide)) (fun e => own_neT h.box h.run.log.own (by decide) G e rfl),
   h.res.goes hg (box_ne h.res h.run.log.box (by decide)) (fun e => own_neT h.res h.run.log.own (by decide) (G + 1) e rfl)⟩
theorem play_len (L : LogM) (acts : List LAct) : ∀ k, (L.play (acts.take k)).all.length ≤ L.all.length + k
  | 0 => by simp [LogM.play]
  | k + 1 => by
    have h := play_len L acts k
    by_cases hk : k < acts.length
    · rw [LogM.play_snoc L hk]
      have := LogM.act_len (L.play (acts.take k)) acts[k]
      omega
    · rw [List.take_of_length_le (by omega)]
      rw [List.take_of_length_le (by omega)] at h
      omega
theorem run_shrink (w0 w : World) (R : Nat) (v : Value) (L : LogM) (n : Int) (h : Run w0 w R v L) (hl : L.all.length ≤ 1000000) :
    Calls Tryd.prog 39 #[ptrV R, .int .i64 n] w fun e w' => ∃ v', e = .returned (.tuple #[]) ∧ Run w0 w' R v' (L.cut n) ∧ Goes w w' R v v' :=
  (plogShrink_any w0.heap.size R v L n w h.log h.bel.size h.ok hl).mono fun e w' he => by
    obtain ⟨V, h1, h2, h3⟩ := he
    exact ⟨V, h1, h.goes h2 h3 (LogM.ok_cut h.ok n), h3⟩

theorem LogAt.touch {w w' : World} {B R G T : Nat} {v a b c : Value} {L : LogM} (h : LogAt w B R v L) (hG : Box3 w G T a b c) (h1 : T ≠ 100) (h2 : T ≠ 37) (ht : Touch (fun k => k = G) w w') : LogAt w' B R v L :=
  ⟨h.hR, box3_touch h.box ht (fun e => box_ne hG h.box h1 e.symm), h.own.touch ht fun q hq hs => own_neT hG h.own h2 q hq hs⟩
/-- The reference's log is stored. -/
theorem playS_store {w0 w w2 : World} {R G : Nat} {v0 v u a b c : Value} {L : LogM} (hr : Run w0 w2 R v L) (hu : RefOwn w2 w0.heap.size u L) (hg : Goes w w2 R v0 v) (hb : Box3 w2 G 51 a b c) (hs : Box3 w2 (G + 1) 51 (.slice none 0 0) (.int .i64 0) (.int .i64 0)) (h1 : w.heap.size ≤ G) (h0 : w0.heap.size ≤ w.heap.size) :
    PlayS w0 w (((w2.setCell ⟨G, 0, none⟩ u).setCell ⟨G, 1, none⟩ (.int .i64 L.dropped)).setCell ⟨G, 2, none⟩ (.int .i64 L.win)) R G v0 v u L := by
  have ht := touch_set3 w2 G u (.int .i64 L.dropped) (.int .i64 L.win)
  have h9 : w0.heap.size ≤ G := Nat.le_trans h0 h1
  exact ⟨⟨((hr.bel.setCell (p := ⟨G, 0, none⟩) h9 _).setCell (p := ⟨G, 1, none⟩) h9 _).setCell (p := ⟨G, 2, none⟩) h9 _, hr.log.touch hb (by decide) (by decide) ht, hr.ok⟩,
    OwnWin.touch hu ht (fun q hq hs => own_neT hb hu (by decide) q hq hs),
    ⟨((hg.touch.setNew (a := ⟨G, 0, none⟩) h1 _).setNew (a := ⟨G, 1, none⟩) h1 _).setNew (a := ⟨G, 2, none⟩) h1 _, hg.lies⟩,
    box3_set hb _ _ _, box3_touch hs ht (by omega)⟩
theorem run_app (w0 w : World) (R : Nat) (v : Value) (L : LogM) (p : Pg) (h : Run w0 w R v L) (hr : Ready w0) (hp : p.value.length ≤ 134217728) (hl : L.all.length < 1000000) :
    Calls Tryd.prog 22 #[ptrV R, pgV p] w fun e w' => ∃ v', e = .returned (.tuple #[.int .i64 (L.appN p), chkV p]) ∧ Run w0 w' R v' (L.app p) ∧ Goes w w' R v v' := by
  by_cases hc : checkN p = 0
  · refine (run_append w0 w R v L p h hr hc hp hl).mono fun e w' he => ?_
    obtain ⟨v', h1, h2, h3⟩ := he
    refine ⟨v', ?_, ?_, h3⟩
    · rw [h1, chkV_ok hc]; unfold LogM.appN; rw [if_pos hc]; rfl
    · unfold LogM.app; rw [if_pos hc]; exact h2
  · refine (plogAppend_err w0.heap.size R v L p w h.log (hr.below h.bel) hc hp).mono fun e w' he => ?_
    refine ⟨v, ?_, ?_, Goes.of_below he.2⟩
    · rw [he.1]; unfold LogM.appN; rw [if_neg hc]
    · unfold LogM.app; rw [if_neg hc]; exact h.older he.2
theorem refApp_any (B : Nat) (u : Value) (L : LogM) (p : Pg) (w : World) (hu : RefOwn w B u L) (ho : L.Ok) (hB : B ≤ w.heap.size) (hl : L.all.length < 1000000) (hp : p.value.length ≤ 134217728) :
    Calls Tryd.prog 54 #[refV u L, pgV p] w fun e w' => ∃ a c, e = .returned (.tuple #[.agg #[.slice a (L.app p).all.length c, .int .i64 (L.app p).dropped, .int .i64 (L.app p).win], .int .i64 (L.appN p), .int .i64 (checkN p)]) ∧ RefOwn w' B (.slice a (L.app p).all.length c) (L.app p) ∧ Below w.heap.size w w' := by
  by_cases hc : checkN p = 0
  · refine (plogRAppend_ok B u L p w hu ho hB hl hc hp).mono fun e w' he => ?_
    obtain ⟨V, h1, h2, h3⟩ := he
    obtain ⟨a, c, rfl, _⟩ := h2.form
    refine ⟨a, c, ?_, ?_, h3⟩
    · rw [h1, hc]; unfold LogM.appN LogM.app; rw [if_pos hc, if_pos hc]; rfl
    · unfold LogM.app; rw [if_pos hc]; exact OwnWin.mono h2 (fun q hq => Nat.le_trans hB (OwnWin.lt h2 q hq).1)
  · obtain ⟨a, c, rfl, _⟩ := hu.form
    refine (plogRAppend_err _ L p w ⟨_, _, rfl⟩ hc hp).mono fun e w' he => ?_
    refine ⟨a, c, ?_, ?_, he.2⟩
    · rw [he.1]; unfold LogM.appN LogM.app; rw [if_neg hc, if_neg hc]
    · unfold LogM.app; rw [if_neg hc]; exact OwnWin.older hu he.2
theorem cell_set3 {w : World} {q i g : Nat} {u : Value} (h : w.cell? ⟨q, i, none⟩ = some u) (hn : q ≠ g) (a b c : Value) : (((w.setCell ⟨g, 0, none⟩ a).setCell ⟨g, 1, none⟩ b).setCell ⟨g, 2, none⟩ c).cell? ⟨q, i, none⟩ = some u := (touch_set3 w g a b c).cell h hn
/-- Between the two stores of an Append. -/
structure MidS (w0 w wx : World) (R G : Nat) (v v2 u2 : Value) (L2 : LogM) (g : Nat) : Prop where
  run : Run w0 wx R v2 L2
  ref : RefOwn wx w0.heap.size u2 L2
  goes : Goes w wx R v v2
  box : ∃ a b c, Box3 wx G 51 a b c
  res : Box3 wx (G + 1) 51 (.slice none 0 0) (.int .i64 0) (.int .i64 0)
  mid : Box3 wx g 51 u2 (.int .i64 L2.dropped) (.int .i64 L2.win)
theorem midS_new {w0 w w3 : World} {R G : Nat} {v v2 u2 a b c : Value} {L2 : LogM} (hr : Run w0 w3 R v2 L2) (hu : RefOwn w3 w0.heap.size u2 L2) (hg : Goes w w3 R v v2) (hb : Box3 w3 G 51 a b c) (hs : Box3 w3 (G + 1) 51 (.slice none 0 0) (.int .i64 0) (.int .i64 0)) :
    MidS w0 w (w3.alloc (.cells #[u2, .int .i64 L2.dropped, .int .i64 L2.win] 51)) R G v v2 u2 L2 w3.heap.size :=
  have hn := (Below.refl _ w3).alloc (Nat.le_refl _) (.cells #[u2, .int .i64 L2.dropped, .int .i64 L2.win] 51)
  ⟨hr.older hn, hu.older hn, hg.older hn, ⟨a, b, c, hb.older hn⟩, hs.older hn, box3_new _ _ _ _ _⟩
/-- The box of the next log is stored: from a world where it has been made. -/
theorem midS_store {w0 w w3 : World} {R G g : Nat} {v v2 u2 a b c a' b' c' : Value} {L2 : LogM} (hr : Run w0 w3 R v2 L2) (hu : RefOwn w3 w0.heap.size u2 L2) (hg : Goes w w3 R v v2) (hb : Box3 w3 G 51 a b c) (hs : Box3 w3 (G + 1) 51 (.slice none 0 0) (.int .i64 0) (.int .i64 0)) (hm : Box3 w3 g 51 a' b' c') (h1 : w.heap.size ≤ g) (h0 : w0.heap.size ≤ w.heap.size) (n1 : G ≠ g) (n2 : G + 1 ≠ g) :
    MidS w0 w (((w3.setCell ⟨g, 0, none⟩ u2).setCell ⟨g, 1, none⟩ (.int .i64 L2.dropped)).setCell ⟨g, 2, none⟩ (.int .i64 L2.win)) R G v v2 u2 L2 g := by
  have ht := touch_set3 w3 g u2 (.int .i64 L2.dropped) (.int .i64 L2.win)
  have h9 : w0.heap.size ≤ g := Nat.le_trans h0 h1
  exact ⟨⟨((hr.bel.setCell (p := ⟨g, 0, none⟩) h9 _).setCell (p := ⟨g, 1, none⟩) h9 _).setCell (p := ⟨g, 2, none⟩) h9 _, hr.log.touch hm (by decide) (by decide) ht, hr.ok⟩,
    OwnWin.touch hu ht (fun q hq hs => own_neT hm hu (by decide) q hq hs),
    ⟨((hg.touch.setNew (a := ⟨g, 0, none⟩) h1 _).setNew (a := ⟨g, 1, none⟩) h1 _).setNew (a := ⟨g, 2, none⟩) h1 _, hg.lies⟩,
    ⟨a, b, c, box3_touch hb ht n1⟩, box3_touch hs ht n2, box3_set hm _ _ _⟩
/-- The result is stored. -/
theorem play_end {w0 w wr : World} {R G : Nat} {v v' u' : Value} {L' : LogM} (h : PlayS w0 w wr R G v v' u' L') (a b c : Value) (h1 : w.heap.size ≤ G) (h0 : w0.heap.size ≤ w.heap.size) :
    Run w0 (((wr.setCell ⟨G + 1, 0, none⟩ a).setCell ⟨G + 1, 1, none⟩ b).setCell ⟨G + 1, 2, none⟩ c) R v' L' ∧ RefOwn (((wr.setCell ⟨G + 1, 0, none⟩ a).setCell ⟨G + 1, 1, none⟩ b).setCell ⟨G + 1, 2, none⟩ c) w0.heap.size u' L' ∧ Goes w (((wr.setCell ⟨G + 1, 0, none⟩ a).setCell ⟨G + 1, 1, none⟩ b).setCell ⟨G + 1, 2, none⟩ c) R v v' := by
  have ht := touch_set3 wr (G + 1) a b c
  have h9 : w0.heap.size ≤ G + 1 := by omega
  have h8 : w.heap.size ≤ G + 1 := by omega
  exact ⟨⟨((h.run.bel.setCell (p := ⟨G + 1, 0, none⟩) h9 _).setCell (p := ⟨G + 1, 1, none⟩) h9 _).setCell (p := ⟨G + 1, 2, none⟩) h9 _, h.run.log.touch h.res (by decide) (by decide) ht, h.run.ok⟩,
    OwnWin.touch h.ref ht (fun q hq hs => own_neT h.res h.ref (by decide) q hq hs),
    ⟨((h.goes.touch.setNew (a := ⟨G + 1, 0, none⟩) h8 _).setNew (a := ⟨G + 1, 1, none⟩) h8 _).setNew (a := ⟨G + 1, 2, none⟩) h8 _, h.goes.lies⟩⟩
/-- An act's cells, at any world on the way. -/
theorem act_cells {w0 wx : World} {b o k : Nat} {y : LAct} (hb : Below w0.heap.size w0 wx) (hz : b < w0.heap.size) (hc : ∀ j u, (actC y)[j]? = some u → w0.cell? ⟨b, o + (k * 5 + j), none⟩ = some u) :
    wx.cell? ⟨b, o + k * 5, none⟩ = some (.bool y.sh) ∧ wx.cell? ⟨b, o + k * 5 + 1, none⟩ = some (.int .i64 y.n) ∧ wx.cell? ⟨b, o + k * 5 + 2, none⟩ = some (.int .i64 y.p.kind) ∧ wx.cell? ⟨b, o + k * 5 + 3, none⟩ = some (.int .i64 y.p.tenant) ∧ wx.cell? ⟨b, o + k * 5 + 4, none⟩ = some (.string ⟨y.p.value.toArray⟩) := by
  have g : ∀ j u, (actC y)[j]? = some u → wx.cell? ⟨b, o + (k * 5 + j), none⟩ = some u := fun j u hu => by rw [hb.cell (p := ⟨b, _, none⟩) hz]; exact hc j u hu
  exact ⟨g 0 _ rfl, g 1 _ rfl, g 2 _ rfl, g 3 _ rfl, g 4 _ rfl⟩
theorem play_any (w0 w : World) (R : Nat) (v va u : Value) (L : LogM) (acts : List LAct) (h : Run w0 w R v L) (hu : RefOwn w w0.heap.size u L) (hr : Ready w0) (ha : RowsV actC 5 w0 va acts) (hf : ∀ a ∈ acts, a.p.value.length ≤ 1200) (hn : L.all.length + acts.length ≤ 1000000) :
    Calls Tryd.prog 26 #[ptrV R, refV u L, va] w fun e w' => ∃ v' u', e = .returned (.tuple #[refV u' (L.play acts), .bool true]) ∧ Run w0 w' R v' (L.play acts) ∧ RefOwn w' w0.heap.size u' (L.play acts) ∧ Goes w w' R v v' := by
  have hb0 := ((Below.refl w.heap.size w).alloc (Nat.le_refl _) (.cells #[u, .int .i64 L.dropped, .int .i64 L.win] 51)).alloc (by simp) (.cells #[.slice none 0 0, .int .i64 0, .int .i64 0] 51)
  have hx0 := (box3_new w 51 u (.int .i64 L.dropped) (.int .i64 L.win)).alloc (.cells #[.slice none 0 0, .int .i64 0, .int .i64 0] 51)
  have hx1 := box3_new (w.alloc (.cells #[u, .int .i64 L.dropped, .int .i64 L.win] 51)) 51 (.slice none 0 0) (.int .i64 0) (.int .i64 0)
  rw [show (w.alloc (.cells #[u, .int .i64 L.dropped, .int .i64 L.win] 51)).heap.size = w.heap.size + 1 by simp] at hx1
  have HS := Lib.hid (show PlayS w0 w _ R w.heap.size v v u L from ⟨h.older hb0, hu.older hb0, Goes.of_below hb0, hx0, hx1⟩)
  have HF := Lib.hid hf
  have HA := Lib.hid ha
  have HS0 := Lib.hid h.bel.size
  have HLen : Hid (∀ k, (L.play (acts.take k)).all.length ≤ L.all.length + k) := Lib.hid (play_len L acts)
  obtain ⟨aa, ac, rfl, hac⟩ := ha.form
  obtain ⟨ua, uc, rfl, huc⟩ := hu.form
  clear hb0 hx0 hx1 hf ha h hu
  go_enter Tryd.func26, Tryd.ntmps26
  go_wp2
  go_loopw [8] (fun i wr => ∃ (k : Nat) (v' u' : Value), k ≤ acts.length ∧ i = .int .i64 k ∧ PlayS w0 w wr R w.heap.size (v) v' u' (L.play (acts.take k))) (fun i _ => acts.length - (intOf i).toNat)
  case atStart => exact ⟨0, _, _, Nat.zero_le _, rfl, HS.out⟩
  case round =>
    obtain ⟨k, v', u', hk, rfl, s⟩ := hrel
    have hl1 := HLen.out k
    obtain ⟨L', hL⟩ : ∃ L', L.play (acts.take k) = L' := ⟨_, rfl⟩
    rw [hL] at s hl1
    have HL := Lib.hid hL
    obtain ⟨ua', uc', rfl, _⟩ := s.ref.form
    have HS1 := Lib.hid s
    obtain ⟨⟨c0, c1, c2⟩, ⟨f0, f1, f2⟩, hz⟩ := s.box.facts
    obtain ⟨⟨d0, d1, d2⟩, ⟨j0, j1, j2⟩, hz1⟩ := s.res.facts
    clear s hL
    by_cases hlt : k < acts.length
    · have HSN := Lib.hid (LogM.play_snoc L hlt)
      have HFk := Lib.hid (HF.out acts[k] (List.getElem_mem hlt))
      obtain ⟨b, o, c, e, hc, hbz, hcell⟩ := HA.out.at hlt
      cases e
      rw [HL.out] at HSN
      generalize acts[k] = y at hcell HSN HFk
      have HC := Lib.hid hcell
      obtain ⟨p0, p1, p2, p3, p4⟩ := act_cells HS1.out.run.bel hbz hcell
      clear hcell
      obtain ⟨ys, yn, ⟨yk, yt, yv⟩⟩ := y
      cases ys with
      | true =>
        go_wp2_with fail
        refine (run_shrink w0 _ R v' L' yn HS1.out.run (by omega)).mono ?_
        rintro e w1 ⟨v1, rfl, hr1, hg1⟩
        obtain ⟨hr1, hu1, hg1, hb1, hs1⟩ := HS1.out.log hg1 hr1
        have HR1 := Lib.hid hr1
        have HU1 := Lib.hid hu1
        have HG1 := Lib.hid hg1
        have HB1 := Lib.hid hb1
        have HT1 := Lib.hid hs1
        obtain ⟨_, q1, _, _, _⟩ := act_cells hr1.bel hbz HC.out
        obtain ⟨⟨g0, g1, g2⟩, ⟨m0, m1, m2⟩, hz2⟩ := hb1.facts
        clear hr1 hu1 hg1 hb1 hs1
        go_wp2
        go_region_with ((go_at_call 53; refine (plogRShrink (.slice ua' L'.all.length uc') L' yn _ ⟨_, _, rfl⟩).mono ?_; rintro e w2 ⟨rfl, hb2⟩; obtain ⟨⟨x0, x1, x2⟩, ⟨n0, n1, n2⟩, hz3⟩ := (HB1.out.drew.older hb2).facts))
        all_goals
          go_wp2
          go_roundw
          case rel => exact ⟨k + 1, v1, .slice ua' L'.all.length uc', by omega, by go_num, by rw [HSN.out]; exact playS_store (L := L'.cut yn) (HR1.out.older (Below.refl _ _).drew |>.older hb2) ((HU1.out.drew).older hb2) ((HG1.out.older (Below.refl _ _).drew).older hb2) (HB1.out.drew.older hb2) (HT1.out.drew.older hb2) (Nat.le_refl _) HS0.out⟩
          case measure => simp [intOf]; omega
      | false =>
        have hyv : yv.length ≤ 134217728 := by have := HFk.out; simp only at this; omega
        clear HFk
        go_wp2_with (go_at_call 21; refine (of36_any ⟨yk, yt, yv⟩ _).mono ?_; rintro e w1 ⟨rfl, hb1⟩; have HS2 := Lib.hid (HS1.out.older hb1); clear hb1)
        refine (run_app w0 _ R v' L' ⟨yk, yt, yv⟩ HS2.out.run hr hyv (by omega)).mono ?_
        rintro e w2 ⟨v2, rfl, hr2, hg2⟩
        obtain ⟨hr2, hu2, hg2, hb2, hs2⟩ := HS2.out.log hg2 hr2
        have HR2 := Lib.hid hr2
        have HU2 := Lib.hid hu2
        have HG2 := Lib.hid hg2
        have HB2 := Lib.hid hb2
        have HT2 := Lib.hid hs2
        obtain ⟨_, _, q2, q3, q4⟩ := act_cells hr2.bel hbz HC.out
        obtain ⟨⟨g0, g1, g2⟩, ⟨m0, m1, m2⟩, hz2⟩ := hb2.facts
        have hb0 : b < w2.heap.size := Nat.lt_of_lt_of_le hbz HR2.out.bel.size
        have hB2 := HR2.out.bel.size
        have hl2 : L'.all.length < 1000000 := by omega
        clear hr2 hu2 hg2 hb2 hs2 p0 p1 p2 p3 p4
        go_upto_region 8 with fail
        go_cut [11, 12, 13] (fun s11 s12 s13 wx => ∃ (g : Nat) (a : Option Addr) (c : Nat), s11 = ptrV g ∧ s12 = .int .i64 (L'.appN ⟨yk, yt, yv⟩) ∧ s13 = .int .i64 (checkN ⟨yk, yt, yv⟩) ∧ MidS w0 w wx R w.heap.size v v2 (.slice a (L'.app ⟨yk, yt, yv⟩).all.length c) (L'.app ⟨yk, yt, yv⟩) g)
        case first =>
          go_region_held3 (fun w' => w'.cell? ⟨w.heap.size, 0, none⟩ = some (.slice ua' L'.all.length uc') ∧ w'.cell? ⟨w.heap.size, 1, none⟩ = some (.int .i64 L'.dropped) ∧ w'.cell? ⟨w.heap.size, 2, none⟩ = some (.int .i64 L'.win) ∧ w'.cell? ⟨b, o + k * 5 + 2, none⟩ = some (.int .i64 yk) ∧ w'.cell? ⟨b, o + k * 5 + 3, none⟩ = some (.int .i64 yt) ∧ w'.cell? ⟨b, o + k * 5 + 4, none⟩ = some (.string ⟨yv.toArray⟩)) (first | go_keep | exact ⟨x0, x1, x2, r2, r3, r4⟩ | exact ⟨cell_set3 x0 (by omega) _ _ _, cell_set3 x1 (by omega) _ _ _, cell_set3 x2 (by omega) _ _ _, cell_set3 r2 (by omega) _ _ _, cell_set3 r3 (by omega) _ _ _, cell_set3 r4 (by omega) _ _ _⟩)
            ((first
              | (go_at_call 54; refine (refApp_any w0.heap.size (.slice ua' L'.all.length uc') L' ⟨yk, yt, yv⟩ _ (OwnWin.drew (OwnWin.alloc HU2.out _)) HS2.out.run.ok (by simp; omega) hl2 hyv).mono ?_; rintro e w3 ⟨a3, c3, rfl, hu3, hb3⟩; have hR3 : Run w0 w3 R v2 _ := ((HR2.out.older ((Below.refl _ _).alloc (Nat.le_refl _) _)).older (Below.refl _ _).drew).older hb3; obtain ⟨_, _, r2, r3, r4⟩ := act_cells hR3.bel hbz HC.out; have hB3 : Box3 w3 w.heap.size 51 _ _ _ := (HB2.out.alloc _).drew.older hb3; obtain ⟨⟨x0, x1, x2⟩, ⟨y0, y1, y2⟩, hz3⟩ := hB3.facts; have hX3 : Box3 w3 w2.heap.size 51 _ _ _ := (box3_new w2 51 (.slice none 0 0) (.int .i64 0) (.int .i64 0)).drew.older hb3; obtain ⟨⟨i0, i1, i2⟩, ⟨l0, l1, l2⟩, hz4⟩ := hX3.facts)
              | (go_at_call 54; refine (refApp_any w0.heap.size (.slice ua' L'.all.length uc') L' ⟨yk, yt, yv⟩ _ (OwnWin.drew HU2.out) HS2.out.run.ok (by exact hB2) hl2 hyv).mono ?_; rintro e w3 ⟨a3, c3, rfl, hu3, hb3⟩; have hR3 : Run w0 w3 R v2 _ := (HR2.out.older (Below.refl _ _).drew).older hb3; obtain ⟨_, _, r2, r3, r4⟩ := act_cells hR3.bel hbz HC.out; have hB3 : Box3 w3 w.heap.size 51 _ _ _ := HB2.out.drew.older hb3; obtain ⟨⟨x0, x1, x2⟩, ⟨y0, y1, y2⟩, hz3⟩ := hB3.facts)))
          all_goals
            go_wp2
            go_meet
            first
              | exact ⟨w3.heap.size, a3, c3, rfl, rfl, rfl, midS_new hR3 hu3 ((HG2.out.older (Below.refl _ _).drew).older hb3) hB3 (HT2.out.drew.older hb3)⟩
              | exact ⟨w2.heap.size, a3, c3, rfl, rfl, rfl, midS_store hR3 hu3 (((HG2.out.older ((Below.refl _ _).alloc (Nat.le_refl _) _)).older (Below.refl _ _).drew).older hb3) hB3 ((HT2.out.alloc _).drew.older hb3) hX3 HG2.out.touch.size HS0.out (by omega) (by have := HT2.out.facts.2.2; omega)⟩
        case rest =>
          obtain ⟨g, a3, c3, rfl, rfl, rfl, s2⟩ := hcut
          obtain ⟨o0, o1, o2, hbx⟩ := s2.box
          obtain ⟨⟨x0, x1, x2⟩, ⟨y0, y1, y2⟩, hz3⟩ := hbx.facts
          obtain ⟨⟨t0, t1, t2⟩, _, hz4⟩ := s2.mid.facts
          have HM := Lib.hid s2
          have HBX := Lib.hid hbx
          clear s2 hbx
          go_wp2_with (go_at_call 23; refine (num_chk ⟨yk, yt, yv⟩ _).mono ?_; rintro e w4 ⟨rfl, rfl⟩)
          go_roundw
          case rel => exact ⟨k + 1, v2, _, by omega, by go_num, by rw [HSN.out]; exact playS_store (L := L'.app ⟨yk, yt, yv⟩) HM.out.run HM.out.ref HM.out.goes HBX.out HM.out.res (Nat.le_refl _) HS0.out⟩
          case measure => simp [intOf]; omega
    · go_wp2
      refine bodyPost_ret (v := .tuple #[.agg #[.slice ua' L'.all.length uc', .int .i64 L'.dropped, .int .i64 L'.win], .bool true]) (by simp [results, Tryd.results26, go_sem, d0, d1, d2]) rfl ?_
      have e : acts.take k = acts := List.take_of_length_le (by omega)
      have hL := HL.out
      rw [e] at hL
      rw [hL]
      exact ⟨v', .slice ua' L'.all.length uc', rfl, play_end HS1.out _ _ _ (Nat.le_refl _) HS0.out⟩
end A1
end Go.Proofs.YtijjggbiljkalaaDoor
end

section
namespace Go.Proofs.YtijjggbiljkalaaDoor
open Go.RowKit Pl Ad
namespace A1
/-- A block of at least n cells. -/
def RowAt (w : World) (g e n : Nat) : Prop := ∃ cur : Array Value, w.heap[g]? = some (.cells cur e (0, 0)) ∧ n ≤ cur.size
theorem RowAt.cell {w : World} {g e n i : Nat} (h : RowAt w g e n) (hi : i < n) : ∃ x, w.cell? ⟨g, i, none⟩ = some x := by
  obtain ⟨cur, h1, h2⟩ := h
  exact ⟨cur[i]'(by omega), by rw [cell_of_row w g i cur e (0, 0) h1]; exact Array.getElem?_eq_getElem (by omega)⟩
theorem RowAt.frozen {w : World} {g e n : Nat} (h : RowAt w g e n) (i : Nat) : w.frozen? ⟨g, i, none⟩ = false := by
  obtain ⟨cur, h1, _⟩ := h
  exact frozen_of_row w g i cur e h1
theorem RowAt.lt {w : World} {g e n : Nat} (h : RowAt w g e n) : g < w.heap.size := by
  obtain ⟨cur, h1, _⟩ := h
  exact (Array.getElem?_eq_some_iff.1 h1).1
theorem RowAt.set {w : World} {g e n : Nat} (h : RowAt w g e n) (i : Nat) (x : Value) : RowAt (w.setCell ⟨g, i, none⟩ x) g e n := by
  obtain ⟨cur, h1, h2⟩ := h
  unfold RowAt World.setCell
  simp only [Array.getElem?_modify, if_true, h1, Option.map_some]
  exact ⟨_, rfl, by simpa using h2⟩
theorem RowAt.older {w w' : World} {g e n : Nat} (h : RowAt w g e n) (hb : Below w.heap.size w w') : RowAt w' g e n := by
  obtain ⟨cur, h1, h2⟩ := h
  exact ⟨cur, (hb.block g (Array.getElem?_eq_some_iff.1 h1).1).trans h1, h2⟩
/-- A slice of the call's own that has elements is such a row. -/
theorem OwnWin.row {w : World} {B e n size b o c : Nat} {xs : List Value} (h : OwnWin w B e size (.slice (some ⟨b, o, none⟩) n c) n xs) : RowAt w b e (o + n * size) ∧ B ≤ b := by
  rcases h.2 with ⟨h1, _⟩ | ⟨g, o', cap, cur, h1, hb, hg, hc, hm, hs, _⟩
  · cases h1
  · cases h1
    have := Nat.mul_le_mul_right size hc
    exact ⟨⟨cur, hg, by omega⟩, hb⟩
end A1
end Go.Proofs.YtijjggbiljkalaaDoor
end
