/- PROVED: PurgelogWindow returns true for every input and leaves its arguments as they were. No condition beyond the statement's own (the listed variables read as the program's text lays them, which the card ties). -/
import Derived.Test.YtijjggbiljkalaaDoorFrame
import Derived.Test.YtijjggbiljkalaaDoorClosed
import Derived.Test.YtijjggbiljkalaaDoorPlogI
import Derived.Test.YtijjggbiljkalaaDoorActs
namespace Go.Proofs.YtijjggbiljkalaaDoor.lawPurgelogWindow
open Go.ChangeShapes Go.WideShapes Go.ChangeAt Go.RowKit Pl Ad A1
open Go.ChangeMaps (open_string shut_string)
attribute [local go_sem] ba_get conv_one conv_one_drewN ba_append ba_extract
set_option maxRecDepth 100000
set_option maxHeartbeats 4000000
set_option linter.unusedVariables false

attribute [local go_sem] guard_pg eql_pg neq_pg
/-- The log after the first acts' purges (a Shrink counts as an Append here). -/
def feed (n : Nat) (l : List LAct) : LogM := l.foldl (fun L a => L.app a.p) (.start n)
theorem feed_snoc (n : Nat) {l : List LAct} {k : Nat} (hk : k < l.length) : feed n (l.take (k + 1)) = (feed n (l.take k)).app l[k].p := by
  unfold feed
  rw [List.take_succ_eq_append_getElem hk, List.foldl_append]
  rfl
theorem app_len (L : LogM) (p : Pg) : (L.app p).all.length ≤ L.all.length + 1 := by
  unfold LogM.app
  split
  · simp [LogM.push]
  · exact Nat.le_succ _
theorem feed_len (n : Nat) (l : List LAct) : ∀ k, (feed n (l.take k)).all.length ≤ k
  | 0 => by simp [feed, LogM.start]
  | k + 1 => by
    have h := feed_len n l k
    by_cases hk : k < l.length
    · rw [feed_snoc n hk]
      have := app_len (feed n (l.take k)) l[k].p
      omega
    · rw [List.take_of_length_le (by omega)]
      rw [List.take_of_length_le (by omega)] at h
      omega
theorem feed_drop (n : Nat) (l : List LAct) : ∀ k, (feed n (l.take k)).dropped = (feed n (l.take k)).all.length - n ∧ (feed n (l.take k)).win = n
  | 0 => by simp [feed, LogM.start]
  | k + 1 => by
    have h := feed_drop n l k
    by_cases hk : k < l.length
    · rw [feed_snoc n hk]
      unfold LogM.app
      split
      · refine ⟨?_, h.2⟩
        show max (feed n (l.take k)).dropped ((feed n (l.take k)).all.length + 1 - (feed n (l.take k)).win) = ((feed n (l.take k)).all ++ [l[k].p]).length - n
        rw [h.2, h.1, List.length_append]
        simp; omega
      · exact h
    · rw [List.take_of_length_le (by omega)]
      rw [List.take_of_length_le (by omega)] at h
      exact h
/-- The log, and the slice of what it has accepted. -/
structure WinS (w wr : World) (R : Nat) (v u : Value) (L : LogM) : Prop where
  run : Run w wr R v L
  own : OwnWin wr w.heap.size 37 3 u L.all.length (pvals L.all)
  sep : ∀ q, u.ownBlock = some q → ¬ v.ownBlock = some q
theorem WinS.older {w wr w' : World} {R : Nat} {v u : Value} {L : LogM} (h : WinS w wr R v u L) (hb : Below wr.heap.size wr w') : WinS w w' R v u L := ⟨h.run.older hb, h.own.older hb, h.sep⟩
/-- The log moves on. -/
theorem WinS.log {w wr w' : World} {R : Nat} {v v' u : Value} {L : LogM} (h : WinS w wr R v u L) (hg : Goes wr w' R v v') : OwnWin w' w.heap.size 37 3 u L.all.length (pvals L.all) ∧ ∀ q, u.ownBlock = some q → ¬ v'.ownBlock = some q :=
  ⟨h.own.touch hg.touch fun q hq hs => by
      rcases hs with hs | hs
      · exact own_neT h.run.log.box h.own (by decide) q hq hs
      · exact h.sep q hq hs,
   fun q hq hv => by
      rcases hg.lies q hv with h1 | h1
      · exact h.sep q hq h1
      · have := (h.own.lt q hq).2; omega⟩
theorem own_push {w : World} {B : Nat} {u : Value} {L : LogM} {k t : Int} {s : Bs} (h : OwnWin w B 37 3 u (L.all.length + 1) (pvals L.all ++ [.int .i64 k, .int .i64 t, .string ⟨s.toArray⟩])) : OwnWin w B 37 3 u (L.push ⟨k, t, s⟩).all.length (pvals (L.push ⟨k, t, s⟩).all) := by
  have e : pvals (L.push ⟨k, t, s⟩).all = pvals L.all ++ [.int .i64 k, .int .i64 t, .string ⟨s.toArray⟩] := by
    show pvals (L.all ++ [⟨k, t, s⟩]) = _
    rw [pvals_append, pvals_one]; rfl
  have e2 : (L.push ⟨k, t, s⟩).all.length = L.all.length + 1 := by
    show (L.all ++ [_]).length = _
    simp
  rw [e, e2]; exact h
/-- The slice follows. -/
theorem WinS.app {w wx w' : World} {R : Nat} {v u u' : Value} {L' : LogM} {o : Obj} {T : List Value} {n : Nat} (hr : Run w wx R v L') (ho : OwnWin wx w.heap.size 37 3 u n T) (hs : ∀ q, u.ownBlock = some q → ¬ v.ownBlock = some q) (hg : (wx.alloc o).grownBy w' u.ownBlock)
    (hl : u'.ownBlock = u.ownBlock ∨ u'.ownBlock = some (wx.alloc o).heap.size) (ho' : OwnWin w' w.heap.size 37 3 u' L'.all.length (pvals L'.all)) : WinS w w' R v u' L' := by
  have hb := hr.bel.size
  have ht : Touch (fun k => u.ownBlock = some k) wx w' := ((Touch.refl _ wx).alloc o).trans' (Touch.of_grown (S := fun k => u.ownBlock = some k) hg (fun k hk => hk)) (fun i _ h => h)
  refine ⟨⟨hr.bel.trans (ht.below hb fun i hi => (ho.lt i hi).1), ⟨hr.log.hR, (ht.block R hr.log.box.facts.2.2 (fun hq => own_neT hr.log.box ho (by decide) R hq rfl)).trans hr.log.box, hr.log.own.touch ht fun q hq hu => hs q hu hq⟩, hr.ok⟩, ho', fun q hq hv => ?_⟩
  rcases hl with h1 | h1
  · exact hs q (by rw [← h1]; exact hq) hv
  · rw [h1] at hq
    cases hq
    have := (hr.log.own.lt _ hv).2
    simp at this
    omega
theorem getP_win {L : LogM} {j : Nat} (h1 : L.dropped ≤ j) (h2 : j < L.all.length) : L.getC ((j : Int) + 1) = 0 ∧ getP L ((j : Int) + 1) = L.all[j] := by
  have h : L.getC ((j : Int) + 1) = 0 := by unfold LogM.getC; rw [if_neg (by omega), if_neg (by omega)]
  exact ⟨h, getP_at h h2⟩

theorem walk_big (m : Int) (va : Option Addr) (vc : Nat) (acts : List LAct) (w : World) (hr : Ready w) (hv : RowsV actC 5 w (.slice va acts.length vc) acts) (hl : acts.length ≤ 9223372036854775807) (hf : fitsA acts = false) :
    Calls Tryd.prog 4 #[.int .u8 m, .slice va acts.length vc] w fun e w' => e = .returned (.bool true) ∧ Below w.heap.size w w' := by
  have HF := Lib.hid hf
  have HV := Lib.hid hv
  clear hf hv
  go_enter Tryd.func4, Tryd.ntmps4
  go_wp2_with fail
  refine (awake37_any _ hr).mono ?_
  rintro e w1 ⟨rfl, hb1⟩
  have HB1 := Lib.hid hb1
  clear hb1
  go_wp2_with fail
  refine (fits37_any (.slice va acts.length vc) acts _ (HV.out.below HB1.out) hl).mono ?_
  rw [HF.out]
  rintro e w2 ⟨rfl, rfl⟩
  go_wp2_with (go_at_call 14; refine (awake37_any _ (hr.below HB1.out)).mono ?_; rintro e w3 ⟨rfl, hb3⟩)
  go_ret
  exact ⟨rfl, HB1.out.trans (hb3.mono HB1.out.size)⟩
theorem walk_ok (m : Int) (va : Option Addr) (vc : Nat) (acts : List LAct) (w : World) (hr : Ready w) (hv : RowsV actC 5 w (.slice va acts.length vc) acts) (hl : acts.length ≤ 9223372036854775807) (h0 : 0 ≤ m) (h255 : m < 256) (hf : fitsA acts = true) :
    Calls Tryd.prog 4 #[.int .u8 m, .slice va acts.length vc] w fun e w' => e = .returned (.bool true) ∧ Below w.heap.size w w' := by
  have hl60 := (fitsA_true hf).2
  have HA := Lib.hid (fitsA_true hf).1
  have HF := Lib.hid hf
  have HV := Lib.hid hv
  have HRA : Hid (∀ w', Below w.heap.size w w' → Ready w') := Lib.hid fun w' hb => hr.below hb
  have HRY := Lib.hid hr
  obtain ⟨k, hk⟩ : ∃ k : Nat, 1 + m % 24 = (k : Int) := ⟨(1 + m % 24).toNat, by omega⟩
  have hk1 : 1 ≤ k := by omega
  have hk2 : k ≤ 24 := by omega
  have HK := Lib.hid hk
  have HLen : Hid (∀ j, (feed k (acts.take j)).all.length ≤ j) := Lib.hid (feed_len k acts)
  have HDr : Hid (∀ j, (feed k (acts.take j)).dropped = (feed k (acts.take j)).all.length - k ∧ (feed k (acts.take j)).win = k) := Lib.hid (feed_drop k acts)
  clear hf hv hk
  go_enter Tryd.func4, Tryd.ntmps4
  go_wp2_with fail
  refine (awake37_any _ hr).mono ?_
  rintro e w1 ⟨rfl, hb1⟩
  have HB1 := Lib.hid hb1
  clear hb1
  go_wp2_with fail
  refine (fits37_any (.slice va acts.length vc) acts _ (HV.out.below HB1.out) hl).mono ?_
  rw [HF.out]
  rintro e w2 ⟨rfl, rfl⟩
  go_wp2_with fail
  refine (window37_any m _ h0 h255).mono ?_
  rw [HK.out]
  rintro e w2 ⟨rfl, rfl⟩
  go_wp2_with fail
  refine (plogNew_ok k _ (by omega) (by omega)).mono ?_
  rintro e w2 ⟨rfl, rfl⟩
  have HR := Lib.hid (show Run w _ w1.heap.size (.slice none 0 0) (.start k) from ⟨HB1.out.alloc HB1.out.size _, logAt_new w1 k w.heap.size HB1.out.size, LogM.ok_start hk1 (by omega)⟩)
  have HS := Lib.hid (show WinS w _ w1.heap.size (.slice none 0 0) (.slice none 0 0) (feed k (acts.take 0)) from ⟨HR.out, OwnWin.nil _ _ _ _, fun q hq => by cases hq⟩)
  have hwz := HB1.out.size
  go_wp2_with fail
  go_loopw [7, 8] (fun uv iv wr => ∃ (j : Nat) (v : Value), j ≤ acts.length ∧ iv = .int .i64 j ∧ WinS w wr w1.heap.size v uv (feed k (acts.take j))) (fun _ iv _ => acts.length - (intOf iv).toNat)
  case atStart => exact ⟨0, _, Nat.zero_le _, rfl, HS.out⟩
  case round =>
    obtain ⟨j, v, hj, rfl, s⟩ := hrel
    have hl1 := HLen.out j
    obtain ⟨L', hL⟩ : ∃ L', feed k (acts.take j) = L' := ⟨_, rfl⟩
    have HDj := Lib.hid (HDr.out j)
    rw [hL] at s hl1 HDj
    have HL := Lib.hid hL
    obtain ⟨ua, uc, rfl, _⟩ := s.own.form
    have HS1 := Lib.hid s
    clear s hL
    by_cases hlt : j < acts.length
    · have HSN := Lib.hid (feed_snoc k hlt)
      have HFk := Lib.hid (HA.out acts[j] (List.getElem_mem hlt))
      obtain ⟨b, o, c, e, hc, hbz, hcell⟩ := HV.out.at hlt
      cases e
      rw [HL.out] at HSN
      generalize acts[j] = y at hcell HSN HFk
      obtain ⟨p0, p1, p2, p3, p4⟩ := act_cells HS1.out.run.bel hbz hcell
      clear hcell
      obtain ⟨ys, yn, ⟨yk, yt, yv⟩⟩ := y
      have hyv : yv.length ≤ 134217728 := by have := HFk.out; simp only at this; omega
      clear HFk
      go_wp2_with (go_at_call 21; refine (of36_any ⟨yk, yt, yv⟩ _).mono ?_; rintro e w2 ⟨rfl, hb2⟩)
      have hz2 : w1.heap.size < w2.heap.size := Nat.lt_of_lt_of_le HS1.out.run.log.box.facts.2.2 hb2.size
      have hlt2 := (HS1.out.older hb2).run.log.own.lt
      have hal := (Below.refl w2.heap.size w2).alloc (Nat.le_refl _) (.cells #[.int .i64 yk, .int .i64 yt, .string ⟨yv.toArray⟩] 37)
      have HS2 := Lib.hid ((HS1.out.older hb2).older hal)
      have HX2 := Lib.hid (box3_new w2 37 (.int .i64 yk) (.int .i64 yt) (.string ⟨yv.toArray⟩))
      have HN2 : Hid (v.ownBlock ≠ some w2.heap.size) := Lib.hid fun e => by have := (hlt2 _ e).2; omega
      clear hb2 hlt2 hal p0 p1 p2 p3 p4
      by_cases hc : checkN ⟨yk, yt, yv⟩ = 0
      · have HC := Lib.hid (chkV_ok hc)
        have HCC := Lib.hid hc
        have HAP := Lib.hid (show L'.app ⟨yk, yt, yv⟩ = L'.push ⟨yk, yt, yv⟩ from if_pos hc)
        clear hc
        go_wp2_with fail
        refine (run_append w _ w1.heap.size v L' ⟨yk, yt, yv⟩ HS2.out.run HRY.out HCC.out hyv (by omega)).mono ?_
        rintro e w3 ⟨v3, rfl, hr3, hg3⟩
        obtain ⟨ho3, hs3⟩ := HS2.out.log hg3
        have hX3 := HX2.out.goes hg3 (by omega) HN2.out
        obtain ⟨⟨c0, c1, c2⟩, _, hz3⟩ := hX3.facts
        have HR3 := Lib.hid hr3
        have HO3 := Lib.hid ho3
        have HS3 := Lib.hid hs3
        have HX3 := Lib.hid hX3
        have hwb := hr3.bel.size
        clear hr3 hg3 ho3 hs3 hX3
        go_wp2_with fail
        go_region_held3 (fun w' => w'.cell? ⟨w2.heap.size, 0, none⟩ = some (.int .i64 yk) ∧ w'.cell? ⟨w2.heap.size, 1, none⟩ = some (.int .i64 yt) ∧ w'.cell? ⟨w2.heap.size, 2, none⟩ = some (.string ⟨yv.toArray⟩)) (first | go_keep | exact ⟨x0, x1, x2⟩)
          ((first | (go_at_call 23; refine (num_nil _).mono ?_; rintro e w' ⟨rfl, rfl⟩) | (go_at_call 24; refine (check_any ⟨yk, yt, yv⟩ _ (HRA.out _ HR3.out.bel.drew) hyv).mono ?_; rw [HC.out]; rintro e w4 ⟨rfl, hb4⟩; obtain ⟨⟨x0, x1, x2⟩, _, hz4⟩ := (HX3.out.drew.older hb4).facts)))
        all_goals
          have hwc := hb4.size
          go_wp2_with ((at_builtin; refine wpList_appw tyPgs rfl _ _ rfl w.heap.size (.slice ua L'.all.length uc) L'.all.length (pvals L'.all) rfl ((HO3.out.drew.older hb4).alloc _) (by simp at hwc ⊢; omega) (.slice (some ⟨w4.heap.size, 0, none⟩) 1 1) 1 [.int .i64 yk, .int .i64 yt, .string ⟨yv.toArray⟩] rfl (SrcAt.one (heap_alloc_new w4 _)) rfl (by simp [Value.oneCell']) (by omega) ?_; intro v' w5 hown5 hgrow5 hlies5; obtain ⟨a5, q5, rfl, hq5⟩ := hown5.form))
          go_roundw
          case rel => exact ⟨j + 1, v3, by omega, by go_num, by rw [HSN.out, HAP.out]; exact WinS.app ((HR3.out.older (Below.refl _ _).drew).older hb4) (HO3.out.drew.older hb4) HS3.out hgrow5 hlies5 (own_push hown5)⟩
          case measure => simp [intOf]; omega
      · obtain ⟨n, hn⟩ : ∃ n, checkN ⟨yk, yt, yv⟩ = n := ⟨_, rfl⟩
        have HC := Lib.hid (chkV_err hn (by rw [← hn]; exact hc))
        have HCC := Lib.hid hc
        have HAP := Lib.hid (show L'.app ⟨yk, yt, yv⟩ = L' from if_neg hc)
        clear hc hn
        go_wp2_with fail
        refine (plogAppend_err w.heap.size w1.heap.size v L' ⟨yk, yt, yv⟩ _ HS2.out.run.log (HRA.out _ HS2.out.run.bel) HCC.out hyv).mono ?_
        rw [HC.out]
        rintro e w3 ⟨rfl, hb3⟩
        have HS3 := Lib.hid (HS2.out.older hb3)
        have HR3 := Lib.hid HS3.out.run
        have HX3 := Lib.hid (HX2.out.older hb3)
        obtain ⟨⟨c0, c1, c2⟩, _, hz3⟩ := HX3.out.facts
        clear hb3
        go_wp2_with fail
        go_region_held3 (fun w' => w'.cell? ⟨w2.heap.size, 0, none⟩ = some (.int .i64 yk) ∧ w'.cell? ⟨w2.heap.size, 1, none⟩ = some (.int .i64 yt) ∧ w'.cell? ⟨w2.heap.size, 2, none⟩ = some (.string ⟨yv.toArray⟩)) (first | go_keep | exact ⟨x0, x1, x2⟩)
          ((first | (go_at_call 23; refine (num_err _ _).mono ?_; rintro e w' ⟨rfl, rfl⟩) | (go_at_call 24; refine (check_any ⟨yk, yt, yv⟩ _ (HRA.out _ HR3.out.bel.drew) hyv).mono ?_; rw [HC.out]; rintro e w4 ⟨rfl, hb4⟩; obtain ⟨⟨x0, x1, x2⟩, _, hz4⟩ := (HX3.out.drew.older hb4).facts)))
        all_goals
          go_wp2_with fail
          go_roundw
          case rel => exact ⟨j + 1, v, by omega, by go_num, by rw [HSN.out, HAP.out]; exact (HS3.out.older (Below.refl _ _).drew).older hb4⟩
          case measure => simp [intOf]; omega
    · have hdr := HS1.out.run.ok.drop
      have HMX := Lib.hid HDj.out.1
      have hmx : (((L'.dropped : Int) + 1) != max 1 ((L'.all.length : Int) - (k : Int) + 1)) = false := by
        have := HMX.out
        rw [bne_eq_false_iff_eq]; omega
      go_wp2_with (first | (go_at_call 17; refine (run_last w _ w1.heap.size v L' HS1.out.run (by omega)).mono ?_; rintro e w3 ⟨rfl, hr3, hb3⟩; have HS3 := Lib.hid (HS1.out.older hb3); clear hr3 hb3) | (go_at_call 18; refine (plogFirst_any w.heap.size w1.heap.size v L' _ HS3.out.run.log).mono ?_; rintro e w4 ⟨rfl, rfl⟩) | (go_at_call 20; refine (window37_any m _ h0 h255).mono ?_; rw [HK.out]; rintro e w' ⟨rfl, rfl⟩))
      go_loopw [12] (fun nv wr => ∃ jj : Nat, nv = .int .i64 ((jj : Int) + 1) ∧ L'.dropped ≤ jj ∧ jj ≤ L'.all.length ∧ WinS w wr w1.heap.size v (.slice ua L'.all.length uc) L') (fun nv _ => L'.all.length + 1 - (intOf nv).toNat)
      case atStart => exact ⟨_, rfl, Nat.le_refl _, hdr, HS3.out⟩
      case round =>
        obtain ⟨jj, rfl, hj1, hj2, s⟩ := hrel
        have HS4 := Lib.hid s
        clear s
        by_cases hlt2 : jj < L'.all.length
        · obtain ⟨q, hq⟩ : ∃ q, L'.all[jj] = q := ⟨_, rfl⟩
          have hg := getP_win hj1 hlt2
          have HG := Lib.hid hg.1
          have HP := Lib.hid (show getP L' ((jj : Int) + 1) = q by rw [← hq]; exact hg.2)
          obtain ⟨g, lo, c, e, hc, hbz, hcell⟩ := (rows_own HS4.out.own).at hlt2
          cases e
          rw [hq] at hcell
          clear hg hq
          obtain ⟨qk, qt, qv⟩ := q
          go_wp2_with fail
          refine (plogGet_any w.heap.size w1.heap.size v L' _ _ HS4.out.run.log HS4.out.run.ok (by omega)).mono ?_
          rw [HG.out, HP.out, codeV_ok rfl]
          rintro e w5 ⟨rfl, hb5⟩
          have hal := (Below.refl w5.heap.size w5).alloc (Nat.le_refl _) (.cells #[.int .i64 qk, .int .i64 qt, .string ⟨qv.toArray⟩] 37)
          have hb6 := hb5.trans (hal.mono hb5.size)
          have HS5 := Lib.hid (HS4.out.older hb6)
          have p0 := (hb6.cell (p := ⟨g, _, none⟩) hbz).trans (hcell 0 _ rfl)
          have p1 := (hb6.cell (p := ⟨g, _, none⟩) hbz).trans (hcell 1 _ rfl)
          have p2 := (hb6.cell (p := ⟨g, _, none⟩) hbz).trans (hcell 2 _ rfl)
          rw [Nat.add_zero] at p0
          rw [← Nat.add_assoc] at p1 p2
          have i3 : IntKind.i64.wrap (jj : Int) = jj := IntWalk.i64_in _ (by omega)
          clear hal hb5 hb6 hcell
          go_wp2_with fail
          go_quiet (fail)
          go_wp2_with fail
          go_roundw
          case rel => exact ⟨jj + 1, by go_num, by omega, by omega, HS5.out.older (below_drewN (Below.refl _ _) _)⟩
          case measure => simp [intOf]; omega
        · go_wp2_with fail
          go_ret
          exact ⟨rfl, HS4.out.run.bel⟩
theorem walk (m : Int) (acts : List LAct) (v : Value) (w : World) (hr : Ready w) (hm : 0 ≤ m ∧ m < 256) (hv : RowsV actC 5 w v acts) (hl : acts.length ≤ 9223372036854775807) :
    Calls Tryd.prog 4 #[.int .u8 m, v] w fun e w' => e = .returned (.bool true) ∧ Below w.heap.size w w' := by
  obtain ⟨va, vc, rfl, _⟩ := hv.form
  cases hf : fitsA acts with
  | true => exact walk_ok m va vc acts w hr hv hl hm.1 hm.2 hf
  | false => exact walk_big m va vc acts w hr hv hl hf

/-- What the walk gives, for every argument. -/
theorem contract (H : Type) (enc : TypeId × Value → H) (W : World) (base : Nat) (args : Array Value) (ds gs : List (DataW H)) (before : List MemPlace)
    (hval : ∀ (j : Nat) t v, Tryd.f4.params[j]? = some t → args[j]? = some v → Value.okWide Tryd.prog W .any base t v)
    (hW : DataW.Whole enc Tryd.prog Tryd.f4.params.toList Rows.purgelogWindowSpec.vars false W args.toList ds gs before) (hsz : (DataW.weightsEach Tryd.prog Tryd.f4.params.toList (ds ++ gs)).all (· ≤ reachBytes) = true) (hr : Ready W) :
    Calls Tryd.prog 4 args W fun e W' => ∃ v, e = .returned v ∧ Rows.purgelogWindowSpec.post enc Tryd.prog Tryd.f4 false true false false W args v W' := by
  have hW' := hW
  have hlt := fun p hp => hW.lt p hp
  obtain ⟨p, q, hA0, hV, rfl, hfz, hnd⟩ := hW
  have hA : DataW.TrodAll enc Tryd.prog W 0 (fun _ => true) true Tryd.f4.params.toList args.toList ds p := hA0
  have hA1 := hA
  obtain ⟨rfl, rfl⟩ := trodVars_none hV
  rw [Tryd.params4] at hA hval
  obtain ⟨v0, vs0, d0, ds0, p0, q0, hargs, rfl, rfl, h0, r0⟩ := trodAll_cons hA
  obtain ⟨v1, vs1, d1, ds1, p1, q1, rfl, rfl, rfl, h1, r1⟩ := trodAll_cons r0
  obtain ⟨rfl, rfl, rfl⟩ := trodAll_nil r1
  obtain rfl : args = #[v0, v1] := by cases args; simp_all
  have fin : ∀ W', Below W.heap.size W W' → Rows.purgelogWindowSpec.post enc Tryd.prog Tryd.f4 false true false false W #[v0, v1] (.bool true) W' := fun W' hb => by
    simp only [List.append_nil] at hA1 hW' hlt
    exact ⟨_, _, _, [], _, [], hW', trodAll_cons_mk (shut_bool Tryd.underlying4 _) trodAll_mk0, Fr.trodAll_below (by kernel_rfl) _ (by kernel_rfl) hA1 hb hlt, rfl, hb.frame _, fun h => by cases h⟩
  clear hW' hA0 hA1 hlt
  rw [Tryd.params4, List.append_nil] at hsz
  obtain ⟨n0, rfl, rfl, rfl, wf0⟩ := open_int Tryd.underlying5 (hval 0 5 v0 rfl rfl) h0
  have m0 := Op.u8_range wf0
  obtain ⟨ua1, ul1, uc1, rfl⟩ := okWide_slice Tryd.underlying32 (hval 1 32 v1 rfl rfl)
  obtain ⟨fu1, hf1⟩ := h1
  obtain ⟨xs1, hx1, hl1, _⟩ := Op.open_rows (R := actC) (k := 5) (fun _ => True) Tryd.underlying32 (by kernel_rfl) (by decide) (fun n cs y hl h => Op.act_trod hl h) hf1
  refine (walk n0 xs1 (.slice ua1 ul1 uc1) W hr m0 hx1 hl1).mono fun e W' ⟨he, hb⟩ => ?_
  subst he
  exact ⟨_, rfl, fin W' hb⟩

theorem laid_met (os : Os) : laidMet Tryd.prog Rows.purgelogWindowRow.laid ((Fr.laidWorld os).forCall (fun _ _ => 0) ⟨#[], #[.int .u8 0, .slice none 0 0], []⟩).memory :=
  laidMet_of_run' 8 (by kernel_rfl) (by kernel_rfl)
theorem reads (os : Os) {H : Type} (enc : TypeId × Value → H) : ∃ places, DataW.whole enc Tryd.prog ((Fr.laidWorld os).forCall (fun _ _ => 0) ⟨#[], #[.int .u8 0, .slice none 0 0], []⟩).memory Tryd.f4.params.toList Rows.purgelogWindowSpec.vars false (#[.int .u8 0, .slice none 0 0] : Array Value).toList 8 = some ([.lit (.int .u8 0), .nil], [], places) :=
  ⟨[], by kernel_rfl⟩

theorem lifted (os : Os) (started : os.Started) (H : Type) (enc : TypeId × Value → H) (F : Stop.Interp) :
    ReturnsInHanded {} Tryd.checked os 4 .any ((OpenSpec.ofChange Rows.purgelogWindowSpec).preRow enc Tryd.prog Tryd.f4 Rows.purgelogWindowRow.domain false Rows.purgelogWindowRow.laid) (((OpenSpec.ofChange Rows.purgelogWindowSpec).at F).post enc Tryd.prog Tryd.f4 false true false false) := by
  obtain ⟨places, hx⟩ := reads os enc
  refine returnsInHanded_of_row (C := Tryd.checked) (s := OpenSpec.ofChange Rows.purgelogWindowSpec) Fr.own started (by kernel_rfl) Tryd.func4
    (witness_row_at (enc := enc) (C := Tryd.checked) false (Fr.laidWorld os) #[.int .u8 0, .slice none 0 0] rfl (by kernel_rfl) (by kernel_rfl) (by kernel_rfl)
      (OpenSpec.preRow_of_cond 8 hx (by kernel_rfl) (fun k hk => by cases hk) (by kernel_rfl) (laid_met os))) ?_
  intro W base args ds gs before hval hW _ hcond hsz _ hsh _
  exact contract H enc W base args ds gs before hval hW (by have h9 : (DataW.weightsEach Tryd.prog (Tryd.f4.params.toList ++ []) (ds ++ gs)).all (· ≤ reachBytes) = true := hsz; rw [List.append_nil] at h9; exact h9) (Fr.ready hsh)

theorem k_0 : Rows.purgelogWindowRow.wf (OpenSpec.ofChange (OpenSpec.ofChange Rows.purgelogWindowSpec).bare) = true := by kernel_rfl
theorem k_1 : laidOutB Tryd.prog = true := Fr.sf_laidOut
theorem k_2 : mapsRowed Tryd.prog = true := Fr.sf_mapsRowed
theorem k_3 : Tryd.f4.params.all (Tryd.prog.readableRec ·) = true := by kernel_rfl
theorem k_4 : namedTie Tryd.prog Rows.purgelogWindowRow.named (OpenSpec.ofChange Rows.purgelogWindowSpec).bare.vars = true := by kernel_rfl
theorem k_5 : (Rows.purgelogWindowRow.stops == []) = true := by kernel_rfl
theorem k_6 : (Tryd.prog.stops == []) = true := Fr.sf_stops
theorem k_7 : (Rows.purgelogWindowRow.knobs == []) = true := by kernel_rfl
theorem k_8 : (Tryd.prog.stopKnobs == []) = true := Fr.sf_stopKnobs
theorem k_9 : (Rows.purgelogWindowRow.inPlace == Tryd.prog.inPlace 4) = true := by kernel_rfl
theorem k_10 : (Rows.purgelogWindowRow.unfollowed == Tryd.prog.unfollowed 4) = true := by kernel_rfl
theorem k_11 : (Rows.purgelogWindowRow.recurses == Tryd.prog.recurses 4) = true := by kernel_rfl
theorem k_12 : (Rows.purgelogWindowRow.named == Tryd.prog.varsNamed 4) = true := by kernel_rfl
theorem k_13 : (Rows.purgelogWindowRow.maps == (Tryd.f4.params.toList ++ (OpenSpec.ofChange Rows.purgelogWindowSpec).bare.plain.varTypes Tryd.prog).any (Tryd.prog.mapsRec ·)) = true := by kernel_rfl
theorem k_14 : (Rows.purgelogWindowRow.ifaces == (Tryd.f4.params.toList ++ (OpenSpec.ofChange Rows.purgelogWindowSpec).bare.plain.varTypes Tryd.prog).any (Tryd.prog.ifacesRec ·)) = true := by kernel_rfl
theorem k_15 : (Rows.purgelogWindowRow.mapsOut == Tryd.prog.mapsAmong Tryd.f4.resultTypes.toList) = true := by kernel_rfl
theorem k_16 : (Rows.purgelogWindowRow.loops == (Tryd.f4.params.toList ++ (OpenSpec.ofChange Rows.purgelogWindowSpec).bare.plain.varTypes Tryd.prog).any (Tryd.prog.loopsFrom ·)) = true := by kernel_rfl
theorem k_17 : (Rows.purgelogWindowRow.wideKeys == (Tryd.f4.params.toList ++ (OpenSpec.ofChange Rows.purgelogWindowSpec).bare.plain.varTypes Tryd.prog ++ Tryd.f4.resultTypes.toList).any (Tryd.prog.wideKeysFrom ·)) = true := by kernel_rfl
theorem k_18 : (OpenSpec.ofChange Rows.purgelogWindowSpec).bare.vars.all (Tryd.prog.varReadable ·) = true := by kernel_rfl
theorem k_19 : Tryd.f4.resultTypes.all (fun t => Tryd.prog.readableRec t && decide (t < Tryd.prog.types.size)) = true := by kernel_rfl
theorem k_20 : (Rows.purgelogWindowRow.ifacesOut == Tryd.f4.resultTypes.toList.any (Tryd.prog.ifacesRec ·)) = true := by kernel_rfl
theorem k_21 : (Rows.purgelogWindowRow.loopsOut == Tryd.f4.resultTypes.toList.any (Tryd.prog.loopsFrom ·)) = true := by kernel_rfl
theorem k_22 : (Rows.purgelogWindowRow.plainKeys == Tryd.prog.plainKeys) = true := Fr.sf_plainKeys
theorem k_23 : Rows.purgelogWindowRow.shortTexts.isNone = true := by kernel_rfl
theorem k_24 : Tryd.prog.stopsHeard = true := Fr.sf_heard
theorem k_25 : Tryd.prog.mayEnter = true := Fr.sf_mayEnter
theorem k_26 : (Rows.purgelogWindowRow.lifted == Tryd.prog.liftsFinal) = true := Fr.sf_lifted
theorem k_27 : (Tryd.prog.make == some Rows.purgelogWindowRow.make) = true := Fr.sf_make
theorem k_28 : (Rows.purgelogWindowRow.kinds == (if Rows.purgelogWindowRow.domain.isEmpty then [] else Tryd.f4.params.toList.map fun t => match Tryd.prog.underlying t with | some (.int k) => some k | _ => none)) = true := by kernel_rfl
theorem k_29 : (Rows.purgelogWindowRow.pinned == Rows.purgelogWindowRow.pinnedBy) = true := by kernel_rfl
theorem k_30 : (Rows.purgelogWindowRow.veiled == (Tryd.f4.params.toList ++ (OpenSpec.ofChange Rows.purgelogWindowSpec).bare.plain.varTypes Tryd.prog ++ Tryd.f4.resultTypes.toList).any (Tryd.prog.veiledRec ·)) = true := by kernel_rfl
theorem k_31 : Rows.purgelogWindowRow.veiledFits Tryd.prog Tryd.f4.params.toList (Tryd.f4.params.toList ++ (OpenSpec.ofChange Rows.purgelogWindowSpec).bare.plain.varTypes Tryd.prog ++ Tryd.f4.resultTypes.toList) = true := by kernel_rfl
theorem closed : joinedFacts Tryd.prog 4 Tryd.f4 (OpenSpec.ofChange Rows.purgelogWindowSpec).bare Rows.purgelogWindowRow = true := Op.andT (Op.andT (Op.andT (Op.andT (Op.andT (Op.andT (Op.andT (Op.andT (Op.andT (Op.andT (Op.andT (Op.andT (Op.andT (Op.andT (Op.andT (Op.andT (Op.andT (Op.andT (Op.andT (Op.andT (Op.andT (Op.andT (Op.andT (Op.andT (Op.andT (Op.andT (Op.andT (Op.andT (Op.andT (Op.andT (Op.andT (k_0) k_1) k_2) k_3) k_4) k_5) k_6) k_7) k_8) k_9) k_10) k_11) k_12) k_13) k_14) k_15) k_16) k_17) k_18) k_19) k_20) k_21) k_22) k_23) k_24) k_25) k_26) k_27) k_28) k_29) k_30) k_31

theorem said : Rows.PurgelogWindowSaid :=
  OpenClaim.holds_of_cond 4 Tryd.f4 rfl rfl rfl rfl rfl rfl rfl ⟨rfl, rfl, rfl, rfl, rfl⟩ rfl rfl rfl rfl rfl (by kernel_rfl) Tryd.func4 closed
    (of_decide_eq_true (by kernel_rfl)) (by unfold Func.isWrapper; first | (rw [if_pos (by decide +kernel)]; kernel_rfl) | (rw [if_neg (by decide +kernel)]; exact ⟨rfl, rfl⟩))
    (fun os started H enc _ F => by rw [OpenClaim.pre_eq_preRow]; exact lifted os started H enc F)

theorem plain (b : Bool) (hb : b = Tryd.pinned.checked.prog.looks []) (f : FuncId) (fn : Func) (hf : Tryd.pinned.checked.prog.funcNamed "quayside/quaysidelaw37.PurgelogWindow" = some f) (hfn : Tryd.pinned.checked.prog.funcs[f]? = some fn) :
    b = Tryd.pinned.checked.prog.looks [] ∧ ∀ (j : Nat) t, fn.params[j]? = some t → Tryd.pinned.checked.prog.wantsStandIn t = false := by
  obtain rfl : f = 4 := Option.some.inj ((show Tryd.prog.funcNamed "quayside/quaysidelaw37.PurgelogWindow" = some 4 by kernel_rfl).symm.trans hf) |>.symm
  obtain rfl : fn = Tryd.f4 := (Option.some.inj (Tryd.func4.symm.trans hfn)).symm
  refine ⟨hb, fun j t ht => ?_⟩
  rw [Tryd.params4] at ht
  have hm : t ∈ [5, 32] := by simpa using Array.mem_of_getElem? ht
  have hall : ([5, 32].all fun u => !Tryd.prog.wantsStandIn u) = true := by kernel_rfl
  exact (show Tryd.prog.wantsStandIn t = false by simpa using List.all_eq_true.1 hall t hm)

theorem proved : Rows.PurgelogWindowCardSaid :=
  Claim7.holds_tied_plain_at .later [] _ _ _ _ said (fun _ h => by cases h) (by kernel_rfl) (fun _ h => by cases h) purgelogWindow_row_tie rfl ⟨rfl, rfl⟩ (by kernel_rfl) rfl (plain _ (by kernel_rfl)) (by kernel_rfl)
#print axioms proved
end Go.Proofs.YtijjggbiljkalaaDoor.lawPurgelogWindow
