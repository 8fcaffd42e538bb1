/- Contract: the reference's Covered over the log of purges. Conditions: logs of at most a million entries; an item's address of at most 2^27 bytes. -/
import Derived.Test.YtijjggbiljkalaaGreatDoorPlogV
import Derived.Test.YtijjggbiljkalaaGreatDoorPurgU
import Derived.Deep.RegionHeld3
namespace Go.Proofs.YtijjggbiljkalaaGreatDoor
open Go.RowKit Pl Ad
attribute [local go_sem] ba_get ba_append ba_extract_end ba_extract_zero ba_extract
set_option maxRecDepth 100000
set_option maxHeartbeats 4000000
set_option linter.unusedVariables false
namespace A1
theorem since_code {L : LogM} {n : Int} (h : 0 < (L.since n).length) : L.sinceC n = 0 := by
  cases Int.decEq (L.sinceC n) 0 with
  | isTrue h1 => exact h1
  | isFalse h1 => rw [since_nil h1] at h; simp at h
theorem refCov_any (B : Nat) (u : Value) (L : LogM) (xt : Int) (xa : Bs) (tags : List Bs) (ux : Value) (n : Int) (w : World) (hu : RefOwn w B u L) (ho : L.Ok) (hl : L.all.length ≤ 1000000) (hx : xa.length ≤ 134217728) (hux : StrsV w ux tags) (htl : tags.length ≤ 9223372036854775807) :
    Calls Tryz.prog 14 #[refV u L, itV xt xa ux, .int .i64 n] w fun e w' => e = .returned (.tuple #[.int .i64 (L.covN ⟨xt, xa, tags⟩ n), .int .i64 (L.sinceC n)]) ∧ Below w.heap.size w w' := by
  obtain ⟨ua, uc, rfl, _⟩ := OwnWin.form hu
  obtain ⟨ta, tc, rfl⟩ := hux.form
  have hb := ((Below.refl w.heap.size w).alloc (Nat.le_refl _) (.cells #[.slice ua L.all.length uc, .int .i64 L.dropped, .int .i64 L.win] 39)).alloc (by simp) (.cells #[.int .i64 xt, .string ⟨xa.toArray⟩, .slice ta tags.length tc] 25)
  have HB := Lib.hid hb
  have HUR := Lib.hid (hu.older hb)
  have HUT := Lib.hid (hux.below hb)
  have HX := Lib.hid (show Box3 ((w.alloc (.cells #[.slice ua L.all.length uc, .int .i64 L.dropped, .int .i64 L.win] 39)).alloc (.cells #[.int .i64 xt, .string ⟨xa.toArray⟩, .slice ta tags.length tc] 25)) (w.heap.size + 1) 25 (.int .i64 xt) (.string ⟨xa.toArray⟩) (.slice ta tags.length tc) by
    have h := box3_new (w.alloc (.cells #[.slice ua L.all.length uc, .int .i64 L.dropped, .int .i64 L.win] 39)) 25 (.int .i64 xt) (.string ⟨xa.toArray⟩) (.slice ta tags.length tc)
    simpa using h)
  have HO := Lib.hid ho
  obtain ⟨sc, hsc⟩ : ∃ sc, L.sinceC n = sc := ⟨_, rfl⟩
  obtain ⟨ls, hls⟩ : ∃ ls, L.since n = ls := ⟨_, rfl⟩
  have HLS := Lib.hid hls
  have HSC := Lib.hid hsc
  clear hb hu hux ho hsc hls
  go_enter Tryz.func14, Tryz.ntmps14
  go_wp2_with fail
  refine (plogRSince B (.slice ua L.all.length uc) L n _ HUR.out hl).mono ?_
  rw [HSC.out, HLS.out]
  rintro e w1 ⟨v, rfl, hv, hb1⟩
  obtain ⟨va, vc, rfl, _⟩ := hv.form
  have HV := Lib.hid hv
  have HX1 := Lib.hid (HX.out.older hb1)
  have HB1 := Lib.hid (HB.out.trans (hb1.mono HB.out.size))
  have HT1 := Lib.hid (HUT.out.below hb1)
  clear hv hb1
  go_wp2
  go_loopw [10] (fun iv wr => ∃ k : Nat, k ≤ ls.length ∧ iv = .int .i64 k ∧ Hid (LogM.hit ⟨xt, xa, tags⟩ ls = (LogM.hit ⟨xt, xa, tags⟩ (ls.drop k)).map (· + k)) ∧ Below w1.heap.size w1 wr) (fun iv _ => ls.length - (intOf iv).toNat)
  case atStart => exact ⟨0, Nat.zero_le _, rfl, Lib.hid (LogM.hit_start _ _), Below.refl _ _⟩
  case round =>
    obtain ⟨k, hk, rfl, HH, hbr⟩ := hrel
    have HBR := Lib.hid hbr
    have HX2 := Lib.hid (HX1.out.older hbr)
    clear hbr
    by_cases hlt : k < ls.length
    · have hn := since_pos (L := L) (n := n) (by rw [HLS.out]; omega)
      have hn0 := hn.1
      have hn1 : n ≤ 1000000 := by omega
      have HC0 := Lib.hid (since_code (L := L) (n := n) (by rw [HLS.out]; omega))
      clear hn
      have hlk : ls.length ≤ 1000000 := by
        have : (L.since n).length ≤ L.all.length := by
          unfold LogM.since
          split
          · simp
          · simp
        rw [HLS.out] at this; omega
      have hpv := HO.out.size ls[k] (since_mem (n := n) (by rw [HLS.out]; exact List.getElem_mem hlt))
      obtain ⟨b, o, c, e, hc, hbz, hcell⟩ := (HV.out.below HBR.out).at hlt
      cases e
      have HHit := Lib.hid (fun hm => LogM.hit_at (x := ⟨xt, xa, tags⟩) hlt HH.out hm)
      have HMis := Lib.hid (fun hm => LogM.hit_next (x := ⟨xt, xa, tags⟩) hlt HH.out hm)
      have p0 := hcell 0 _ rfl
      have p1 := hcell 1 _ rfl
      have p2 := hcell 2 _ rfl
      rw [Nat.add_zero] at p0
      rw [← Nat.add_assoc] at p1 p2
      generalize ls[k] = y at hpv p0 p1 p2 HHit HMis
      obtain ⟨yk, yt, yv⟩ := y
      simp only at hpv p0 p1 p2
      have HB3 := Lib.hid (HB1.out.trans (HBR.out.mono HB1.out.size))
      have HT3 := Lib.hid ((HT1.out.below HBR.out).drewN 1)
      obtain ⟨⟨d0, d1, d2⟩, _, hzx⟩ := HX2.out.facts
      clear hcell
      cases hm : matchB ⟨yk, yt, yv⟩ ⟨xt, xa, tags⟩ with
      | true =>
        have HM := Lib.hid hm
        have HE := Lib.hid (HHit.out hm)
        clear hm
        go_wp2
        go_region_held3 (fun w' => w'.cell? ⟨b, o + k * 3, none⟩ = some (.int .i64 yk) ∧ w'.cell? ⟨b, o + k * 3 + 1, none⟩ = some (.int .i64 yt) ∧ w'.cell? ⟨b, o + k * 3 + 2, none⟩ = some (.string ⟨yv.toArray⟩) ∧ w'.cell? ⟨w.heap.size + 1, 0, none⟩ = some (.int .i64 xt) ∧ w'.cell? ⟨w.heap.size + 1, 1, none⟩ = some (.string ⟨xa.toArray⟩) ∧ w'.cell? ⟨w.heap.size + 1, 2, none⟩ = some (.slice ta tags.length tc))
          (first | go_keep | exact ⟨(hb9.cell (p := ⟨b, _, none⟩) hbz).trans p0, (hb9.cell (p := ⟨b, _, none⟩) hbz).trans p1, (hb9.cell (p := ⟨b, _, none⟩) hbz).trans p2, (hb9.cell (p := ⟨_, _, none⟩) hzx).trans d0, (hb9.cell (p := ⟨_, _, none⟩) hzx).trans d1, (hb9.cell (p := ⟨_, _, none⟩) hzx).trans d2⟩)
          ((go_at_call 35; refine (refMatch_any ⟨yk, yt, yv⟩ ⟨xt, xa, tags⟩ (.slice ta tags.length tc) _ hpv hx HT3.out htl).mono ?_; rw [HM.out]; rintro e w9 ⟨rfl, hb9⟩))
        all_goals
          have HB4 := Lib.hid (HB3.out.drew.trans (hb9.mono HB3.out.size))
          go_wp2
          go_ret2
          have hcv := cov_some (L := L) (x := ⟨xt, xa, tags⟩) (n := n) (k := k) (by rw [HLS.out]; exact HE.out)
          exact ⟨show Ending.returned (.tuple #[.int .i64 (n + 1 + (k : Int)), .int .i64 0]) = _ by rw [hcv.1, HC0.out], HB4.out⟩
      | false =>
        have HM := Lib.hid hm
        have HE := Lib.hid (HMis.out hm)
        clear hm
        go_wp2
        go_region_held3 (fun w' => w'.cell? ⟨b, o + k * 3, none⟩ = some (.int .i64 yk) ∧ w'.cell? ⟨b, o + k * 3 + 1, none⟩ = some (.int .i64 yt) ∧ w'.cell? ⟨b, o + k * 3 + 2, none⟩ = some (.string ⟨yv.toArray⟩) ∧ w'.cell? ⟨w.heap.size + 1, 0, none⟩ = some (.int .i64 xt) ∧ w'.cell? ⟨w.heap.size + 1, 1, none⟩ = some (.string ⟨xa.toArray⟩) ∧ w'.cell? ⟨w.heap.size + 1, 2, none⟩ = some (.slice ta tags.length tc))
          (first | go_keep | exact ⟨(hb9.cell (p := ⟨b, _, none⟩) hbz).trans p0, (hb9.cell (p := ⟨b, _, none⟩) hbz).trans p1, (hb9.cell (p := ⟨b, _, none⟩) hbz).trans p2, (hb9.cell (p := ⟨_, _, none⟩) hzx).trans d0, (hb9.cell (p := ⟨_, _, none⟩) hzx).trans d1, (hb9.cell (p := ⟨_, _, none⟩) hzx).trans d2⟩)
          ((go_at_call 35; refine (refMatch_any ⟨yk, yt, yv⟩ ⟨xt, xa, tags⟩ (.slice ta tags.length tc) _ hpv hx HT3.out htl).mono ?_; rw [HM.out]; rintro e w9 ⟨rfl, hb9⟩))
        all_goals
          have HB4 := Lib.hid (HBR.out.drew.trans (hb9.mono HBR.out.size))
          go_wp2
          go_roundw
          case rel => exact ⟨k + 1, by omega, by go_num, HE, HB4.out⟩
          case measure => simp [intOf]; omega
    · have HE := Lib.hid (LogM.hit_end (by omega) HH.out)
      go_wp2
      go_ret2
      have hcv := cov_none (L := L) (x := ⟨xt, xa, tags⟩) (n := n) (by rw [HLS.out]; exact HE.out)
      exact ⟨show Ending.returned (.tuple #[.int .i64 0, .int .i64 sc]) = _ by rw [hcv.1, HSC.out], HB1.out.trans (HBR.out.mono HB1.out.size)⟩
end A1
end Go.Proofs.YtijjggbiljkalaaGreatDoor
