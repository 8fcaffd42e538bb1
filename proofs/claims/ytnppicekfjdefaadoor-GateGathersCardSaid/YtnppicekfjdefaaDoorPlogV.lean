/- Contract: purgelog's Covered. Conditions: logs of at most a million entries; an item's address of at most 2^27 bytes. -/
import Derived.Test.YtnppicekfjdefaaDoorPlogY
import Derived.Test.YtnppicekfjdefaaDoorPurg5
namespace Go.Proofs.YtnppicekfjdefaaDoor
open Go.RowKit Pl Ad
attribute [local go_sem] ba_get ba_append ba_extract_end ba_extract_zero ba_extract
set_option maxRecDepth 100000
set_option maxHeartbeats 4000000
set_option linter.unusedVariables false
namespace A1
theorem since_pos {L : LogM} {n : Int} (h : 0 < (L.since n).length) : 0 ≤ n ∧ n < L.all.length := by
  unfold LogM.since at h
  split at h
  · simp at h
  · omega
theorem since_mem {L : LogM} {n : Int} {p : Pg} (h : p ∈ L.since n) : p ∈ L.all := by
  unfold LogM.since at h
  split at h
  · cases h
  · exact List.mem_of_mem_drop h
theorem cov_some {L : LogM} {x : It} {n : Int} {k : Nat} (h : LogM.hit x (L.since n) = some k) : L.covN x n = n + 1 + k ∧ L.covB x n = true := by
  unfold LogM.covN LogM.covB
  rw [h]
  exact ⟨rfl, rfl⟩
theorem cov_none {L : LogM} {x : It} {n : Int} (h : LogM.hit x (L.since n) = none) : L.covN x n = 0 ∧ L.covB x n = false := by
  unfold LogM.covN LogM.covB
  rw [h]
  exact ⟨rfl, rfl⟩
theorem since_nil {L : LogM} {n : Int} (h : ¬ L.sinceC n = 0) : L.since n = [] := by
  unfold LogM.since
  unfold LogM.sinceC at h
  split at h
  · rw [if_pos (by omega)]
  · split at h
    · omega
    · split at h
      · rw [if_pos (by omega)]
      · omega
theorem ret3_int {a b : Int} {c d : Bool} {v : Value} (h : a = b) (h2 : c = d) : Ending.returned (.tuple #[.int .i64 a, .bool c, v]) = .returned (.tuple #[.int .i64 b, .bool d, v]) := by rw [h, h2]
theorem covered_err (B R : Nat) (v : Value) (L : LogM) (x : It) (ua : Option Addr) (ul uc : Nat) (n : Int) (w : World) (h : LogAt w B R v L) (ho : L.Ok) (hl : L.all.length ≤ 1000000) (hc : ¬ L.sinceC n = 0) :
    Calls Tryd.prog 24 #[ptrV R, itV x.tenant x.addr (.slice ua ul uc), .int .i64 n] w fun e w' => e = .returned (.tuple #[.int .i64 (L.covN x n), .bool (L.covB x n), codeV (L.sinceC n)]) ∧ Below w.heap.size w w' := by
  have hb := (Below.refl w.heap.size w).alloc (Nat.le_refl _) (.cells #[.int .i64 x.tenant, .string ⟨x.addr.toArray⟩, .slice ua ul uc] 40)
  have HL := Lib.hid (h.below hb)
  have HB := Lib.hid hb
  have HO := Lib.hid ho
  have HN := Lib.hid (cov_none (x := x) (show LogM.hit x (L.since n) = none by rw [since_nil hc]; rfl))
  obtain ⟨c, hcc⟩ : ∃ c, L.sinceC n = c := ⟨_, rfl⟩
  rw [hcc] at hc
  have HV := Lib.hid (codeV_err hcc hc)
  clear h hb ho hcc hc
  go_enter Tryd.func24, Tryd.ntmps24
  go_wp2_with fail
  refine (plogSince_any B R v L n _ HL.out HO.out hl).mono ?_
  rw [HV.out]
  rintro e w1 ⟨u, rfl, hu, hb1⟩
  go_wp2_with fail
  go_ret3
  exact ⟨show Ending.returned (.tuple #[.int .i64 0, .bool false, .iface 58 (.int .i64 c)]) = _ by rw [HN.out.1, HN.out.2, HV.out], HB.out.trans (hb1.mono HB.out.size)⟩
theorem covered_ok (B R : Nat) (v : Value) (L : LogM) (xt : Int) (xa : Bs) (tags : List Bs) (ua : Option Addr) (uc : Nat) (n : Int) (w : World) (h : LogAt w B R v L) (ho : L.Ok) (hl : L.all.length ≤ 1000000) (hc : L.sinceC n = 0) (hr : Ready w) (hx : xa.length ≤ 134217728) (hu : StrsV w (.slice ua tags.length uc) tags) (htl : tags.length ≤ 9223372036854775807) :
    Calls Tryd.prog 24 #[ptrV R, itV xt xa (.slice ua tags.length uc), .int .i64 n] w fun e w' => e = .returned (.tuple #[.int .i64 (L.covN ⟨xt, xa, tags⟩ n), .bool (L.covB ⟨xt, xa, tags⟩ n), codeV (L.sinceC n)]) ∧ Below w.heap.size w w' := by
  have hb := (Below.refl w.heap.size w).alloc (Nat.le_refl _) (.cells #[.int .i64 xt, .string ⟨xa.toArray⟩, .slice ua tags.length uc] 40)
  have HL := Lib.hid (h.below hb)
  have HB := Lib.hid hb
  have HO := Lib.hid ho
  have HX := Lib.hid (box3_new w 40 (.int .i64 xt) (.string ⟨xa.toArray⟩) (.slice ua tags.length uc))
  have HRA : Hid (∀ w', Below w.heap.size w w' → Ready w') := Lib.hid fun w' hb => hr.below hb
  have HU := Lib.hid hu
  have HV := Lib.hid (codeV_ok hc)
  obtain ⟨ls, hls⟩ : ∃ ls, L.since n = ls := ⟨_, rfl⟩
  have HLS := Lib.hid hls
  clear h hb ho hc hu hls
  go_enter Tryd.func24, Tryd.ntmps24
  go_wp2_with fail
  refine (plogSince_any B R v L n _ HL.out HO.out hl).mono ?_
  rw [HV.out, HLS.out]
  rintro e w1 ⟨u, rfl, hlu, hb1⟩
  obtain ⟨la, lc, rfl, _⟩ := hlu.form
  have HLU := Lib.hid hlu
  have HX1 := Lib.hid (HX.out.older hb1)
  have HB1 := Lib.hid (HB.out.trans (hb1.mono HB.out.size))
  clear hlu hb1
  go_wp2
  go_loopw [24] (fun iv wr => ∃ k : Nat, k ≤ ls.length ∧ iv = .int .i64 k ∧ Hid (LogM.hit ⟨xt, xa, tags⟩ ls = (LogM.hit ⟨xt, xa, tags⟩ (ls.drop k)).map (· + k)) ∧ Below w1.heap.size w1 wr) (fun iv _ => ls.length - (intOf iv).toNat)
  case atStart => exact ⟨0, Nat.zero_le _, rfl, Lib.hid (LogM.hit_start _ _), Below.refl _ _⟩
  case round =>
    obtain ⟨k, hk, rfl, HH, hbr⟩ := hrel
    have HBR := Lib.hid hbr
    have HX2 := Lib.hid (HX1.out.older hbr)
    clear hbr
    by_cases hlt : k < ls.length
    · have hn := since_pos (L := L) (n := n) (by rw [HLS.out]; omega)
      have hn0 := hn.1
      have hn1 : n ≤ 1000000 := by omega
      clear hn
      have hlk : ls.length ≤ 1000000 := by
        have : (L.since n).length ≤ L.all.length := by
          unfold LogM.since
          split
          · simp
          · simp
        rw [HLS.out] at this; omega
      have hpv := HO.out.size ls[k] (since_mem (n := n) (by rw [HLS.out]; exact List.getElem_mem hlt))
      obtain ⟨b, o, c, e, hc, hbz, hcell⟩ := (rows_own (HLU.out.older HBR.out)).at hlt
      cases e
      have HHit := Lib.hid (fun hm => LogM.hit_at (x := ⟨xt, xa, tags⟩) hlt HH.out hm)
      have HMis := Lib.hid (fun hm => LogM.hit_next (x := ⟨xt, xa, tags⟩) hlt HH.out hm)
      have p0 := hcell 0 _ rfl
      have p1 := hcell 1 _ rfl
      have p2 := hcell 2 _ rfl
      rw [Nat.add_zero] at p0
      rw [← Nat.add_assoc] at p1 p2
      generalize ls[k] = y at hpv p0 p1 p2 HHit HMis
      obtain ⟨yk, yt, yv⟩ := y
      simp only at hpv p0 p1 p2
      have hal : ∀ wr : World, Below wr.heap.size wr (wr.alloc (.cells #[.int .i64 yk, .int .i64 yt, .string ⟨yv.toArray⟩] 50)) := fun wr => (Below.refl _ _).alloc (Nat.le_refl _) _
      have HBR2 := Lib.hid (HBR.out.trans ((hal _).mono HBR.out.size))
      have HX3 := Lib.hid (HX2.out.older (hal _))
      have HB3 := Lib.hid (HB1.out.trans (HBR2.out.mono HB1.out.size))
      obtain ⟨⟨d0, d1, d2⟩, _, _⟩ := HX2.out.facts
      clear hcell hal
      cases hm : matchB ⟨yk, yt, yv⟩ ⟨xt, xa, tags⟩ with
      | true =>
        have HM := Lib.hid hm
        have HE := Lib.hid (HHit.out hm)
        clear hm
        go_wp2_with fail
        refine (match_any ⟨yk, yt, yv⟩ ⟨xt, xa, tags⟩ (.slice ua tags.length uc) _ (HRA.out _ HB3.out) hpv hx (HU.out.below HB3.out) htl).mono ?_
        rw [HM.out]
        rintro e w3 ⟨rfl, hb3⟩
        have HB4 := Lib.hid (HB3.out.trans (hb3.mono HB3.out.size))
        clear hb3
        go_wp2
        go_ret3
        have hcv := cov_some (L := L) (x := ⟨xt, xa, tags⟩) (n := n) (k := k) (by rw [HLS.out]; exact HE.out)
        exact ⟨show Ending.returned (.tuple #[.int .i64 (n + 1 + (k : Int)), .bool true, .nilIface]) = _ by rw [hcv.1, hcv.2, HV.out], HB4.out⟩
      | false =>
        have HM := Lib.hid hm
        have HE := Lib.hid (HMis.out hm)
        clear hm
        go_wp2_with fail
        refine (match_any ⟨yk, yt, yv⟩ ⟨xt, xa, tags⟩ (.slice ua tags.length uc) _ (HRA.out _ HB3.out) hpv hx (HU.out.below HB3.out) htl).mono ?_
        rw [HM.out]
        rintro e w3 ⟨rfl, hb3⟩
        have HB4 := Lib.hid (HBR2.out.trans (hb3.mono HBR2.out.size))
        clear hb3
        go_wp2
        go_roundw
        case rel => exact ⟨k + 1, by omega, by go_num, HE, HB4.out⟩
        case measure => simp [intOf]; omega
    · have HE := Lib.hid (LogM.hit_end (by omega) HH.out)
      go_wp2
      go_ret3
      have hcv := cov_none (L := L) (x := ⟨xt, xa, tags⟩) (n := n) (by rw [HLS.out]; exact HE.out)
      exact ⟨show Ending.returned (.tuple #[.int .i64 0, .bool false, .nilIface]) = _ by rw [hcv.1, hcv.2, HV.out], HB1.out.trans (HBR.out.mono HB1.out.size)⟩
theorem covered_any (B R : Nat) (v : Value) (L : LogM) (xt : Int) (xa : Bs) (tags : List Bs) (u : Value) (n : Int) (w : World) (h : LogAt w B R v L) (ho : L.Ok) (hl : L.all.length ≤ 1000000) (hr : Ready w) (hx : xa.length ≤ 134217728) (hu : StrsV w u tags) (htl : tags.length ≤ 9223372036854775807) :
    Calls Tryd.prog 24 #[ptrV R, itV xt xa u, .int .i64 n] w fun e w' => e = .returned (.tuple #[.int .i64 (L.covN ⟨xt, xa, tags⟩ n), .bool (L.covB ⟨xt, xa, tags⟩ n), codeV (L.sinceC n)]) ∧ Below w.heap.size w w' := by
  obtain ⟨ua, uc, rfl⟩ := hu.form
  by_cases hc : L.sinceC n = 0
  · exact covered_ok B R v L xt xa tags ua uc n w h ho hl hc hr hx hu htl
  · exact covered_err B R v L ⟨xt, xa, tags⟩ ua _ uc n w h ho hl hc
end A1
end Go.Proofs.YtnppicekfjdefaaDoor
