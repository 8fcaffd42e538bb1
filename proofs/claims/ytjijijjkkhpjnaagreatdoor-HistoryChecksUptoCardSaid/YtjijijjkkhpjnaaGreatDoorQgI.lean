/- Contracts and plain facts that the statement's proof leans on (texts joined). No condition beyond those that each names. -/
import Derived.Test.YtjijijjkkhpjnaaGreatDoorQgH
section
namespace Go.Proofs.YtjijijjkkhpjnaaGreatDoor
open Go.RowKit Pl Ad
attribute [local go_sem] ba_get ba_append ba_extract conv_one
set_option maxRecDepth 100000
set_option maxHeartbeats 4000000
set_option linter.unusedVariables false
set_option linter.unusedSimpArgs false
namespace Hy
open A1 Kr
theorem versF_len (a t : Bs) : ∀ (ps : List PubM) (k : Nat), (versF a t ps k).length ≤ ps.length
  | [], _ => Nat.le_refl _
  | p :: r, k => by
    have := versF_len a t r (k + 1)
    unfold versF
    split <;> simp <;> omega
theorem versM_len (ps : List PubM) (a t : Bs) : (versM ps a t).length ≤ ps.length := versF_len a t ps 0
theorem lastM_in {x : SpanM} {u : Int} (hx : inB x.til) (hu : inB u) : -1152921504606846977 ≤ (lastM x u).1 ∧ (lastM x u).1 ≤ 1152921504606846976 := by
  unfold inB at hx hu
  unfold lastM
  split
  · split
    · simp only; omega
    · simp only; omega
  · simp only; omega
theorem endO_in {ps : List PubM} (h : ∀ p ∈ ps, inB p.at_) (i : Nat) : inB ((endO ps i).getD 0) := by
  unfold endO
  have h0 : inB (0 : Int) := ⟨by decide, by decide⟩
  split
  · exact h0
  · split
    · exact h0
    · rename_i k _
      cases hk : ps[k]? with
      | none => exact h0
      | some q => exact h q (List.mem_of_getElem? hk)
theorem old_yes {h : HisM} {s : SrvM} {i : Nat} (hi : i ∈ versM h.pubs s.addr s.tag) (hl : inLimB h s i = true) : oldB h s = false := by
  unfold oldB
  rw [Bool.and_eq_false_iff]
  right
  rw [Bool.eq_false_iff]
  intro h2
  have := List.all_eq_true.1 h2 i hi
  rw [hl] at this; cases this
theorem old_end {h : HisM} {s : SrvM} (ha : ∀ (k i : Nat), (versM h.pubs s.addr s.tag)[k]? = some i → inLimB h s i = false) : oldB h s = decide (0 < (versM h.pubs s.addr s.tag).length) := by
  unfold oldB
  rw [show ((versM h.pubs s.addr s.tag).all fun i => !inLimB h s i) = true from List.all_eq_true.2 fun i hi => by
    obtain ⟨k, hk, rfl⟩ := List.getElem_of_mem hi
    rw [ha k _ (List.getElem?_eq_getElem hk)]; rfl]
  cases versM h.pubs s.addr s.tag with
  | nil => rfl
  | cons a l => rw [Bool.and_true]; symm; exact decide_eq_true (by simp)
theorem old_any (ps : List PubM) (gs : List PrgM) (ss : List SrvM) (fs : List FetM) (ds : List DroM) (va vb vc vd ve : Value) (bound fin : Int) (allv : Value) (edge sadr stag : Bs) (ten ask at_ frm til : Int) (ta : Option Addr) (tn tc : Nat) (qa : Option Addr) (qn qc : Nat) (ended : Bool) (tags : List Bs) (parts : List PartM) (B : Nat) (w : World) (hp : RowsV pubR 5 w va ps) (hn : ps.length ≤ 1000000) (hpa : ∀ p ∈ ps, PubAt w B p) (hall : RowsV spanR 3 w allv (spansM ps)) (hin : ∀ p ∈ ps, inB p.at_ ∧ inB p.lim) (hat : inB at_) (hask : inB ask) :
    Calls Tryz.prog 58 #[.agg #[va, vb, vc, vd, ve, .int .i64 bound, .int .i64 fin], allv, .agg #[.string ⟨edge.toArray⟩, .string ⟨sadr.toArray⟩, .string ⟨stag.toArray⟩, .int .i64 ten, .int .i64 ask, .int .i64 at_, .int .i64 frm, .int .i64 til, .slice ta tn tc, .slice qa qn qc, .bool ended]] w fun e w' => e = .returned (.bool (oldB ⟨ps, gs, ss, fs, ds, bound, fin⟩ ⟨edge, sadr, stag, ten, ask, at_, frm, til, .slice ta tn tc, tags, .slice qa qn qc, parts, ended⟩)) ∧ Below w.heap.size w w' := by
  obtain ⟨pa, pc, rfl, _⟩ := hp.form
  obtain ⟨xa, xc, rfl, _⟩ := hall.form
  rw [spansM_len] at hall ⊢
  obtain ⟨h, hh⟩ : ∃ h : HisM, (⟨ps, gs, ss, fs, ds, bound, fin⟩ : HisM) = h := ⟨_, rfl⟩
  obtain ⟨s, hs⟩ : ∃ s : SrvM, (⟨edge, sadr, stag, ten, ask, at_, frm, til, .slice ta tn tc, tags, .slice qa qn qc, parts, ended⟩ : SrvM) = s := ⟨_, rfl⟩
  rw [hh, hs]
  have HV0 : Hid (versM h.pubs s.addr s.tag = versM ps sadr stag) := Lib.hid (by rw [← hh, ← hs])
  have HLB : Hid (∀ (i : Nat) (p : PubM), ps[i]? = some p → inLimB h s i = ((lastM (spanI ps i) at_).2 && decide (ask - (lastM (spanI ps i) at_).1 ≤ p.lim))) := Lib.hid (fun i p hp => by rw [← hh, ← hs]; unfold inLimB; simp only [hp])
  have HYES := Lib.hid (fun (i : Nat) (hi : i ∈ versM ps sadr stag) hl => old_yes (h := h) (s := s) (by rw [HV0.out]; exact hi) hl)
  have HEND := Lib.hid (fun (ha : ∀ (k i : Nat), (versM ps sadr stag)[k]? = some i → inLimB h s i = false) => (old_end (h := h) (s := s) (by rw [HV0.out]; exact ha)).trans (by rw [HV0.out]))
  have HB0 := Lib.hid (((Below.refl w.heap.size w).alloc (Nat.le_refl _) (.cells #[.slice pa ps.length pc, vb, vc, vd, ve, .int .i64 bound, .int .i64 fin] 69)).alloc (by simp) (.cells #[.string ⟨edge.toArray⟩, .string ⟨sadr.toArray⟩, .string ⟨stag.toArray⟩, .int .i64 ten, .int .i64 ask, .int .i64 at_, .int .i64 frm, .int .i64 til, .slice ta tn tc, .slice qa qn qc, .bool ended] 82))
  have HXH := Lib.hid ((Bx.new w 69 #[.slice pa ps.length pc, vb, vc, vd, ve, .int .i64 bound, .int .i64 fin]).older ((Below.refl _ _).alloc (Nat.le_refl _) (.cells #[.string ⟨edge.toArray⟩, .string ⟨sadr.toArray⟩, .string ⟨stag.toArray⟩, .int .i64 ten, .int .i64 ask, .int .i64 at_, .int .i64 frm, .int .i64 til, .slice ta tn tc, .slice qa qn qc, .bool ended] 82)))
  have HXS := Lib.hid (show Bx ((w.alloc (.cells #[.slice pa ps.length pc, vb, vc, vd, ve, .int .i64 bound, .int .i64 fin] 69)).alloc (.cells #[.string ⟨edge.toArray⟩, .string ⟨sadr.toArray⟩, .string ⟨stag.toArray⟩, .int .i64 ten, .int .i64 ask, .int .i64 at_, .int .i64 frm, .int .i64 til, .slice ta tn tc, .slice qa qn qc, .bool ended] 82)) (w.heap.size + 1) 82 #[.string ⟨edge.toArray⟩, .string ⟨sadr.toArray⟩, .string ⟨stag.toArray⟩, .int .i64 ten, .int .i64 ask, .int .i64 at_, .int .i64 frm, .int .i64 til, .slice ta tn tc, .slice qa qn qc, .bool ended] by have := Bx.new (w.alloc (.cells #[.slice pa ps.length pc, vb, vc, vd, ve, .int .i64 bound, .int .i64 fin] 69)) 82 #[.string ⟨edge.toArray⟩, .string ⟨sadr.toArray⟩, .string ⟨stag.toArray⟩, .int .i64 ten, .int .i64 ask, .int .i64 at_, .int .i64 frm, .int .i64 til, .slice ta tn tc, .slice qa qn qc, .bool ended]; simpa using this)
  have HP := Lib.hid hp
  have HAL := Lib.hid hall
  have HPA := Lib.hid hpa
  have HIN := Lib.hid hin
  have HAT := Lib.hid hat
  have HN := Lib.hid hn
  have HCA : Hid (∀ w, Calls Tryz.prog 57 #[.int .i64 ask] w fun e w' => e = .returned (.int .i64 ask) ∧ w = w') := Lib.hid (fun w => by have := hclip_any ask w; rwa [clipN_in hask] at this)
  have hkb : -1152921504606846976 ≤ ask ∧ ask ≤ 1152921504606846976 := hask
  clear hp hall hpa hin hat hask hn hh hs HV0
  go_enter Tryz.func58, Tryz.ntmps58
  go_wp2_with fail
  obtain ⟨w1, hw1⟩ : ∃ z, (w.alloc (.cells #[.slice pa ps.length pc, vb, vc, vd, ve, .int .i64 bound, .int .i64 fin] 69)).alloc (.cells #[.string ⟨edge.toArray⟩, .string ⟨sadr.toArray⟩, .string ⟨stag.toArray⟩, .int .i64 ten, .int .i64 ask, .int .i64 at_, .int .i64 frm, .int .i64 til, .slice ta tn tc, .slice qa qn qc, .bool ended] 82) = z := ⟨_, rfl⟩
  obtain ⟨b0, hb0⟩ : ∃ z, w.heap.size = z := ⟨_, rfl⟩
  obtain ⟨b1, hb1⟩ : ∃ z, w.heap.size + 1 = z := ⟨_, rfl⟩
  rw [hw1] at HB0 HXH HXS ⊢
  rw [hb1] at HXS ⊢
  rw [hb0] at HXH ⊢
  have HB1 : Hid (Below w.heap.size w w1) := HB0
  clear hw1 HB0 hb1
  refine (versions_any ps (.slice pa ps.length pc) vb vc vd ve bound fin sadr stag B _ (HP.out.below HB1.out) HN.out (fun p hp => by have := HPA.out p hp; exact ⟨this.1, this.2.1, this.2.2.1.older HB1.out, this.2.2.2.1, this.2.2.2.2.below HB1.out⟩)).mono ?_
  rintro e w2 ⟨oa, oc, rfl, ho2, hb2⟩
  obtain ⟨vs, hvs⟩ : ∃ vs, versM ps sadr stag = vs := ⟨_, rfl⟩
  rw [hvs] at HYES HEND ho2 ⊢
  have HMEM := Lib.hid (fun (i : Nat) (hi : i ∈ vs) => versM_mem.1 (hvs ▸ hi))
  have HB2 := Lib.hid (HB1.out.trans (hb2.mono HB1.out.size))
  have HXH2 := Lib.hid (HXH.out.older hb2)
  have HXS2 := Lib.hid (HXS.out.older hb2)
  have HO2 := Lib.hid ho2
  have hvl : vs.length ≤ 1000000 := by rw [← hvs]; exact Nat.le_trans (versM_len _ _ _) HN.out
  clear ho2 hb2 HXH HXS HB1 hvs
  go_wp2_with fail
  go_loopg [20] vs.length (fun gq iv wr => ∃ k : Nat, iv = .int .i64 k ∧ k ≤ vs.length ∧ Hid (vs.length ≤ gq + k) ∧ Hid (∀ (j i : Nat), j < k → vs[j]? = some i → inLimB h s i = false) ∧ Hid (Below w2.heap.size w2 wr))
  case atStart => exact ⟨0, rfl, Nat.zero_le _, Lib.hid (by omega), Lib.hid (fun j i hj => by omega), Lib.hid (Below.refl _ _)⟩
  case round =>
    obtain ⟨k, rfl, hk, HQ, HNO, HBW⟩ := hrel
    by_cases hlt : k < vs.length
    · have HLT := Lib.hid hlt
      obtain ⟨i, hik⟩ : ∃ i, vs[k]? = some i := ⟨_, List.getElem?_eq_getElem hlt⟩
      obtain ⟨p, hpi, _⟩ := HMEM.out i (List.mem_of_getElem? hik)
      have HIK := Lib.hid hik
      have hil := (List.getElem?_eq_some_iff.1 hpi).1
      have hpin := HIN.out p (List.mem_of_getElem? hpi)
      have htil := endO_in (fun p hp => (HIN.out p hp).1) i
      have htl := lastM_in (x := spanI ps i) (u := at_) (by rw [spanI_at hpi]; exact htil) HAT.out
      have htl0 : inB (spanI ps i).til := by rw [spanI_at hpi]; exact htil
      have htl1 : -4611686018427387904 ≤ (spanI ps i).til := by unfold inB at htl0; omega
      have htl2 : (spanI ps i).til ≤ 4611686018427387904 := by unfold inB at htl0; omega
      have hlb := HLB.out i p hpi
      have hlim : inB p.lim := hpin.2
      have HCL : Hid (∀ w, Calls Tryz.prog 57 #[.int .i64 p.lim] w fun e w' => e = .returned (.int .i64 p.lim) ∧ w = w') := Lib.hid (fun w => by have := hclip_any p.lim w; rwa [clipN_in hlim] at this)
      obtain ⟨og, oo, oc', e9, _, _, _, _, hcell⟩ := HO2.out.cells (by omega)
      cases e9
      have o0 := keepH HBW.out (hcell k (.int .i64 (i : Int)) (by unfold ivals; rw [List.getElem?_map, hik]; rfl))
      obtain ⟨pb, po, rfl, _, _, hprow⟩ := row_at HP.out hpi
      obtain ⟨xb, xo, e8, _, _, hxrow⟩ := row_at (HAL.out) (spansM_get hil)
      cases e8
      have y1 := keepH HBW.out (keepH HB2.out (hprow 1 _ rfl))
      have x0 := keepH HBW.out (keepH HB2.out (hxrow 0 _ rfl))
      have x1 := keepH HBW.out (keepH HB2.out (hxrow 1 _ rfl))
      have x2 := keepH HBW.out (keepH HB2.out (hxrow 2 _ rfl))
      rw [Nat.add_zero] at x0
      have s4 := (HXS2.out.older HBW.out).cell (i := 4) rfl
      have s5 := (HXS2.out.older HBW.out).cell (i := 5) rfl
      have h0 := (HXH2.out.older HBW.out).cell (i := 0) rfl
      clear hpin htil htl0 hcell hprow hxrow hik hlim
      obtain ⟨plim, hplim⟩ : ∃ z, p.lim = z := ⟨_, rfl⟩
      rw [hplim] at y1 HCL hlb
      clear hplim hpi
      go_wp2_with fail
      refine wp_region_held_drew (S := (fun w' => w'.cell? ⟨b1, 5, none⟩ = some (.int .i64 at_) ∧ w'.cell? ⟨xb, xo + i * 3, none⟩ = some (.int .i64 (spanI ps i).frm) ∧ w'.cell? ⟨xb, xo + i * 3 + 1, none⟩ = some (.int .i64 (spanI ps i).til) ∧ w'.cell? ⟨xb, xo + i * 3 + 2, none⟩ = some (.bool (spanI ps i).ends))) (by kernel_rfl) (by exact ⟨s5, x0, x1, x2⟩) (fun hHeld => ?_)
      refine Hd.tk 0 ?_
      try simp only [Act.put, List.setIfInBounds_toArray, List.set_cons_zero, List.set_cons_succ]
      refine Hd.tk 1 ?_
      try simp only [Act.put, List.setIfInBounds_toArray, List.set_cons_zero, List.set_cons_succ]
      refine Hd.tk 2 ?_
      try simp only [Act.put, List.setIfInBounds_toArray, List.set_cons_zero, List.set_cons_succ]
      refine Hd.tk 3 ?_
      try simp only [Act.put, List.setIfInBounds_toArray, List.set_cons_zero, List.set_cons_succ]
      refine Hd.tk 4 ?_
      try simp only [Act.put, List.setIfInBounds_toArray, List.set_cons_zero, List.set_cons_succ]
      refine Hd.tk 5 ?_
      try simp only [Act.put, List.setIfInBounds_toArray, List.set_cons_zero, List.set_cons_succ]
      refine wpAnyH_ready (rs := [6]) (by kernel_rfl) (by simp) (AllReadyH.cons (by simp only [List.getElem?_toArray, List.getElem?_cons_succ, List.getElem?_cons_zero]; rfl) (fun K hK => ?_) AllReadyH.nil)
      go_simp
      go_at_call 80
      refine (last_any (spanI ps i) at_ _ htl1 htl2).mono ?_
      rintro e wq1 ⟨rfl, hq1⟩
      have hqw1 : Below wr.heap.size wr wq1 := ((Below.refl _ _).drew).trans hq1
      go_wp2_with fail
      refine hK.out _ _ (by exact ⟨keepH hqw1 s5, keepH hqw1 x0, keepH hqw1 x1, keepH hqw1 x2⟩) (fun hHe1 => ?_)
      clear hK K
      try simp only [Act.put, List.setIfInBounds_toArray, List.set_cons_zero, List.set_cons_succ]
      refine Hd.tk 7 ?_
      try simp only [Act.put, List.setIfInBounds_toArray, List.set_cons_zero, List.set_cons_succ]
      refine Hd.tk 8 ?_
      try simp only [Act.put, List.setIfInBounds_toArray, List.set_cons_zero, List.set_cons_succ]
      refine Hd.tk 9 ?_
      try simp only [Act.put, List.setIfInBounds_toArray, List.set_cons_zero, List.set_cons_succ]
      refine Hd.tk 10 ?_
      try simp only [Act.put, List.setIfInBounds_toArray, List.set_cons_zero, List.set_cons_succ]
      refine Hd.tk 11 ?_
      try simp only [Act.put, List.setIfInBounds_toArray, List.set_cons_zero, List.set_cons_succ]
      refine wpAnyH_done (by kernel_rfl) ?_ _
      obtain ⟨m, okb, hmo⟩ : ∃ m okb, lastM (spanI ps i) at_ = (m, okb) := ⟨_, _, rfl⟩
      rw [hmo] at htl hlb ⊢
      simp only at htl hlb ⊢
      have HLM := Lib.hid hlb
      have HCM : Hid (∀ w, Calls Tryz.prog 57 #[.int .i64 m] w fun e w' => e = .returned (.int .i64 m) ∧ w = w') := Lib.hid (fun w => by have := hclip_any m w; rwa [show clipN m = m by unfold clipN farN; omega] at this)
      have hw1 : IntKind.i64.wrap (ask - m) = ask - m := IntWalk.i64_in _ (by omega)
      have HBQ := Lib.hid (HBW.out.trans (hqw1.mono HBW.out.size))
      have hq4 := keepH hqw1 s4
      have hq0 := keepH hqw1 h0
      have hqy := keepH hqw1 y1
      clear hlb hmo s4 s5 h0 y1 x0 x1 x2 htl o0
      have s4 := hq4
      have h0 := hq0
      have y1 := hqy
      clear hq4 hq0 hqy htl1 htl2
      cases okb with
      | false =>
        go_wp2_with fail
        refine wp_region_held_drew (S := (fun w' => w'.cell? ⟨b1, 4, none⟩ = some (.int .i64 ask) ∧ w'.cell? ⟨b0, 0, none⟩ = some (.slice (some ⟨pb, po, none⟩) ps.length pc) ∧ w'.cell? ⟨pb, po + i * 5 + 1, none⟩ = some (.int .i64 plim))) (by kernel_rfl) (by exact ⟨s4, h0, y1⟩) (fun hHeld => ?_)
        refine Hd.tk 0 ?_
        try simp only [Act.put, List.setIfInBounds_toArray, List.set_cons_zero, List.set_cons_succ]
        refine Hd.tk 1 ?_
        try simp only [Act.put, List.setIfInBounds_toArray, List.set_cons_zero, List.set_cons_succ]
        refine Hd.sk 2 ?_
        try simp only [Act.put, List.setIfInBounds_toArray, List.set_cons_zero, List.set_cons_succ]
        refine Hd.sk 3 ?_
        try simp only [Act.put, List.setIfInBounds_toArray, List.set_cons_zero, List.set_cons_succ]
        refine Hd.sk 4 ?_
        try simp only [Act.put, List.setIfInBounds_toArray, List.set_cons_zero, List.set_cons_succ]
        refine Hd.sk 5 ?_
        try simp only [Act.put, List.setIfInBounds_toArray, List.set_cons_zero, List.set_cons_succ]
        refine Hd.sk 6 ?_
        try simp only [Act.put, List.setIfInBounds_toArray, List.set_cons_zero, List.set_cons_succ]
        refine Hd.sk 7 ?_
        try simp only [Act.put, List.setIfInBounds_toArray, List.set_cons_zero, List.set_cons_succ]
        refine Hd.sk 8 ?_
        try simp only [Act.put, List.setIfInBounds_toArray, List.set_cons_zero, List.set_cons_succ]
        refine Hd.sk 9 ?_
        try simp only [Act.put, List.setIfInBounds_toArray, List.set_cons_zero, List.set_cons_succ]
        refine Hd.sk 10 ?_
        try simp only [Act.put, List.setIfInBounds_toArray, List.set_cons_zero, List.set_cons_succ]
        refine Hd.sk 11 ?_
        try simp only [Act.put, List.setIfInBounds_toArray, List.set_cons_zero, List.set_cons_succ]
        refine Hd.sk 12 ?_
        try simp only [Act.put, List.setIfInBounds_toArray, List.set_cons_zero, List.set_cons_succ]
        refine Hd.sk 13 ?_
        try simp only [Act.put, List.setIfInBounds_toArray, List.set_cons_zero, List.set_cons_succ]
        refine Hd.sk 14 ?_
        try simp only [Act.put, List.setIfInBounds_toArray, List.set_cons_zero, List.set_cons_succ]
        refine Hd.sk 15 ?_
        try simp only [Act.put, List.setIfInBounds_toArray, List.set_cons_zero, List.set_cons_succ]
        refine Hd.tk 16 ?_
        try simp only [Act.put, List.setIfInBounds_toArray, List.set_cons_zero, List.set_cons_succ]
        refine wpAnyH_done (by kernel_rfl) ?_ _
        go_wp2_with fail
        go_roundg (gk - 1)
        case rel => exact ⟨k + 1, by go_num, by omega, Lib.hid (by have := HQ.out; omega), Lib.hid (fun j i2 hj hi2 => by
          rcases Nat.lt_succ_iff_lt_or_eq.1 hj with h9 | rfl
          · exact HNO.out j i2 h9 hi2
          · rw [HIK.out] at hi2; cases hi2; exact HLM.out), Lib.hid HBQ.out.drew⟩
        case measure => have := HQ.out; have := HLT.out; omega
      | true =>
        by_cases hle : ask - m ≤ plim
        · have HD := Lib.hid (HYES.out i (List.mem_of_getElem? HIK.out) (by rw [HLM.out, decide_eq_true hle]; rfl))
          go_wp2_with fail
          refine wp_region_held_drew (S := (fun w' => w'.cell? ⟨b1, 4, none⟩ = some (.int .i64 ask) ∧ w'.cell? ⟨b0, 0, none⟩ = some (.slice (some ⟨pb, po, none⟩) ps.length pc) ∧ w'.cell? ⟨pb, po + i * 5 + 1, none⟩ = some (.int .i64 plim))) (by kernel_rfl) (by exact ⟨s4, h0, y1⟩) (fun hHeld => ?_)
          refine Hd.tk 0 ?_
          try simp only [Act.put, List.setIfInBounds_toArray, List.set_cons_zero, List.set_cons_succ]
          refine Hd.tk 1 ?_
          try simp only [Act.put, List.setIfInBounds_toArray, List.set_cons_zero, List.set_cons_succ]
          refine Hd.tk 2 ?_
          try simp only [Act.put, List.setIfInBounds_toArray, List.set_cons_zero, List.set_cons_succ]
          refine Hd.tk 3 ?_
          try simp only [Act.put, List.setIfInBounds_toArray, List.set_cons_zero, List.set_cons_succ]
          refine Hd.tk 5 ?_
          try simp only [Act.put, List.setIfInBounds_toArray, List.set_cons_zero, List.set_cons_succ]
          refine Hd.tk 8 ?_
          try simp only [Act.put, List.setIfInBounds_toArray, List.set_cons_zero, List.set_cons_succ]
          refine Hd.tk 9 ?_
          try simp only [Act.put, List.setIfInBounds_toArray, List.set_cons_zero, List.set_cons_succ]
          refine Hd.tk 10 ?_
          try simp only [Act.put, List.setIfInBounds_toArray, List.set_cons_zero, List.set_cons_succ]
          refine Hd.tk 11 ?_
          try simp only [Act.put, List.setIfInBounds_toArray, List.set_cons_zero, List.set_cons_succ]
          refine Hd.tk 12 ?_
          try simp only [Act.put, List.setIfInBounds_toArray, List.set_cons_zero, List.set_cons_succ]
          refine Hd.tk 13 ?_
          try simp only [Act.put, List.setIfInBounds_toArray, List.set_cons_zero, List.set_cons_succ]
          refine wpAnyH_ready (rs := [4]) (by kernel_rfl) (by simp) (AllReadyH.cons (by simp only [List.getElem?_toArray, List.getElem?_cons_succ, List.getElem?_cons_zero]; rfl) (fun K hK => ?_) AllReadyH.nil)
          go_simp
          go_at_call 57
          refine (HCA.out _).mono ?_
          rintro e wq2 ⟨rfl, rfl⟩
          go_wp2_with fail
          refine hK.out _ _ (by exact ⟨s4, h0, y1⟩) (fun hHe2 => ?_)
          clear hK K
          try simp only [Act.put, List.setIfInBounds_toArray, List.set_cons_zero, List.set_cons_succ]
          refine wpAnyH_ready (rs := [6]) (by kernel_rfl) (by simp) (AllReadyH.cons (by simp only [List.getElem?_toArray, List.getElem?_cons_succ, List.getElem?_cons_zero]; rfl) (fun K hK => ?_) AllReadyH.nil)
          go_simp
          go_at_call 57
          refine (HCM.out _).mono ?_
          rintro e wq3 ⟨rfl, rfl⟩
          go_wp2_with fail
          refine hK.out _ _ (by exact ⟨s4, h0, y1⟩) (fun hHe3 => ?_)
          clear hK K
          try simp only [Act.put, List.setIfInBounds_toArray, List.set_cons_zero, List.set_cons_succ]
          refine Hd.tk 7 ?_
          try simp only [Act.put, List.setIfInBounds_toArray, List.set_cons_zero, List.set_cons_succ]
          refine wpAnyH_ready (rs := [14]) (by kernel_rfl) (by simp) (AllReadyH.cons (by simp only [List.getElem?_toArray, List.getElem?_cons_succ, List.getElem?_cons_zero]; rfl) (fun K hK => ?_) AllReadyH.nil)
          go_simp
          go_at_call 57
          refine (HCL.out _).mono ?_
          rintro e wq4 ⟨rfl, rfl⟩
          go_wp2_with fail
          refine hK.out _ _ (by exact ⟨s4, h0, y1⟩) (fun hHe4 => ?_)
          clear hK K
          try simp only [Act.put, List.setIfInBounds_toArray, List.set_cons_zero, List.set_cons_succ]
          refine Hd.tk 15 ?_
          try simp only [Act.put, List.setIfInBounds_toArray, List.set_cons_zero, List.set_cons_succ]
          refine Hd.tk 16 ?_
          try simp only [Act.put, List.setIfInBounds_toArray, List.set_cons_zero, List.set_cons_succ]
          refine wpAnyH_done (by kernel_rfl) ?_ _
          go_wp2_with fail
          rw [HD.out]
          go_ret
          exact ⟨rfl, HB2.out.trans (HBQ.out.drew.mono HB2.out.size)⟩
        · have hlf : decide (ask - m ≤ plim) = false := decide_eq_false hle
          have HD := Lib.hid (show inLimB h s i = false by rw [HLM.out, hlf]; rfl)
          go_wp2_with fail
          refine wp_region_held_drew (S := (fun w' => w'.cell? ⟨b1, 4, none⟩ = some (.int .i64 ask) ∧ w'.cell? ⟨b0, 0, none⟩ = some (.slice (some ⟨pb, po, none⟩) ps.length pc) ∧ w'.cell? ⟨pb, po + i * 5 + 1, none⟩ = some (.int .i64 plim))) (by kernel_rfl) (by exact ⟨s4, h0, y1⟩) (fun hHeld => ?_)
          refine Hd.tk 0 ?_
          try simp only [Act.put, List.setIfInBounds_toArray, List.set_cons_zero, List.set_cons_succ]
          refine Hd.tk 1 ?_
          try simp only [Act.put, List.setIfInBounds_toArray, List.set_cons_zero, List.set_cons_succ]
          refine Hd.tk 2 ?_
          try simp only [Act.put, List.setIfInBounds_toArray, List.set_cons_zero, List.set_cons_succ]
          refine Hd.tk 3 ?_
          try simp only [Act.put, List.setIfInBounds_toArray, List.set_cons_zero, List.set_cons_succ]
          refine Hd.tk 5 ?_
          try simp only [Act.put, List.setIfInBounds_toArray, List.set_cons_zero, List.set_cons_succ]
          refine Hd.tk 8 ?_
          try simp only [Act.put, List.setIfInBounds_toArray, List.set_cons_zero, List.set_cons_succ]
          refine Hd.tk 9 ?_
          try simp only [Act.put, List.setIfInBounds_toArray, List.set_cons_zero, List.set_cons_succ]
          refine Hd.tk 10 ?_
          try simp only [Act.put, List.setIfInBounds_toArray, List.set_cons_zero, List.set_cons_succ]
          refine Hd.tk 11 ?_
          try simp only [Act.put, List.setIfInBounds_toArray, List.set_cons_zero, List.set_cons_succ]
          refine Hd.tk 12 ?_
          try simp only [Act.put, List.setIfInBounds_toArray, List.set_cons_zero, List.set_cons_succ]
          refine Hd.tk 13 ?_
          try simp only [Act.put, List.setIfInBounds_toArray, List.set_cons_zero, List.set_cons_succ]
          refine wpAnyH_ready (rs := [4]) (by kernel_rfl) (by simp) (AllReadyH.cons (by simp only [List.getElem?_toArray, List.getElem?_cons_succ, List.getElem?_cons_zero]; rfl) (fun K hK => ?_) AllReadyH.nil)
          go_simp
          go_at_call 57
          refine (HCA.out _).mono ?_
          rintro e wq2 ⟨rfl, rfl⟩
          go_wp2_with fail
          refine hK.out _ _ (by exact ⟨s4, h0, y1⟩) (fun hHe2 => ?_)
          clear hK K
          try simp only [Act.put, List.setIfInBounds_toArray, List.set_cons_zero, List.set_cons_succ]
          refine wpAnyH_ready (rs := [6]) (by kernel_rfl) (by simp) (AllReadyH.cons (by simp only [List.getElem?_toArray, List.getElem?_cons_succ, List.getElem?_cons_zero]; rfl) (fun K hK => ?_) AllReadyH.nil)
          go_simp
          go_at_call 57
          refine (HCM.out _).mono ?_
          rintro e wq3 ⟨rfl, rfl⟩
          go_wp2_with fail
          refine hK.out _ _ (by exact ⟨s4, h0, y1⟩) (fun hHe3 => ?_)
          clear hK K
          try simp only [Act.put, List.setIfInBounds_toArray, List.set_cons_zero, List.set_cons_succ]
          refine Hd.tk 7 ?_
          try simp only [Act.put, List.setIfInBounds_toArray, List.set_cons_zero, List.set_cons_succ]
          refine wpAnyH_ready (rs := [14]) (by kernel_rfl) (by simp) (AllReadyH.cons (by simp only [List.getElem?_toArray, List.getElem?_cons_succ, List.getElem?_cons_zero]; rfl) (fun K hK => ?_) AllReadyH.nil)
          go_simp
          go_at_call 57
          refine (HCL.out _).mono ?_
          rintro e wq4 ⟨rfl, rfl⟩
          go_wp2_with fail
          refine hK.out _ _ (by exact ⟨s4, h0, y1⟩) (fun hHe4 => ?_)
          clear hK K
          try simp only [Act.put, List.setIfInBounds_toArray, List.set_cons_zero, List.set_cons_succ]
          refine Hd.tk 15 ?_
          try simp only [Act.put, List.setIfInBounds_toArray, List.set_cons_zero, List.set_cons_succ]
          refine Hd.tk 16 ?_
          try simp only [Act.put, List.setIfInBounds_toArray, List.set_cons_zero, List.set_cons_succ]
          refine wpAnyH_done (by kernel_rfl) ?_ _
          go_wp2_with fail
          go_roundg (gk - 1)
          case rel => exact ⟨k + 1, by go_num, by omega, Lib.hid (by have := HQ.out; omega), Lib.hid (fun j i2 hj hi2 => by
            rcases Nat.lt_succ_iff_lt_or_eq.1 hj with h9 | rfl
            · exact HNO.out j i2 h9 hi2
            · rw [HIK.out] at hi2; cases hi2; exact HD.out), Lib.hid HBQ.out.drew⟩
          case measure => have := HQ.out; have := HLT.out; omega
    · obtain rfl : k = vs.length := by omega
      have HD := Lib.hid (HEND.out (fun j i hi => HNO.out j i (List.getElem?_eq_some_iff.1 hi).1 hi))
      go_wp2_with fail
      rw [HD.out]
      go_ret
      exact ⟨rfl, HB2.out.trans (HBW.out.mono HB2.out.size)⟩
end Hy
end Go.Proofs.YtjijijjkkhpjnaaGreatDoor
end

