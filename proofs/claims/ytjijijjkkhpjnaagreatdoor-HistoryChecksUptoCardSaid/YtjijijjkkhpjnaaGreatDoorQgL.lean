/- Contracts and plain facts that the statement's proof leans on (texts joined). No condition beyond those that each names. -/
import Derived.Test.YtjijijjkkhpjnaaGreatDoorQgK
section
namespace Go.Proofs.YtjijijjkkhpjnaaGreatDoor
open Go.RowKit Pl Ad
attribute [local go_sem] ba_get ba_append ba_extract conv_one
set_option maxRecDepth 100000
set_option maxHeartbeats 4000000
set_option linter.unusedVariables false
set_option linter.unusedSimpArgs false
namespace Hy
open A1 Kr
/-- What a history's values hold. -/
structure HisAt (w : World) (B : Nat) (va vb vc vd ve : Value) (h : HisM) : Prop where
  pubs : RowsV pubR 5 w va h.pubs
  npub : h.pubs.length ≤ B
  pub : ∀ p ∈ h.pubs, PubAt w B p
  prgs : RowsV prgR 3 w vb h.prgs
  nprg : h.prgs.length ≤ B
  prg : ∀ g ∈ h.prgs, PrgAt w B g
  srvs : RowsV srvR 11 w vc h.srvs
  nsrv : h.srvs.length ≤ B
  srv : ∀ s ∈ h.srvs, SrvAt w B s
  fets : RowsV fetR 6 w vd h.fets
  nfet : h.fets.length ≤ B
  fet : ∀ f ∈ h.fets, FetAt w B f
  dros : RowsV droR 3 w ve h.dros
  ndro : h.dros.length ≤ B
  dro : ∀ d ∈ h.dros, DroAt w B d
theorem PubAt.below {w w' : World} {B : Nat} {p : PubM} (h : PubAt w B p) (hb : Below w.heap.size w w') : PubAt w' B p := ⟨h.1, h.2.1, h.2.2.1.older hb, h.2.2.2.1, h.2.2.2.2.below hb⟩
theorem PartAt.below {w w' : World} {B : Nat} {x : PartM} (h : PartAt w B x) (hb : Below w.heap.size w w') : PartAt w' B x := ⟨h.1.older hb, h.2⟩
theorem SrvAt.below {w w' : World} {B : Nat} {s : SrvM} (h : SrvAt w B s) (hb : Below w.heap.size w w') : SrvAt w' B s := by
  obtain ⟨h1, h2, h3, h4, h5, h6, h7, h8, h9⟩ := h
  exact ⟨h1, h2, h3, h4.below hb, h5, h6, h7.below hb, h8, fun x hx => (h9 x hx).below hb⟩
theorem HisAt.below {w w' : World} {B : Nat} {va vb vc vd ve : Value} {h : HisM} (k : HisAt w B va vb vc vd ve h) (hb : Below w.heap.size w w') : HisAt w' B va vb vc vd ve h :=
  ⟨k.pubs.below hb, k.npub, fun p hp => (k.pub p hp).below hb, k.prgs.below hb, k.nprg, k.prg, k.srvs.below hb, k.nsrv, fun s hs => (k.srv s hs).below hb, k.fets.below hb, k.nfet, k.fet, k.dros.below hb, k.ndro, k.dro⟩
theorem tyVio : SliceTy Tryz.prog 72 90 3 32 :=
  ⟨Tryz.underlying72, by
    obtain ⟨i, h1, h2, h3, h4⟩ := info_parts (show (Tryz.prog.info? 90).map (fun i => (i.zero, i.size, i.bytes)) = some (some (.agg #[.int .i64 0, .int .i64 0, .string ⟨#[]⟩]), 3, 32) by kernel_rfl)
    exact ⟨i, _, h1, h2, h3, h4, rfl⟩, by decide, by decide⟩
theorem rule1_any (h : HisM) (va vb vc vd ve : Value) (B : Nat) (w : World) (hr : Ready w) (hpw : ParseAt w) (ha : HisAt w B va vb vc vd ve h) (hsm : h.Small) (hB : B ≤ 134217728) :
    Calls Tryz.prog 31 #[.agg #[va, vb, vc, vd, ve, .int .i64 h.bound, .int .i64 h.fin], .int .i64 1] w fun e w' => ∃ v, e = .returned v ∧ OwnWin w' w.heap.size 90 3 v (vio1 h).length (vvals (vio1 h)) ∧ Below w.heap.size w w' := by
  obtain ⟨ps, gs, ss, fs, ds, bound, fin⟩ := h
  obtain ⟨la, lc, rfl, _⟩ := ha.srvs.form
  simp only at ha hsm ⊢
  have HA := Lib.hid ha
  have HSM := Lib.hid hsm
  have HBB := Lib.hid hB
  have HRY := Lib.hid hr
  have HPW := Lib.hid hpw
  have hll : ss.length ≤ 134217728 := Nat.le_trans ha.nsrv hB
  have HB0 := Lib.hid ((Below.refl w.heap.size w).alloc (Nat.le_refl _) (.cells #[va, vb, .slice la ss.length lc, vd, ve, .int .i64 bound, .int .i64 fin] 69))
  have HXH := Lib.hid (Bx.new w 69 #[va, vb, .slice la ss.length lc, vd, ve, .int .i64 bound, .int .i64 fin])
  clear ha hsm hB hr hpw
  go_enter Tryz.func31, Tryz.ntmps31
  go_wp2_with fail
  refine (spans_any ps va B _ (HA.out.below HB0.out).pubs (by have h91 := HSM.out.npub; simp only at h91; omega) (HA.out.below HB0.out).pub (by have := HBB.out; omega)).mono ?_
  rintro e w2 ⟨allv, rfl, hsp, hb2⟩
  have HB2 := Lib.hid (HB0.out.trans (hb2.mono HB0.out.size))
  have HXH2 := Lib.hid (HXH.out.older hb2)
  have HSP2 := Lib.hid hsp
  have HA2 := Lib.hid (HA.out.below HB2.out)
  obtain ⟨b0, hb0⟩ : ∃ z, w.heap.size = z := ⟨_, rfl⟩
  rw [hb0] at HXH2 ⊢
  clear hb2 hsp hb0 HXH HB0
  have h2 := HXH2.out.cell (i := 2) rfl
  go_wp2_with fail
  go_loopg [26, 5] ss.length (fun gq iv vv wr => ∃ (k : Nat) (acc : List VioM) (a : Option Addr) (c : Nat), iv = .int .i64 k ∧ vv = .slice a acc.length c ∧ k ≤ ss.length ∧ acc.length ≤ k ∧ Hid (ss.length ≤ gq + k) ∧ Hid (vioF 1 tx1 (fun _ s => purgedB ⟨ps, gs, ss, fs, ds, bound, fin⟩ s) ss 0 = acc ++ vioF 1 tx1 (fun _ s => purgedB ⟨ps, gs, ss, fs, ds, bound, fin⟩ s) (ss.drop k) k) ∧ Hid (Below w2.heap.size w2 wr) ∧ Hid (OwnWin wr w2.heap.size 90 3 (.slice a acc.length c) acc.length (vvals acc)))
  case atStart => exact ⟨0, [], none, 0, rfl, rfl, Nat.zero_le _, Nat.le_refl _, Lib.hid (by omega), Lib.hid rfl, Lib.hid (Below.refl _ _), Lib.hid (OwnWin.nil _ _ _ _)⟩
  case round =>
    obtain ⟨k, acc, a, c, rfl, rfl, hk, hacc, HQ, HV, HBW, HO⟩ := hrel
    have h0 := (HXH2.out.older HBW.out).cell (i := 0) rfl
    have h1 := (HXH2.out.older HBW.out).cell (i := 1) rfl
    have h2 := (HXH2.out.older HBW.out).cell (i := 2) rfl
    have h3 := (HXH2.out.older HBW.out).cell (i := 3) rfl
    have h4 := (HXH2.out.older HBW.out).cell (i := 4) rfl
    have h5 := (HXH2.out.older HBW.out).cell (i := 5) rfl
    have h6 := (HXH2.out.older HBW.out).cell (i := 6) rfl
    have hz0 := (HXH2.out.older HBW.out).lt
    by_cases hlt : k < ss.length
    · have HLT := Lib.hid hlt
      have hkb : k < 134217728 := by omega
      have HACC := Lib.hid (show acc.length + 1 ≤ 1099511627776 by omega)
      have HAW := Lib.hid (HA2.out.below HBW.out)
      obtain ⟨x, hxk⟩ : ∃ x, ss[k]? = some x := ⟨_, List.getElem?_eq_getElem hlt⟩
      have HXK := Lib.hid hxk
      have HVS := Lib.hid (HV.out.trans (congrArg (acc ++ ·) (vioF_drop (r := 1) (tx := tx1) (bad := (fun _ s => purgedB ⟨ps, gs, ss, fs, ds, bound, fin⟩ s)) hxk)))
      have hsr := HAW.out.srv x (List.mem_of_getElem? hxk)
      have HSR := Lib.hid hsr
      have hsm := HSM.out.srvs x (List.mem_of_getElem? hxk)
      have HSX := Lib.hid hsm
      obtain ⟨b3, o3, rfl, _, hbz, hrow⟩ := row_at HAW.out.srvs hxk
      obtain ⟨edge, sadr, stag, ten, ask, at_, frm, til, tgv, tags, ptv, parts, ended⟩ := x
      obtain ⟨ta, tc, htv⟩ := hsr.2.2.2.1.form
      obtain ⟨qa, qc, hqv, _⟩ := hsr.2.2.2.2.2.2.1.form
      simp only at htv hqv
      subst htv hqv
      have d0 := hrow 0 _ rfl
      have d1 := hrow 1 _ rfl
      have d2 := hrow 2 _ rfl
      have d3 := hrow 3 _ rfl
      have d4 := hrow 4 _ rfl
      have d5 := hrow 5 _ rfl
      have d6 := hrow 6 _ rfl
      have d7 := hrow 7 _ rfl
      have d8 := hrow 8 _ rfl
      have d9 := hrow 9 _ rfl
      have d10 := hrow 10 _ rfl
      rw [Nat.add_zero] at d0
      have HBX := Lib.hid (HBW.out.alloc HBW.out.size (.cells #[.string ⟨edge.toArray⟩, .string ⟨sadr.toArray⟩, .string ⟨stag.toArray⟩, .int .i64 ten, .int .i64 ask, .int .i64 at_, .int .i64 frm, .int .i64 til, .slice ta tags.length tc, .slice qa parts.length qc, .bool ended] 82))
      have HOX := Lib.hid (HO.out.older ((Below.refl _ _).alloc (Nat.le_refl _) (.cells #[.string ⟨edge.toArray⟩, .string ⟨sadr.toArray⟩, .string ⟨stag.toArray⟩, .int .i64 ten, .int .i64 ask, .int .i64 at_, .int .i64 frm, .int .i64 til, .slice ta tags.length tc, .slice qa parts.length qc, .bool ended] 82)))
      clear hsr hsm hrow hxk
      go_wp2_with fail
      refine (purged_any ps gs ss fs ds va vb (.slice (some ⟨b3, o3, none⟩) ss.length lc) vd ve bound fin allv edge sadr stag ten ask at_ frm til ta tags.length tc qa parts.length qc ended tags parts B _ (HRY.out.below (HB2.out.trans (HBX.out.mono HB2.out.size))) (HPW.out.below (HB2.out.trans (HBX.out.mono HB2.out.size))) (HAW.out.below ((Below.refl _ _).alloc (Nat.le_refl _) (.cells #[.string ⟨edge.toArray⟩, .string ⟨sadr.toArray⟩, .string ⟨stag.toArray⟩, .int .i64 ten, .int .i64 ask, .int .i64 at_, .int .i64 frm, .int .i64 til, .slice ta tags.length tc, .slice qa parts.length qc, .bool ended] 82))).pubs (by have h91 := HSM.out.npub; have h92 := HBB.out; simp only at h91; omega) (HAW.out.below ((Below.refl _ _).alloc (Nat.le_refl _) (.cells #[.string ⟨edge.toArray⟩, .string ⟨sadr.toArray⟩, .string ⟨stag.toArray⟩, .int .i64 ten, .int .i64 ask, .int .i64 at_, .int .i64 frm, .int .i64 til, .slice ta tags.length tc, .slice qa parts.length qc, .bool ended] 82))).pub (HSP2.out.below HBX.out) (HAW.out.below ((Below.refl _ _).alloc (Nat.le_refl _) (.cells #[.string ⟨edge.toArray⟩, .string ⟨sadr.toArray⟩, .string ⟨stag.toArray⟩, .int .i64 ten, .int .i64 ask, .int .i64 at_, .int .i64 frm, .int .i64 til, .slice ta tags.length tc, .slice qa parts.length qc, .bool ended] 82))).prgs (by have h91 := HSM.out.nprg; have h92 := HBB.out; simp only at h91; omega) (HAW.out.below ((Below.refl _ _).alloc (Nat.le_refl _) (.cells #[.string ⟨edge.toArray⟩, .string ⟨sadr.toArray⟩, .string ⟨stag.toArray⟩, .int .i64 ten, .int .i64 ask, .int .i64 at_, .int .i64 frm, .int .i64 til, .slice ta tags.length tc, .slice qa parts.length qc, .bool ended] 82))).prg (SrvAt.below HSR.out ((Below.refl _ _).alloc (Nat.le_refl _) (.cells #[.string ⟨edge.toArray⟩, .string ⟨sadr.toArray⟩, .string ⟨stag.toArray⟩, .int .i64 ten, .int .i64 ask, .int .i64 at_, .int .i64 frm, .int .i64 til, .slice ta tags.length tc, .slice qa parts.length qc, .bool ended] 82))).2.2.2.1 HSR.out.2.2.2.2.1 HSR.out.2.1 (SrvAt.below HSR.out ((Below.refl _ _).alloc (Nat.le_refl _) (.cells #[.string ⟨edge.toArray⟩, .string ⟨sadr.toArray⟩, .string ⟨stag.toArray⟩, .int .i64 ten, .int .i64 ask, .int .i64 at_, .int .i64 frm, .int .i64 til, .slice ta tags.length tc, .slice qa parts.length qc, .bool ended] 82))).2.2.2.2.2.2.1 HSR.out.2.2.2.2.2.2.2.1 (SrvAt.below HSR.out ((Below.refl _ _).alloc (Nat.le_refl _) (.cells #[.string ⟨edge.toArray⟩, .string ⟨sadr.toArray⟩, .string ⟨stag.toArray⟩, .int .i64 ten, .int .i64 ask, .int .i64 at_, .int .i64 frm, .int .i64 til, .slice ta tags.length tc, .slice qa parts.length qc, .bool ended] 82))).2.2.2.2.2.2.2.2 HBB.out).mono ?_
      cases hbad : purgedB ⟨ps, gs, ss, fs, ds, bound, fin⟩ ⟨edge, sadr, stag, ten, ask, at_, frm, til, .slice ta tags.length tc, tags, .slice qa parts.length qc, parts, ended⟩ with
      | true =>
        have HBAD := Lib.hid hbad
        clear hbad
        rintro e w3 ⟨rfl, hb3⟩
        have HB3 := Lib.hid (HBX.out.trans (hb3.mono HBX.out.size))
        have HO3 := Lib.hid (HOX.out.older hb3)
        clear hb3 d0 d1 d2 d3 d4 d5 d6 d7 d8 d9 d10
        have HBZ := Lib.hid (HB3.out.alloc HB3.out.size (.cells #[.int .i64 1, .int .i64 (k : Int), .string ⟨#[115, 101, 114, 118, 101, 100, 32, 97, 102, 116, 101, 114, 32, 97, 32, 112, 117, 114, 103, 101]⟩] 90))
        have HOZ := Lib.hid (HO3.out.older ((Below.refl _ _).alloc (Nat.le_refl _) (.cells #[.int .i64 1, .int .i64 (k : Int), .string ⟨#[115, 101, 114, 118, 101, 100, 32, 97, 102, 116, 101, 114, 32, 97, 32, 112, 117, 114, 103, 101]⟩] 90)))
        go_wp2_with (at_builtin; refine wpList_appw tyVio (by rfl) _ _ (by rfl) w2.heap.size (.slice a acc.length c) acc.length _ (by rfl) HOZ.out HBZ.out.size (.slice (some ⟨w3.heap.size, 0, none⟩) 1 1) 1 [.int .i64 1, .int .i64 (k : Int), .string ⟨#[115, 101, 114, 118, 101, 100, 32, 97, 102, 116, 101, 114, 32, 97, 32, 112, 117, 114, 103, 101]⟩] (by rfl) (SrcAt.one (heap_alloc_new w3 _)) (by rfl) (by simp [Value.oneCell']) HACC.out ?_; intro v4 w4 hown4 hgrow4 hlies4; have HO4 := Lib.hid hown4; have HG4 := Lib.hid hgrow4; clear hown4 hgrow4 hlies4)
        have HOW4 := Lib.hid (show OwnWin w4 w2.heap.size 90 3 v4 (acc ++ [(⟨1, (k : Int), tx1⟩ : VioM)]).length (vvals (acc ++ [(⟨1, (k : Int), tx1⟩ : VioM)])) by rw [List.length_append, vvals_append, vvals_one]; exact HO4.out)
        obtain ⟨a4, c4, rfl, _⟩ := HOW4.out.form
        have HB4 := Lib.hid (HBZ.out.grown HG4.out HBZ.out.size (fun q hq => (HOZ.out.lt q hq).1))
        go_roundg (gk - 1)
        case rel => exact ⟨k + 1, acc ++ [(⟨1, (k : Int), tx1⟩ : VioM)], a4, c4, by go_num, rfl, by have := HLT.out; omega, by simp; omega, Lib.hid (by have := HQ.out; omega), Lib.hid (by rw [HVS.out, if_pos HBAD.out]; simp), HB4, HOW4⟩
        case measure => have := HQ.out; have := HLT.out; omega
      | false =>
        have HBAD := Lib.hid hbad
        clear hbad
        rintro e w3 ⟨rfl, hb3⟩
        have HB3 := Lib.hid (HBX.out.trans (hb3.mono HBX.out.size))
        have HO3 := Lib.hid (HOX.out.older hb3)
        clear hb3 d0 d1 d2 d3 d4 d5 d6 d7 d8 d9 d10
        go_wp2_with fail
        go_roundg (gk - 1)
        case rel => exact ⟨k + 1, acc, a, c, by go_num, rfl, by have := HLT.out; omega, by omega, Lib.hid (by have := HQ.out; omega), Lib.hid (by rw [HVS.out, if_neg (by rw [HBAD.out]; decide)]), Lib.hid HB3.out, Lib.hid HO3.out⟩
        case measure => have := HQ.out; have := HLT.out; omega
    · obtain rfl : k = ss.length := by omega
      have HE := Lib.hid (show vioF 1 tx1 (fun _ s => purgedB ⟨ps, gs, ss, fs, ds, bound, fin⟩ s) ss 0 = acc by rw [HV.out, vioF_end (Nat.le_refl _), List.append_nil])
      go_wp2_with fail
      go_ret
      exact ⟨_, rfl, by show OwnWin _ _ _ _ _ (vioF 1 tx1 (fun _ s => purgedB ⟨ps, gs, ss, fs, ds, bound, fin⟩ s) ss 0).length (vvals (vioF 1 tx1 (fun _ s => purgedB ⟨ps, gs, ss, fs, ds, bound, fin⟩ s) ss 0)); rw [HE.out]; exact HO.out.mono (fun q hq => Nat.le_trans HB2.out.size (HO.out.lt q hq).1), HB2.out.trans (HBW.out.mono HB2.out.size)⟩
theorem rule2_any (h : HisM) (va vb vc vd ve : Value) (B : Nat) (w : World) (hr : Ready w) (hpw : ParseAt w) (ha : HisAt w B va vb vc vd ve h) (hsm : h.Small) (hB : B ≤ 134217728) :
    Calls Tryz.prog 31 #[.agg #[va, vb, vc, vd, ve, .int .i64 h.bound, .int .i64 h.fin], .int .i64 2] w fun e w' => ∃ v, e = .returned v ∧ OwnWin w' w.heap.size 90 3 v (vio2 h).length (vvals (vio2 h)) ∧ Below w.heap.size w w' := by
  obtain ⟨ps, gs, ss, fs, ds, bound, fin⟩ := h
  obtain ⟨la, lc, rfl, _⟩ := ha.prgs.form
  simp only at ha hsm ⊢
  have HA := Lib.hid ha
  have HSM := Lib.hid hsm
  have HBB := Lib.hid hB
  have HRY := Lib.hid hr
  have HPW := Lib.hid hpw
  have hll : gs.length ≤ 134217728 := Nat.le_trans ha.nprg hB
  have HB0 := Lib.hid ((Below.refl w.heap.size w).alloc (Nat.le_refl _) (.cells #[va, .slice la gs.length lc, vc, vd, ve, .int .i64 bound, .int .i64 fin] 69))
  have HXH := Lib.hid (Bx.new w 69 #[va, .slice la gs.length lc, vc, vd, ve, .int .i64 bound, .int .i64 fin])
  clear ha hsm hB hr hpw
  go_enter Tryz.func31, Tryz.ntmps31
  go_wp2_with fail
  refine (spans_any ps va B _ (HA.out.below HB0.out).pubs (by have h91 := HSM.out.npub; simp only at h91; omega) (HA.out.below HB0.out).pub (by have := HBB.out; omega)).mono ?_
  rintro e w2 ⟨allv, rfl, hsp, hb2⟩
  have HB2 := Lib.hid (HB0.out.trans (hb2.mono HB0.out.size))
  have HXH2 := Lib.hid (HXH.out.older hb2)
  have HSP2 := Lib.hid hsp
  have HA2 := Lib.hid (HA.out.below HB2.out)
  obtain ⟨b0, hb0⟩ : ∃ z, w.heap.size = z := ⟨_, rfl⟩
  rw [hb0] at HXH2 ⊢
  clear hb2 hsp hb0 HXH HB0
  have h1 := HXH2.out.cell (i := 1) rfl
  go_wp2_with fail
  go_loopg [47, 5] gs.length (fun gq iv vv wr => ∃ (k : Nat) (acc : List VioM) (a : Option Addr) (c : Nat), iv = .int .i64 k ∧ vv = .slice a acc.length c ∧ k ≤ gs.length ∧ acc.length ≤ k ∧ Hid (gs.length ≤ gq + k) ∧ Hid (vioF 2 tx2 (fun _ g => lateB ⟨ps, gs, ss, fs, ds, bound, fin⟩ g) gs 0 = acc ++ vioF 2 tx2 (fun _ g => lateB ⟨ps, gs, ss, fs, ds, bound, fin⟩ g) (gs.drop k) k) ∧ Hid (Below w2.heap.size w2 wr) ∧ Hid (OwnWin wr w2.heap.size 90 3 (.slice a acc.length c) acc.length (vvals acc)))
  case atStart => exact ⟨0, [], none, 0, rfl, rfl, Nat.zero_le _, Nat.le_refl _, Lib.hid (by omega), Lib.hid rfl, Lib.hid (Below.refl _ _), Lib.hid (OwnWin.nil _ _ _ _)⟩
  case round =>
    obtain ⟨k, acc, a, c, rfl, rfl, hk, hacc, HQ, HV, HBW, HO⟩ := hrel
    have h0 := (HXH2.out.older HBW.out).cell (i := 0) rfl
    have h1 := (HXH2.out.older HBW.out).cell (i := 1) rfl
    have h2 := (HXH2.out.older HBW.out).cell (i := 2) rfl
    have h3 := (HXH2.out.older HBW.out).cell (i := 3) rfl
    have h4 := (HXH2.out.older HBW.out).cell (i := 4) rfl
    have h5 := (HXH2.out.older HBW.out).cell (i := 5) rfl
    have h6 := (HXH2.out.older HBW.out).cell (i := 6) rfl
    have hz0 := (HXH2.out.older HBW.out).lt
    by_cases hlt : k < gs.length
    · have HLT := Lib.hid hlt
      have hkb : k < 134217728 := by omega
      have HACC := Lib.hid (show acc.length + 1 ≤ 1099511627776 by omega)
      have HAW := Lib.hid (HA2.out.below HBW.out)
      obtain ⟨x, hxk⟩ : ∃ x, gs[k]? = some x := ⟨_, List.getElem?_eq_getElem hlt⟩
      have HXK := Lib.hid hxk
      have HVS := Lib.hid (HV.out.trans (congrArg (acc ++ ·) (vioF_drop (r := 2) (tx := tx2) (bad := (fun _ g => lateB ⟨ps, gs, ss, fs, ds, bound, fin⟩ g)) hxk)))
      have hsm := HSM.out.prgs x (List.mem_of_getElem? hxk)
      obtain ⟨b3, o3, rfl, _, hbz, hrow⟩ := row_at HAW.out.prgs hxk
      obtain ⟨gt, go, gs_⟩ := x
      simp only at hsm
      have d0 := hrow 0 _ rfl
      have d1 := hrow 1 _ rfl
      have d2 := hrow 2 _ rfl
      rw [Nat.add_zero] at d0
      have HBX := Lib.hid (HBW.out.alloc HBW.out.size (.cells #[.string ⟨gt.toArray⟩, .int .i64 go, .int .i64 gs_] 97))
      have HOX := Lib.hid (HO.out.older ((Below.refl _ _).alloc (Nat.le_refl _) (.cells #[.string ⟨gt.toArray⟩, .int .i64 go, .int .i64 gs_] 97)))
      have HXG := Lib.hid (Bx.new wr 97 #[.string ⟨gt.toArray⟩, .int .i64 go, .int .i64 gs_])
      have HIF := Lib.hid HSM.out.fin
      have HIS := Lib.hid hsm.2
      have HCO : Hid (∀ w, Calls Tryz.prog 57 #[.int .i64 go] w fun e w' => e = .returned (.int .i64 go) ∧ w = w') := Lib.hid (fun w => by have := hclip_any go w; rwa [clipN_in hsm.1] at this)
      have HCB : Hid (∀ w, Calls Tryz.prog 57 #[.int .i64 bound] w fun e w' => e = .returned (.int .i64 bound) ∧ w = w') := Lib.hid (fun w => by have := hclip_any bound w; rwa [clipN_in HSM.out.bound] at this)
      have hw2 : IntKind.i64.wrap (go + bound) = go + bound := IntWalk.i64_in _ (by have h91 := hsm.1; have h92 := HSM.out.bound; unfold inB at h91 h92; simp only at h92; omega)
      clear hsm hrow hxk
      by_cases hst : gs_ < 0
      · have HEE := Lib.hid (show (if gs_ < 0 then fin else gs_) = fin from if_pos hst)
        have HIE : Hid (inB fin) := HIF
        have HCE : Hid (∀ w, Calls Tryz.prog 57 #[.int .i64 fin] w fun e w' => e = .returned (.int .i64 fin) ∧ w = w') := Lib.hid (fun w => by have := hclip_any fin w; rwa [clipN_in HIE.out] at this)
        go_wp2_with fail
        obtain ⟨w3, hw3⟩ : ∃ z, wr.alloc (.cells #[.string ⟨gt.toArray⟩, .int .i64 go, .int .i64 gs_] 97) = z := ⟨_, rfl⟩
        obtain ⟨bg, hbg⟩ : ∃ z, wr.heap.size = z := ⟨_, rfl⟩
        rw [hw3] at HBX HOX HXG ⊢
        rw [hbg] at HXG ⊢
        clear hw3 hbg d0 d1 d2 h0 h1 h2 h3 h4 h5 h6 hz0
        have g1 := HXG.out.cell (i := 1) rfl
        have h5 := (HXH2.out.older HBX.out).cell (i := 5) rfl
        by_cases hgt : go + bound < fin
        · have HBAD := Lib.hid (show lateB ⟨ps, gs, ss, fs, ds, bound, fin⟩ ⟨gt, go, gs_⟩ = true by unfold lateB; simp only; rw [HEE.out]; exact decide_eq_true hgt)
          refine wp_region_held_drew (S := (fun w' => w'.cell? ⟨bg, 1, none⟩ = some (.int .i64 go) ∧ w'.cell? ⟨b0, 5, none⟩ = some (.int .i64 bound))) (by kernel_rfl) (by exact ⟨g1, h5⟩) (fun hHeld => ?_)
          refine Hd.tk 0 ?_
          try simp only [Act.put, List.setIfInBounds_toArray, List.set_cons_zero, List.set_cons_succ]
          refine Hd.tk 2 ?_
          try simp only [Act.put, List.setIfInBounds_toArray, List.set_cons_zero, List.set_cons_succ]
          refine Hd.tk 3 ?_
          try simp only [Act.put, List.setIfInBounds_toArray, List.set_cons_zero, List.set_cons_succ]
          refine Hd.tk 5 ?_
          try simp only [Act.put, List.setIfInBounds_toArray, List.set_cons_zero, List.set_cons_succ]
          refine Hd.tk 6 ?_
          try simp only [Act.put, List.setIfInBounds_toArray, List.set_cons_zero, List.set_cons_succ]
          refine wpAnyH_ready (rs := [1]) (by kernel_rfl) (by simp) (AllReadyH.cons (by simp only [List.getElem?_toArray, List.getElem?_cons_succ, List.getElem?_cons_zero]; rfl) (fun K hK => ?_) AllReadyH.nil)
          go_simp
          go_at_call 57
          refine (HCE.out _).mono ?_
          rintro e wq1 ⟨rfl, rfl⟩
          go_wp2_with fail
          refine hK.out _ _ (by exact ⟨g1, h5⟩) (fun hHe1 => ?_)
          clear hK K
          try simp only [Act.put, List.setIfInBounds_toArray, List.set_cons_zero, List.set_cons_succ]
          refine wpAnyH_ready (rs := [4]) (by kernel_rfl) (by simp) (AllReadyH.cons (by simp only [List.getElem?_toArray, List.getElem?_cons_succ, List.getElem?_cons_zero]; rfl) (fun K hK => ?_) AllReadyH.nil)
          go_simp
          go_at_call 57
          refine (HCO.out _).mono ?_
          rintro e wq2 ⟨rfl, rfl⟩
          go_wp2_with fail
          refine hK.out _ _ (by exact ⟨g1, h5⟩) (fun hHe2 => ?_)
          clear hK K
          try simp only [Act.put, List.setIfInBounds_toArray, List.set_cons_zero, List.set_cons_succ]
          refine wpAnyH_ready (rs := [7]) (by kernel_rfl) (by simp) (AllReadyH.cons (by simp only [List.getElem?_toArray, List.getElem?_cons_succ, List.getElem?_cons_zero]; rfl) (fun K hK => ?_) AllReadyH.nil)
          go_simp
          go_at_call 57
          refine (HCB.out _).mono ?_
          rintro e wq3 ⟨rfl, rfl⟩
          go_wp2_with fail
          refine hK.out _ _ (by exact ⟨g1, h5⟩) (fun hHe3 => ?_)
          clear hK K
          try simp only [Act.put, List.setIfInBounds_toArray, List.set_cons_zero, List.set_cons_succ]
          refine Hd.tk 8 ?_
          try simp only [Act.put, List.setIfInBounds_toArray, List.set_cons_zero, List.set_cons_succ]
          refine Hd.tk 9 ?_
          try simp only [Act.put, List.setIfInBounds_toArray, List.set_cons_zero, List.set_cons_succ]
          refine wpAnyH_done (by kernel_rfl) ?_ _
          have HB3 := Lib.hid HBX.out.drew
          have HO3 := Lib.hid (HOX.out.older (Below.refl _ _).drew)
          have HBZ := Lib.hid (HB3.out.alloc HB3.out.size (.cells #[.int .i64 2, .int .i64 (k : Int), .string ⟨#[112, 117, 114, 103, 101, 32, 110, 111, 116, 32, 97, 110, 115, 119, 101, 114, 101, 100, 32, 105, 110, 32, 116, 105, 109, 101]⟩] 90))
          have HOZ := Lib.hid (HO3.out.older ((Below.refl _ _).alloc (Nat.le_refl _) (.cells #[.int .i64 2, .int .i64 (k : Int), .string ⟨#[112, 117, 114, 103, 101, 32, 110, 111, 116, 32, 97, 110, 115, 119, 101, 114, 101, 100, 32, 105, 110, 32, 116, 105, 109, 101]⟩] 90)))
          go_wp2_with (at_builtin; refine wpList_appw tyVio (by rfl) _ _ (by rfl) w2.heap.size (.slice a acc.length c) acc.length _ (by rfl) HOZ.out HBZ.out.size (.slice (some ⟨w3.drew.heap.size, 0, none⟩) 1 1) 1 [.int .i64 2, .int .i64 (k : Int), .string ⟨#[112, 117, 114, 103, 101, 32, 110, 111, 116, 32, 97, 110, 115, 119, 101, 114, 101, 100, 32, 105, 110, 32, 116, 105, 109, 101]⟩] (by rfl) (SrcAt.one (heap_alloc_new w3.drew _)) (by rfl) (by simp [Value.oneCell']) HACC.out ?_; intro v4 w4 hown4 hgrow4 hlies4; have HO4 := Lib.hid hown4; have HG4 := Lib.hid hgrow4; clear hown4 hgrow4 hlies4)
          have HOW4 := Lib.hid (show OwnWin w4 w2.heap.size 90 3 v4 (acc ++ [(⟨2, (k : Int), tx2⟩ : VioM)]).length (vvals (acc ++ [(⟨2, (k : Int), tx2⟩ : VioM)])) by rw [List.length_append, vvals_append, vvals_one]; exact HO4.out)
          obtain ⟨a4, c4, rfl, _⟩ := HOW4.out.form
          have HB4 := Lib.hid (HBZ.out.grown HG4.out HBZ.out.size (fun q hq => (HOZ.out.lt q hq).1))
          go_roundg (gk - 1)
          case rel => exact ⟨k + 1, acc ++ [(⟨2, (k : Int), tx2⟩ : VioM)], a4, c4, by go_num, rfl, by have := HLT.out; omega, by simp; omega, Lib.hid (by have := HQ.out; omega), Lib.hid (by rw [HVS.out, if_pos HBAD.out]; simp), HB4, HOW4⟩
          case measure => have := HQ.out; have := HLT.out; omega
        · have HBAD := Lib.hid (show lateB ⟨ps, gs, ss, fs, ds, bound, fin⟩ ⟨gt, go, gs_⟩ = false by unfold lateB; simp only; rw [HEE.out]; exact decide_eq_false hgt)
          have hgf : decide (go + bound < fin) = false := decide_eq_false hgt
          refine wp_region_held_drew (S := (fun w' => w'.cell? ⟨bg, 1, none⟩ = some (.int .i64 go) ∧ w'.cell? ⟨b0, 5, none⟩ = some (.int .i64 bound))) (by kernel_rfl) (by exact ⟨g1, h5⟩) (fun hHeld => ?_)
          refine Hd.tk 0 ?_
          try simp only [Act.put, List.setIfInBounds_toArray, List.set_cons_zero, List.set_cons_succ]
          refine Hd.tk 2 ?_
          try simp only [Act.put, List.setIfInBounds_toArray, List.set_cons_zero, List.set_cons_succ]
          refine Hd.tk 3 ?_
          try simp only [Act.put, List.setIfInBounds_toArray, List.set_cons_zero, List.set_cons_succ]
          refine Hd.tk 5 ?_
          try simp only [Act.put, List.setIfInBounds_toArray, List.set_cons_zero, List.set_cons_succ]
          refine Hd.tk 6 ?_
          try simp only [Act.put, List.setIfInBounds_toArray, List.set_cons_zero, List.set_cons_succ]
          refine wpAnyH_ready (rs := [1]) (by kernel_rfl) (by simp) (AllReadyH.cons (by simp only [List.getElem?_toArray, List.getElem?_cons_succ, List.getElem?_cons_zero]; rfl) (fun K hK => ?_) AllReadyH.nil)
          go_simp
          go_at_call 57
          refine (HCE.out _).mono ?_
          rintro e wq1 ⟨rfl, rfl⟩
          go_wp2_with fail
          refine hK.out _ _ (by exact ⟨g1, h5⟩) (fun hHe1 => ?_)
          clear hK K
          try simp only [Act.put, List.setIfInBounds_toArray, List.set_cons_zero, List.set_cons_succ]
          refine wpAnyH_ready (rs := [4]) (by kernel_rfl) (by simp) (AllReadyH.cons (by simp only [List.getElem?_toArray, List.getElem?_cons_succ, List.getElem?_cons_zero]; rfl) (fun K hK => ?_) AllReadyH.nil)
          go_simp
          go_at_call 57
          refine (HCO.out _).mono ?_
          rintro e wq2 ⟨rfl, rfl⟩
          go_wp2_with fail
          refine hK.out _ _ (by exact ⟨g1, h5⟩) (fun hHe2 => ?_)
          clear hK K
          try simp only [Act.put, List.setIfInBounds_toArray, List.set_cons_zero, List.set_cons_succ]
          refine wpAnyH_ready (rs := [7]) (by kernel_rfl) (by simp) (AllReadyH.cons (by simp only [List.getElem?_toArray, List.getElem?_cons_succ, List.getElem?_cons_zero]; rfl) (fun K hK => ?_) AllReadyH.nil)
          go_simp
          go_at_call 57
          refine (HCB.out _).mono ?_
          rintro e wq3 ⟨rfl, rfl⟩
          go_wp2_with fail
          refine hK.out _ _ (by exact ⟨g1, h5⟩) (fun hHe3 => ?_)
          clear hK K
          try simp only [Act.put, List.setIfInBounds_toArray, List.set_cons_zero, List.set_cons_succ]
          refine Hd.tk 8 ?_
          try simp only [Act.put, List.setIfInBounds_toArray, List.set_cons_zero, List.set_cons_succ]
          refine Hd.tk 9 ?_
          try simp only [Act.put, List.setIfInBounds_toArray, List.set_cons_zero, List.set_cons_succ]
          refine wpAnyH_done (by kernel_rfl) ?_ _
          have HB3 := Lib.hid HBX.out.drew
          have HO3 := Lib.hid (HOX.out.older (Below.refl _ _).drew)
          go_wp2_with fail
          go_roundg (gk - 1)
          case rel => exact ⟨k + 1, acc, a, c, by go_num, rfl, by have := HLT.out; omega, by omega, Lib.hid (by have := HQ.out; omega), Lib.hid (by rw [HVS.out, if_neg (by rw [HBAD.out]; decide)]), Lib.hid HB3.out, Lib.hid HO3.out⟩
          case measure => have := HQ.out; have := HLT.out; omega
      · have HEE := Lib.hid (show (if gs_ < 0 then fin else gs_) = gs_ from if_neg hst)
        have HIE : Hid (inB gs_) := HIS
        have hsf : decide (gs_ < 0) = false := decide_eq_false hst
        have HCE : Hid (∀ w, Calls Tryz.prog 57 #[.int .i64 gs_] w fun e w' => e = .returned (.int .i64 gs_) ∧ w = w') := Lib.hid (fun w => by have := hclip_any gs_ w; rwa [clipN_in HIE.out] at this)
        go_wp2_with fail
        obtain ⟨w3, hw3⟩ : ∃ z, wr.alloc (.cells #[.string ⟨gt.toArray⟩, .int .i64 go, .int .i64 gs_] 97) = z := ⟨_, rfl⟩
        obtain ⟨bg, hbg⟩ : ∃ z, wr.heap.size = z := ⟨_, rfl⟩
        rw [hw3] at HBX HOX HXG ⊢
        rw [hbg] at HXG ⊢
        clear hw3 hbg d0 d1 d2 h0 h1 h2 h3 h4 h5 h6 hz0
        have g1 := HXG.out.cell (i := 1) rfl
        have h5 := (HXH2.out.older HBX.out).cell (i := 5) rfl
        by_cases hgt : go + bound < gs_
        · have HBAD := Lib.hid (show lateB ⟨ps, gs, ss, fs, ds, bound, fin⟩ ⟨gt, go, gs_⟩ = true by unfold lateB; simp only; rw [HEE.out]; exact decide_eq_true hgt)
          refine wp_region_held_drew (S := (fun w' => w'.cell? ⟨bg, 1, none⟩ = some (.int .i64 go) ∧ w'.cell? ⟨b0, 5, none⟩ = some (.int .i64 bound))) (by kernel_rfl) (by exact ⟨g1, h5⟩) (fun hHeld => ?_)
          refine Hd.tk 0 ?_
          try simp only [Act.put, List.setIfInBounds_toArray, List.set_cons_zero, List.set_cons_succ]
          refine Hd.tk 2 ?_
          try simp only [Act.put, List.setIfInBounds_toArray, List.set_cons_zero, List.set_cons_succ]
          refine Hd.tk 3 ?_
          try simp only [Act.put, List.setIfInBounds_toArray, List.set_cons_zero, List.set_cons_succ]
          refine Hd.tk 5 ?_
          try simp only [Act.put, List.setIfInBounds_toArray, List.set_cons_zero, List.set_cons_succ]
          refine Hd.tk 6 ?_
          try simp only [Act.put, List.setIfInBounds_toArray, List.set_cons_zero, List.set_cons_succ]
          refine wpAnyH_ready (rs := [1]) (by kernel_rfl) (by simp) (AllReadyH.cons (by simp only [List.getElem?_toArray, List.getElem?_cons_succ, List.getElem?_cons_zero]; rfl) (fun K hK => ?_) AllReadyH.nil)
          go_simp
          go_at_call 57
          refine (HCE.out _).mono ?_
          rintro e wq1 ⟨rfl, rfl⟩
          go_wp2_with fail
          refine hK.out _ _ (by exact ⟨g1, h5⟩) (fun hHe1 => ?_)
          clear hK K
          try simp only [Act.put, List.setIfInBounds_toArray, List.set_cons_zero, List.set_cons_succ]
          refine wpAnyH_ready (rs := [4]) (by kernel_rfl) (by simp) (AllReadyH.cons (by simp only [List.getElem?_toArray, List.getElem?_cons_succ, List.getElem?_cons_zero]; rfl) (fun K hK => ?_) AllReadyH.nil)
          go_simp
          go_at_call 57
          refine (HCO.out _).mono ?_
          rintro e wq2 ⟨rfl, rfl⟩
          go_wp2_with fail
          refine hK.out _ _ (by exact ⟨g1, h5⟩) (fun hHe2 => ?_)
          clear hK K
          try simp only [Act.put, List.setIfInBounds_toArray, List.set_cons_zero, List.set_cons_succ]
          refine wpAnyH_ready (rs := [7]) (by kernel_rfl) (by simp) (AllReadyH.cons (by simp only [List.getElem?_toArray, List.getElem?_cons_succ, List.getElem?_cons_zero]; rfl) (fun K hK => ?_) AllReadyH.nil)
          go_simp
          go_at_call 57
          refine (HCB.out _).mono ?_
          rintro e wq3 ⟨rfl, rfl⟩
          go_wp2_with fail
          refine hK.out _ _ (by exact ⟨g1, h5⟩) (fun hHe3 => ?_)
          clear hK K
          try simp only [Act.put, List.setIfInBounds_toArray, List.set_cons_zero, List.set_cons_succ]
          refine Hd.tk 8 ?_
          try simp only [Act.put, List.setIfInBounds_toArray, List.set_cons_zero, List.set_cons_succ]
          refine Hd.tk 9 ?_
          try simp only [Act.put, List.setIfInBounds_toArray, List.set_cons_zero, List.set_cons_succ]
          refine wpAnyH_done (by kernel_rfl) ?_ _
          have HB3 := Lib.hid HBX.out.drew
          have HO3 := Lib.hid (HOX.out.older (Below.refl _ _).drew)
          have HBZ := Lib.hid (HB3.out.alloc HB3.out.size (.cells #[.int .i64 2, .int .i64 (k : Int), .string ⟨#[112, 117, 114, 103, 101, 32, 110, 111, 116, 32, 97, 110, 115, 119, 101, 114, 101, 100, 32, 105, 110, 32, 116, 105, 109, 101]⟩] 90))
          have HOZ := Lib.hid (HO3.out.older ((Below.refl _ _).alloc (Nat.le_refl _) (.cells #[.int .i64 2, .int .i64 (k : Int), .string ⟨#[112, 117, 114, 103, 101, 32, 110, 111, 116, 32, 97, 110, 115, 119, 101, 114, 101, 100, 32, 105, 110, 32, 116, 105, 109, 101]⟩] 90)))
          go_wp2_with (at_builtin; refine wpList_appw tyVio (by rfl) _ _ (by rfl) w2.heap.size (.slice a acc.length c) acc.length _ (by rfl) HOZ.out HBZ.out.size (.slice (some ⟨w3.drew.heap.size, 0, none⟩) 1 1) 1 [.int .i64 2, .int .i64 (k : Int), .string ⟨#[112, 117, 114, 103, 101, 32, 110, 111, 116, 32, 97, 110, 115, 119, 101, 114, 101, 100, 32, 105, 110, 32, 116, 105, 109, 101]⟩] (by rfl) (SrcAt.one (heap_alloc_new w3.drew _)) (by rfl) (by simp [Value.oneCell']) HACC.out ?_; intro v4 w4 hown4 hgrow4 hlies4; have HO4 := Lib.hid hown4; have HG4 := Lib.hid hgrow4; clear hown4 hgrow4 hlies4)
          have HOW4 := Lib.hid (show OwnWin w4 w2.heap.size 90 3 v4 (acc ++ [(⟨2, (k : Int), tx2⟩ : VioM)]).length (vvals (acc ++ [(⟨2, (k : Int), tx2⟩ : VioM)])) by rw [List.length_append, vvals_append, vvals_one]; exact HO4.out)
          obtain ⟨a4, c4, rfl, _⟩ := HOW4.out.form
          have HB4 := Lib.hid (HBZ.out.grown HG4.out HBZ.out.size (fun q hq => (HOZ.out.lt q hq).1))
          go_roundg (gk - 1)
          case rel => exact ⟨k + 1, acc ++ [(⟨2, (k : Int), tx2⟩ : VioM)], a4, c4, by go_num, rfl, by have := HLT.out; omega, by simp; omega, Lib.hid (by have := HQ.out; omega), Lib.hid (by rw [HVS.out, if_pos HBAD.out]; simp), HB4, HOW4⟩
          case measure => have := HQ.out; have := HLT.out; omega
        · have HBAD := Lib.hid (show lateB ⟨ps, gs, ss, fs, ds, bound, fin⟩ ⟨gt, go, gs_⟩ = false by unfold lateB; simp only; rw [HEE.out]; exact decide_eq_false hgt)
          have hgf : decide (go + bound < gs_) = false := decide_eq_false hgt
          refine wp_region_held_drew (S := (fun w' => w'.cell? ⟨bg, 1, none⟩ = some (.int .i64 go) ∧ w'.cell? ⟨b0, 5, none⟩ = some (.int .i64 bound))) (by kernel_rfl) (by exact ⟨g1, h5⟩) (fun hHeld => ?_)
          refine Hd.tk 0 ?_
          try simp only [Act.put, List.setIfInBounds_toArray, List.set_cons_zero, List.set_cons_succ]
          refine Hd.tk 2 ?_
          try simp only [Act.put, List.setIfInBounds_toArray, List.set_cons_zero, List.set_cons_succ]
          refine Hd.tk 3 ?_
          try simp only [Act.put, List.setIfInBounds_toArray, List.set_cons_zero, List.set_cons_succ]
          refine Hd.tk 5 ?_
          try simp only [Act.put, List.setIfInBounds_toArray, List.set_cons_zero, List.set_cons_succ]
          refine Hd.tk 6 ?_
          try simp only [Act.put, List.setIfInBounds_toArray, List.set_cons_zero, List.set_cons_succ]
          refine wpAnyH_ready (rs := [1]) (by kernel_rfl) (by simp) (AllReadyH.cons (by simp only [List.getElem?_toArray, List.getElem?_cons_succ, List.getElem?_cons_zero]; rfl) (fun K hK => ?_) AllReadyH.nil)
          go_simp
          go_at_call 57
          refine (HCE.out _).mono ?_
          rintro e wq1 ⟨rfl, rfl⟩
          go_wp2_with fail
          refine hK.out _ _ (by exact ⟨g1, h5⟩) (fun hHe1 => ?_)
          clear hK K
          try simp only [Act.put, List.setIfInBounds_toArray, List.set_cons_zero, List.set_cons_succ]
          refine wpAnyH_ready (rs := [4]) (by kernel_rfl) (by simp) (AllReadyH.cons (by simp only [List.getElem?_toArray, List.getElem?_cons_succ, List.getElem?_cons_zero]; rfl) (fun K hK => ?_) AllReadyH.nil)
          go_simp
          go_at_call 57
          refine (HCO.out _).mono ?_
          rintro e wq2 ⟨rfl, rfl⟩
          go_wp2_with fail
          refine hK.out _ _ (by exact ⟨g1, h5⟩) (fun hHe2 => ?_)
          clear hK K
          try simp only [Act.put, List.setIfInBounds_toArray, List.set_cons_zero, List.set_cons_succ]
          refine wpAnyH_ready (rs := [7]) (by kernel_rfl) (by simp) (AllReadyH.cons (by simp only [List.getElem?_toArray, List.getElem?_cons_succ, List.getElem?_cons_zero]; rfl) (fun K hK => ?_) AllReadyH.nil)
          go_simp
          go_at_call 57
          refine (HCB.out _).mono ?_
          rintro e wq3 ⟨rfl, rfl⟩
          go_wp2_with fail
          refine hK.out _ _ (by exact ⟨g1, h5⟩) (fun hHe3 => ?_)
          clear hK K
          try simp only [Act.put, List.setIfInBounds_toArray, List.set_cons_zero, List.set_cons_succ]
          refine Hd.tk 8 ?_
          try simp only [Act.put, List.setIfInBounds_toArray, List.set_cons_zero, List.set_cons_succ]
          refine Hd.tk 9 ?_
          try simp only [Act.put, List.setIfInBounds_toArray, List.set_cons_zero, List.set_cons_succ]
          refine wpAnyH_done (by kernel_rfl) ?_ _
          have HB3 := Lib.hid HBX.out.drew
          have HO3 := Lib.hid (HOX.out.older (Below.refl _ _).drew)
          go_wp2_with fail
          go_roundg (gk - 1)
          case rel => exact ⟨k + 1, acc, a, c, by go_num, rfl, by have := HLT.out; omega, by omega, Lib.hid (by have := HQ.out; omega), Lib.hid (by rw [HVS.out, if_neg (by rw [HBAD.out]; decide)]), Lib.hid HB3.out, Lib.hid HO3.out⟩
          case measure => have := HQ.out; have := HLT.out; omega
    · obtain rfl : k = gs.length := by omega
      have HE := Lib.hid (show vioF 2 tx2 (fun _ g => lateB ⟨ps, gs, ss, fs, ds, bound, fin⟩ g) gs 0 = acc by rw [HV.out, vioF_end (Nat.le_refl _), List.append_nil])
      go_wp2_with fail
      go_ret
      exact ⟨_, rfl, by show OwnWin _ _ _ _ _ (vioF 2 tx2 (fun _ g => lateB ⟨ps, gs, ss, fs, ds, bound, fin⟩ g) gs 0).length (vvals (vioF 2 tx2 (fun _ g => lateB ⟨ps, gs, ss, fs, ds, bound, fin⟩ g) gs 0)); rw [HE.out]; exact HO.out.mono (fun q hq => Nat.le_trans HB2.out.size (HO.out.lt q hq).1), HB2.out.trans (HBW.out.mono HB2.out.size)⟩
theorem rule3_any (h : HisM) (va vb vc vd ve : Value) (B : Nat) (w : World) (hr : Ready w) (hpw : ParseAt w) (ha : HisAt w B va vb vc vd ve h) (hsm : h.Small) (hB : B ≤ 134217728) :
    Calls Tryz.prog 31 #[.agg #[va, vb, vc, vd, ve, .int .i64 h.bound, .int .i64 h.fin], .int .i64 3] w fun e w' => ∃ v, e = .returned v ∧ OwnWin w' w.heap.size 90 3 v (vio3 h).length (vvals (vio3 h)) ∧ Below w.heap.size w w' := by
  obtain ⟨ps, gs, ss, fs, ds, bound, fin⟩ := h
  obtain ⟨la, lc, rfl, _⟩ := ha.srvs.form
  simp only at ha hsm ⊢
  have HA := Lib.hid ha
  have HSM := Lib.hid hsm
  have HBB := Lib.hid hB
  have HRY := Lib.hid hr
  have HPW := Lib.hid hpw
  have hll : ss.length ≤ 134217728 := Nat.le_trans ha.nsrv hB
  have HB0 := Lib.hid ((Below.refl w.heap.size w).alloc (Nat.le_refl _) (.cells #[va, vb, .slice la ss.length lc, vd, ve, .int .i64 bound, .int .i64 fin] 69))
  have HXH := Lib.hid (Bx.new w 69 #[va, vb, .slice la ss.length lc, vd, ve, .int .i64 bound, .int .i64 fin])
  clear ha hsm hB hr hpw
  go_enter Tryz.func31, Tryz.ntmps31
  go_wp2_with fail
  refine (spans_any ps va B _ (HA.out.below HB0.out).pubs (by have h91 := HSM.out.npub; simp only at h91; omega) (HA.out.below HB0.out).pub (by have := HBB.out; omega)).mono ?_
  rintro e w2 ⟨allv, rfl, hsp, hb2⟩
  have HB2 := Lib.hid (HB0.out.trans (hb2.mono HB0.out.size))
  have HXH2 := Lib.hid (HXH.out.older hb2)
  have HSP2 := Lib.hid hsp
  have HA2 := Lib.hid (HA.out.below HB2.out)
  obtain ⟨b0, hb0⟩ : ∃ z, w.heap.size = z := ⟨_, rfl⟩
  rw [hb0] at HXH2 ⊢
  clear hb2 hsp hb0 HXH HB0
  have h2 := HXH2.out.cell (i := 2) rfl
  go_wp2_with fail
  go_loopg [80, 5] ss.length (fun gq iv vv wr => ∃ (k : Nat) (acc : List VioM) (a : Option Addr) (c : Nat), iv = .int .i64 k ∧ vv = .slice a acc.length c ∧ k ≤ ss.length ∧ acc.length ≤ k ∧ Hid (ss.length ≤ gq + k) ∧ Hid (vioF 3 tx3 (fun _ s => oldB ⟨ps, gs, ss, fs, ds, bound, fin⟩ s) ss 0 = acc ++ vioF 3 tx3 (fun _ s => oldB ⟨ps, gs, ss, fs, ds, bound, fin⟩ s) (ss.drop k) k) ∧ Hid (Below w2.heap.size w2 wr) ∧ Hid (OwnWin wr w2.heap.size 90 3 (.slice a acc.length c) acc.length (vvals acc)))
  case atStart => exact ⟨0, [], none, 0, rfl, rfl, Nat.zero_le _, Nat.le_refl _, Lib.hid (by omega), Lib.hid rfl, Lib.hid (Below.refl _ _), Lib.hid (OwnWin.nil _ _ _ _)⟩
  case round =>
    obtain ⟨k, acc, a, c, rfl, rfl, hk, hacc, HQ, HV, HBW, HO⟩ := hrel
    have h0 := (HXH2.out.older HBW.out).cell (i := 0) rfl
    have h1 := (HXH2.out.older HBW.out).cell (i := 1) rfl
    have h2 := (HXH2.out.older HBW.out).cell (i := 2) rfl
    have h3 := (HXH2.out.older HBW.out).cell (i := 3) rfl
    have h4 := (HXH2.out.older HBW.out).cell (i := 4) rfl
    have h5 := (HXH2.out.older HBW.out).cell (i := 5) rfl
    have h6 := (HXH2.out.older HBW.out).cell (i := 6) rfl
    have hz0 := (HXH2.out.older HBW.out).lt
    by_cases hlt : k < ss.length
    · have HLT := Lib.hid hlt
      have hkb : k < 134217728 := by omega
      have HACC := Lib.hid (show acc.length + 1 ≤ 1099511627776 by omega)
      have HAW := Lib.hid (HA2.out.below HBW.out)
      obtain ⟨x, hxk⟩ : ∃ x, ss[k]? = some x := ⟨_, List.getElem?_eq_getElem hlt⟩
      have HXK := Lib.hid hxk
      have HVS := Lib.hid (HV.out.trans (congrArg (acc ++ ·) (vioF_drop (r := 3) (tx := tx3) (bad := (fun _ s => oldB ⟨ps, gs, ss, fs, ds, bound, fin⟩ s)) hxk)))
      have hsr := HAW.out.srv x (List.mem_of_getElem? hxk)
      have HSR := Lib.hid hsr
      have hsm := HSM.out.srvs x (List.mem_of_getElem? hxk)
      have HSX := Lib.hid hsm
      obtain ⟨b3, o3, rfl, _, hbz, hrow⟩ := row_at HAW.out.srvs hxk
      obtain ⟨edge, sadr, stag, ten, ask, at_, frm, til, tgv, tags, ptv, parts, ended⟩ := x
      obtain ⟨ta, tc, htv⟩ := hsr.2.2.2.1.form
      obtain ⟨qa, qc, hqv, _⟩ := hsr.2.2.2.2.2.2.1.form
      simp only at htv hqv
      subst htv hqv
      have d0 := hrow 0 _ rfl
      have d1 := hrow 1 _ rfl
      have d2 := hrow 2 _ rfl
      have d3 := hrow 3 _ rfl
      have d4 := hrow 4 _ rfl
      have d5 := hrow 5 _ rfl
      have d6 := hrow 6 _ rfl
      have d7 := hrow 7 _ rfl
      have d8 := hrow 8 _ rfl
      have d9 := hrow 9 _ rfl
      have d10 := hrow 10 _ rfl
      rw [Nat.add_zero] at d0
      have HBX := Lib.hid (HBW.out.alloc HBW.out.size (.cells #[.string ⟨edge.toArray⟩, .string ⟨sadr.toArray⟩, .string ⟨stag.toArray⟩, .int .i64 ten, .int .i64 ask, .int .i64 at_, .int .i64 frm, .int .i64 til, .slice ta tags.length tc, .slice qa parts.length qc, .bool ended] 82))
      have HOX := Lib.hid (HO.out.older ((Below.refl _ _).alloc (Nat.le_refl _) (.cells #[.string ⟨edge.toArray⟩, .string ⟨sadr.toArray⟩, .string ⟨stag.toArray⟩, .int .i64 ten, .int .i64 ask, .int .i64 at_, .int .i64 frm, .int .i64 til, .slice ta tags.length tc, .slice qa parts.length qc, .bool ended] 82)))
      clear hsr hsm hrow hxk
      go_wp2_with fail
      refine (old_any ps gs ss fs ds va vb (.slice (some ⟨b3, o3, none⟩) ss.length lc) vd ve bound fin allv edge sadr stag ten ask at_ frm til ta tags.length tc qa parts.length qc ended tags parts B _ (HAW.out.below ((Below.refl _ _).alloc (Nat.le_refl _) (.cells #[.string ⟨edge.toArray⟩, .string ⟨sadr.toArray⟩, .string ⟨stag.toArray⟩, .int .i64 ten, .int .i64 ask, .int .i64 at_, .int .i64 frm, .int .i64 til, .slice ta tags.length tc, .slice qa parts.length qc, .bool ended] 82))).pubs (by have h91 := HSM.out.npub; have h92 := HBB.out; simp only at h91; omega) (HAW.out.below ((Below.refl _ _).alloc (Nat.le_refl _) (.cells #[.string ⟨edge.toArray⟩, .string ⟨sadr.toArray⟩, .string ⟨stag.toArray⟩, .int .i64 ten, .int .i64 ask, .int .i64 at_, .int .i64 frm, .int .i64 til, .slice ta tags.length tc, .slice qa parts.length qc, .bool ended] 82))).pub (HSP2.out.below HBX.out) HSM.out.pubs HSX.out.1 HSX.out.2.1).mono ?_
      cases hbad : oldB ⟨ps, gs, ss, fs, ds, bound, fin⟩ ⟨edge, sadr, stag, ten, ask, at_, frm, til, .slice ta tags.length tc, tags, .slice qa parts.length qc, parts, ended⟩ with
      | true =>
        have HBAD := Lib.hid hbad
        clear hbad
        rintro e w3 ⟨rfl, hb3⟩
        have HB3 := Lib.hid (HBX.out.trans (hb3.mono HBX.out.size))
        have HO3 := Lib.hid (HOX.out.older hb3)
        clear hb3 d0 d1 d2 d3 d4 d5 d6 d7 d8 d9 d10
        have HBZ := Lib.hid (HB3.out.alloc HB3.out.size (.cells #[.int .i64 3, .int .i64 (k : Int), .string ⟨#[115, 101, 114, 118, 101, 100, 32, 98, 101, 121, 111, 110, 100, 32, 105, 116, 115, 32, 108, 105, 109, 105, 116]⟩] 90))
        have HOZ := Lib.hid (HO3.out.older ((Below.refl _ _).alloc (Nat.le_refl _) (.cells #[.int .i64 3, .int .i64 (k : Int), .string ⟨#[115, 101, 114, 118, 101, 100, 32, 98, 101, 121, 111, 110, 100, 32, 105, 116, 115, 32, 108, 105, 109, 105, 116]⟩] 90)))
        go_wp2_with (at_builtin; refine wpList_appw tyVio (by rfl) _ _ (by rfl) w2.heap.size (.slice a acc.length c) acc.length _ (by rfl) HOZ.out HBZ.out.size (.slice (some ⟨w3.heap.size, 0, none⟩) 1 1) 1 [.int .i64 3, .int .i64 (k : Int), .string ⟨#[115, 101, 114, 118, 101, 100, 32, 98, 101, 121, 111, 110, 100, 32, 105, 116, 115, 32, 108, 105, 109, 105, 116]⟩] (by rfl) (SrcAt.one (heap_alloc_new w3 _)) (by rfl) (by simp [Value.oneCell']) HACC.out ?_; intro v4 w4 hown4 hgrow4 hlies4; have HO4 := Lib.hid hown4; have HG4 := Lib.hid hgrow4; clear hown4 hgrow4 hlies4)
        have HOW4 := Lib.hid (show OwnWin w4 w2.heap.size 90 3 v4 (acc ++ [(⟨3, (k : Int), tx3⟩ : VioM)]).length (vvals (acc ++ [(⟨3, (k : Int), tx3⟩ : VioM)])) by rw [List.length_append, vvals_append, vvals_one]; exact HO4.out)
        obtain ⟨a4, c4, rfl, _⟩ := HOW4.out.form
        have HB4 := Lib.hid (HBZ.out.grown HG4.out HBZ.out.size (fun q hq => (HOZ.out.lt q hq).1))
        go_roundg (gk - 1)
        case rel => exact ⟨k + 1, acc ++ [(⟨3, (k : Int), tx3⟩ : VioM)], a4, c4, by go_num, rfl, by have := HLT.out; omega, by simp; omega, Lib.hid (by have := HQ.out; omega), Lib.hid (by rw [HVS.out, if_pos HBAD.out]; simp), HB4, HOW4⟩
        case measure => have := HQ.out; have := HLT.out; omega
      | false =>
        have HBAD := Lib.hid hbad
        clear hbad
        rintro e w3 ⟨rfl, hb3⟩
        have HB3 := Lib.hid (HBX.out.trans (hb3.mono HBX.out.size))
        have HO3 := Lib.hid (HOX.out.older hb3)
        clear hb3 d0 d1 d2 d3 d4 d5 d6 d7 d8 d9 d10
        go_wp2_with fail
        go_roundg (gk - 1)
        case rel => exact ⟨k + 1, acc, a, c, by go_num, rfl, by have := HLT.out; omega, by omega, Lib.hid (by have := HQ.out; omega), Lib.hid (by rw [HVS.out, if_neg (by rw [HBAD.out]; decide)]), Lib.hid HB3.out, Lib.hid HO3.out⟩
        case measure => have := HQ.out; have := HLT.out; omega
    · obtain rfl : k = ss.length := by omega
      have HE := Lib.hid (show vioF 3 tx3 (fun _ s => oldB ⟨ps, gs, ss, fs, ds, bound, fin⟩ s) ss 0 = acc by rw [HV.out, vioF_end (Nat.le_refl _), List.append_nil])
      go_wp2_with fail
      go_ret
      exact ⟨_, rfl, by show OwnWin _ _ _ _ _ (vioF 3 tx3 (fun _ s => oldB ⟨ps, gs, ss, fs, ds, bound, fin⟩ s) ss 0).length (vvals (vioF 3 tx3 (fun _ s => oldB ⟨ps, gs, ss, fs, ds, bound, fin⟩ s) ss 0)); rw [HE.out]; exact HO.out.mono (fun q hq => Nat.le_trans HB2.out.size (HO.out.lt q hq).1), HB2.out.trans (HBW.out.mono HB2.out.size)⟩
theorem rule4_any (h : HisM) (va vb vc vd ve : Value) (B : Nat) (w : World) (hr : Ready w) (hpw : ParseAt w) (ha : HisAt w B va vb vc vd ve h) (hsm : h.Small) (hB : B ≤ 134217728) :
    Calls Tryz.prog 31 #[.agg #[va, vb, vc, vd, ve, .int .i64 h.bound, .int .i64 h.fin], .int .i64 4] w fun e w' => ∃ v, e = .returned v ∧ OwnWin w' w.heap.size 90 3 v (vio4 h).length (vvals (vio4 h)) ∧ Below w.heap.size w w' := by
  obtain ⟨ps, gs, ss, fs, ds, bound, fin⟩ := h
  obtain ⟨la, lc, rfl, _⟩ := ha.srvs.form
  simp only at ha hsm ⊢
  have HA := Lib.hid ha
  have HSM := Lib.hid hsm
  have HBB := Lib.hid hB
  have HRY := Lib.hid hr
  have HPW := Lib.hid hpw
  have hll : ss.length ≤ 134217728 := Nat.le_trans ha.nsrv hB
  have HB0 := Lib.hid ((Below.refl w.heap.size w).alloc (Nat.le_refl _) (.cells #[va, vb, .slice la ss.length lc, vd, ve, .int .i64 bound, .int .i64 fin] 69))
  have HXH := Lib.hid (Bx.new w 69 #[va, vb, .slice la ss.length lc, vd, ve, .int .i64 bound, .int .i64 fin])
  clear ha hsm hB hr hpw
  go_enter Tryz.func31, Tryz.ntmps31
  go_wp2_with fail
  refine (spans_any ps va B _ (HA.out.below HB0.out).pubs (by have h91 := HSM.out.npub; simp only at h91; omega) (HA.out.below HB0.out).pub (by have := HBB.out; omega)).mono ?_
  rintro e w2 ⟨allv, rfl, hsp, hb2⟩
  have HB2 := Lib.hid (HB0.out.trans (hb2.mono HB0.out.size))
  have HXH2 := Lib.hid (HXH.out.older hb2)
  have HSP2 := Lib.hid hsp
  have HA2 := Lib.hid (HA.out.below HB2.out)
  obtain ⟨b0, hb0⟩ : ∃ z, w.heap.size = z := ⟨_, rfl⟩
  rw [hb0] at HXH2 ⊢
  clear hb2 hsp hb0 HXH HB0
  have h2 := HXH2.out.cell (i := 2) rfl
  go_wp2_with fail
  go_loopg [101, 5] ss.length (fun gq iv vv wr => ∃ (k : Nat) (acc : List VioM) (a : Option Addr) (c : Nat), iv = .int .i64 k ∧ vv = .slice a acc.length c ∧ k ≤ ss.length ∧ acc.length ≤ k ∧ Hid (ss.length ≤ gq + k) ∧ Hid (vioF 4 tx4 (fun _ s => mixedB ⟨ps, gs, ss, fs, ds, bound, fin⟩ s) ss 0 = acc ++ vioF 4 tx4 (fun _ s => mixedB ⟨ps, gs, ss, fs, ds, bound, fin⟩ s) (ss.drop k) k) ∧ Hid (Below w2.heap.size w2 wr) ∧ Hid (OwnWin wr w2.heap.size 90 3 (.slice a acc.length c) acc.length (vvals acc)))
  case atStart => exact ⟨0, [], none, 0, rfl, rfl, Nat.zero_le _, Nat.le_refl _, Lib.hid (by omega), Lib.hid rfl, Lib.hid (Below.refl _ _), Lib.hid (OwnWin.nil _ _ _ _)⟩
  case round =>
    obtain ⟨k, acc, a, c, rfl, rfl, hk, hacc, HQ, HV, HBW, HO⟩ := hrel
    have h0 := (HXH2.out.older HBW.out).cell (i := 0) rfl
    have h1 := (HXH2.out.older HBW.out).cell (i := 1) rfl
    have h2 := (HXH2.out.older HBW.out).cell (i := 2) rfl
    have h3 := (HXH2.out.older HBW.out).cell (i := 3) rfl
    have h4 := (HXH2.out.older HBW.out).cell (i := 4) rfl
    have h5 := (HXH2.out.older HBW.out).cell (i := 5) rfl
    have h6 := (HXH2.out.older HBW.out).cell (i := 6) rfl
    have hz0 := (HXH2.out.older HBW.out).lt
    by_cases hlt : k < ss.length
    · have HLT := Lib.hid hlt
      have hkb : k < 134217728 := by omega
      have HACC := Lib.hid (show acc.length + 1 ≤ 1099511627776 by omega)
      have HAW := Lib.hid (HA2.out.below HBW.out)
      obtain ⟨x, hxk⟩ : ∃ x, ss[k]? = some x := ⟨_, List.getElem?_eq_getElem hlt⟩
      have HXK := Lib.hid hxk
      have HVS := Lib.hid (HV.out.trans (congrArg (acc ++ ·) (vioF_drop (r := 4) (tx := tx4) (bad := (fun _ s => mixedB ⟨ps, gs, ss, fs, ds, bound, fin⟩ s)) hxk)))
      have hsr := HAW.out.srv x (List.mem_of_getElem? hxk)
      have HSR := Lib.hid hsr
      have hsm := HSM.out.srvs x (List.mem_of_getElem? hxk)
      have HSX := Lib.hid hsm
      obtain ⟨b3, o3, rfl, _, hbz, hrow⟩ := row_at HAW.out.srvs hxk
      obtain ⟨edge, sadr, stag, ten, ask, at_, frm, til, tgv, tags, ptv, parts, ended⟩ := x
      obtain ⟨ta, tc, htv⟩ := hsr.2.2.2.1.form
      obtain ⟨qa, qc, hqv, _⟩ := hsr.2.2.2.2.2.2.1.form
      simp only at htv hqv
      subst htv hqv
      have d0 := hrow 0 _ rfl
      have d1 := hrow 1 _ rfl
      have d2 := hrow 2 _ rfl
      have d3 := hrow 3 _ rfl
      have d4 := hrow 4 _ rfl
      have d5 := hrow 5 _ rfl
      have d6 := hrow 6 _ rfl
      have d7 := hrow 7 _ rfl
      have d8 := hrow 8 _ rfl
      have d9 := hrow 9 _ rfl
      have d10 := hrow 10 _ rfl
      rw [Nat.add_zero] at d0
      have HBX := Lib.hid (HBW.out.alloc HBW.out.size (.cells #[.string ⟨edge.toArray⟩, .string ⟨sadr.toArray⟩, .string ⟨stag.toArray⟩, .int .i64 ten, .int .i64 ask, .int .i64 at_, .int .i64 frm, .int .i64 til, .slice ta tags.length tc, .slice qa parts.length qc, .bool ended] 82))
      have HOX := Lib.hid (HO.out.older ((Below.refl _ _).alloc (Nat.le_refl _) (.cells #[.string ⟨edge.toArray⟩, .string ⟨sadr.toArray⟩, .string ⟨stag.toArray⟩, .int .i64 ten, .int .i64 ask, .int .i64 at_, .int .i64 frm, .int .i64 til, .slice ta tags.length tc, .slice qa parts.length qc, .bool ended] 82)))
      clear hsr hsm hrow hxk
      go_wp2_with fail
      refine (mixed_any ps gs ss fs ds va vb (.slice (some ⟨b3, o3, none⟩) ss.length lc) vd ve bound fin edge sadr stag ten ask at_ frm til ta tags.length tc qa parts.length qc ended tags parts B _ (HAW.out.below ((Below.refl _ _).alloc (Nat.le_refl _) (.cells #[.string ⟨edge.toArray⟩, .string ⟨sadr.toArray⟩, .string ⟨stag.toArray⟩, .int .i64 ten, .int .i64 ask, .int .i64 at_, .int .i64 frm, .int .i64 til, .slice ta tags.length tc, .slice qa parts.length qc, .bool ended] 82))).pubs (by have h91 := HSM.out.npub; have h92 := HBB.out; simp only at h91; omega) (HAW.out.below ((Below.refl _ _).alloc (Nat.le_refl _) (.cells #[.string ⟨edge.toArray⟩, .string ⟨sadr.toArray⟩, .string ⟨stag.toArray⟩, .int .i64 ten, .int .i64 ask, .int .i64 at_, .int .i64 frm, .int .i64 til, .slice ta tags.length tc, .slice qa parts.length qc, .bool ended] 82))).pub (SrvAt.below HSR.out ((Below.refl _ _).alloc (Nat.le_refl _) (.cells #[.string ⟨edge.toArray⟩, .string ⟨sadr.toArray⟩, .string ⟨stag.toArray⟩, .int .i64 ten, .int .i64 ask, .int .i64 at_, .int .i64 frm, .int .i64 til, .slice ta tags.length tc, .slice qa parts.length qc, .bool ended] 82))).2.2.2.2.2.2.1 HSR.out.2.2.2.2.2.2.2.1 (SrvAt.below HSR.out ((Below.refl _ _).alloc (Nat.le_refl _) (.cells #[.string ⟨edge.toArray⟩, .string ⟨sadr.toArray⟩, .string ⟨stag.toArray⟩, .int .i64 ten, .int .i64 ask, .int .i64 at_, .int .i64 frm, .int .i64 til, .slice ta tags.length tc, .slice qa parts.length qc, .bool ended] 82))).2.2.2.2.2.2.2.2 (by have := HBB.out; omega)).mono ?_
      cases hbad : mixedB ⟨ps, gs, ss, fs, ds, bound, fin⟩ ⟨edge, sadr, stag, ten, ask, at_, frm, til, .slice ta tags.length tc, tags, .slice qa parts.length qc, parts, ended⟩ with
      | true =>
        have HBAD := Lib.hid hbad
        clear hbad
        rintro e w3 ⟨rfl, hb3⟩
        have HB3 := Lib.hid (HBX.out.trans (hb3.mono HBX.out.size))
        have HO3 := Lib.hid (HOX.out.older hb3)
        clear hb3 d0 d1 d2 d3 d4 d5 d6 d7 d8 d9 d10
        have HBZ := Lib.hid (HB3.out.alloc HB3.out.size (.cells #[.int .i64 4, .int .i64 (k : Int), .string ⟨#[110, 111, 116, 32, 116, 104, 101, 32, 98, 111, 100, 121, 32, 111, 102, 32, 116, 104, 101, 32, 118, 101, 114, 115, 105, 111, 110]⟩] 90))
        have HOZ := Lib.hid (HO3.out.older ((Below.refl _ _).alloc (Nat.le_refl _) (.cells #[.int .i64 4, .int .i64 (k : Int), .string ⟨#[110, 111, 116, 32, 116, 104, 101, 32, 98, 111, 100, 121, 32, 111, 102, 32, 116, 104, 101, 32, 118, 101, 114, 115, 105, 111, 110]⟩] 90)))
        go_wp2_with (at_builtin; refine wpList_appw tyVio (by rfl) _ _ (by rfl) w2.heap.size (.slice a acc.length c) acc.length _ (by rfl) HOZ.out HBZ.out.size (.slice (some ⟨w3.heap.size, 0, none⟩) 1 1) 1 [.int .i64 4, .int .i64 (k : Int), .string ⟨#[110, 111, 116, 32, 116, 104, 101, 32, 98, 111, 100, 121, 32, 111, 102, 32, 116, 104, 101, 32, 118, 101, 114, 115, 105, 111, 110]⟩] (by rfl) (SrcAt.one (heap_alloc_new w3 _)) (by rfl) (by simp [Value.oneCell']) HACC.out ?_; intro v4 w4 hown4 hgrow4 hlies4; have HO4 := Lib.hid hown4; have HG4 := Lib.hid hgrow4; clear hown4 hgrow4 hlies4)
        have HOW4 := Lib.hid (show OwnWin w4 w2.heap.size 90 3 v4 (acc ++ [(⟨4, (k : Int), tx4⟩ : VioM)]).length (vvals (acc ++ [(⟨4, (k : Int), tx4⟩ : VioM)])) by rw [List.length_append, vvals_append, vvals_one]; exact HO4.out)
        obtain ⟨a4, c4, rfl, _⟩ := HOW4.out.form
        have HB4 := Lib.hid (HBZ.out.grown HG4.out HBZ.out.size (fun q hq => (HOZ.out.lt q hq).1))
        go_roundg (gk - 1)
        case rel => exact ⟨k + 1, acc ++ [(⟨4, (k : Int), tx4⟩ : VioM)], a4, c4, by go_num, rfl, by have := HLT.out; omega, by simp; omega, Lib.hid (by have := HQ.out; omega), Lib.hid (by rw [HVS.out, if_pos HBAD.out]; simp), HB4, HOW4⟩
        case measure => have := HQ.out; have := HLT.out; omega
      | false =>
        have HBAD := Lib.hid hbad
        clear hbad
        rintro e w3 ⟨rfl, hb3⟩
        have HB3 := Lib.hid (HBX.out.trans (hb3.mono HBX.out.size))
        have HO3 := Lib.hid (HOX.out.older hb3)
        clear hb3 d0 d1 d2 d3 d4 d5 d6 d7 d8 d9 d10
        go_wp2_with fail
        go_roundg (gk - 1)
        case rel => exact ⟨k + 1, acc, a, c, by go_num, rfl, by have := HLT.out; omega, by omega, Lib.hid (by have := HQ.out; omega), Lib.hid (by rw [HVS.out, if_neg (by rw [HBAD.out]; decide)]), Lib.hid HB3.out, Lib.hid HO3.out⟩
        case measure => have := HQ.out; have := HLT.out; omega
    · obtain rfl : k = ss.length := by omega
      have HE := Lib.hid (show vioF 4 tx4 (fun _ s => mixedB ⟨ps, gs, ss, fs, ds, bound, fin⟩ s) ss 0 = acc by rw [HV.out, vioF_end (Nat.le_refl _), List.append_nil])
      go_wp2_with fail
      go_ret
      exact ⟨_, rfl, by show OwnWin _ _ _ _ _ (vioF 4 tx4 (fun _ s => mixedB ⟨ps, gs, ss, fs, ds, bound, fin⟩ s) ss 0).length (vvals (vioF 4 tx4 (fun _ s => mixedB ⟨ps, gs, ss, fs, ds, bound, fin⟩ s) ss 0)); rw [HE.out]; exact HO.out.mono (fun q hq => Nat.le_trans HB2.out.size (HO.out.lt q hq).1), HB2.out.trans (HBW.out.mono HB2.out.size)⟩
theorem rule5_any (h : HisM) (va vb vc vd ve : Value) (B : Nat) (w : World) (hr : Ready w) (hpw : ParseAt w) (ha : HisAt w B va vb vc vd ve h) (hsm : h.Small) (hB : B ≤ 134217728) :
    Calls Tryz.prog 31 #[.agg #[va, vb, vc, vd, ve, .int .i64 h.bound, .int .i64 h.fin], .int .i64 5] w fun e w' => ∃ v, e = .returned v ∧ OwnWin w' w.heap.size 90 3 v (vio5 h).length (vvals (vio5 h)) ∧ Below w.heap.size w w' := by
  obtain ⟨ps, gs, ss, fs, ds, bound, fin⟩ := h
  obtain ⟨la, lc, rfl, _⟩ := ha.fets.form
  simp only at ha hsm ⊢
  have HA := Lib.hid ha
  have HSM := Lib.hid hsm
  have HBB := Lib.hid hB
  have HRY := Lib.hid hr
  have HPW := Lib.hid hpw
  have hll : fs.length ≤ 134217728 := Nat.le_trans ha.nfet hB
  have HB0 := Lib.hid ((Below.refl w.heap.size w).alloc (Nat.le_refl _) (.cells #[va, vb, vc, .slice la fs.length lc, ve, .int .i64 bound, .int .i64 fin] 69))
  have HXH := Lib.hid (Bx.new w 69 #[va, vb, vc, .slice la fs.length lc, ve, .int .i64 bound, .int .i64 fin])
  clear ha hsm hB hr hpw
  go_enter Tryz.func31, Tryz.ntmps31
  go_wp2_with fail
  refine (spans_any ps va B _ (HA.out.below HB0.out).pubs (by have h91 := HSM.out.npub; simp only at h91; omega) (HA.out.below HB0.out).pub (by have := HBB.out; omega)).mono ?_
  rintro e w2 ⟨allv, rfl, hsp, hb2⟩
  have HB2 := Lib.hid (HB0.out.trans (hb2.mono HB0.out.size))
  have HXH2 := Lib.hid (HXH.out.older hb2)
  have HSP2 := Lib.hid hsp
  have HA2 := Lib.hid (HA.out.below HB2.out)
  obtain ⟨b0, hb0⟩ : ∃ z, w.heap.size = z := ⟨_, rfl⟩
  rw [hb0] at HXH2 ⊢
  clear hb2 hsp hb0 HXH HB0
  have h3 := HXH2.out.cell (i := 3) rfl
  go_wp2_with fail
  go_loopg [121, 5] fs.length (fun gq iv vv wr => ∃ (k : Nat) (acc : List VioM) (a : Option Addr) (c : Nat), iv = .int .i64 k ∧ vv = .slice a acc.length c ∧ k ≤ fs.length ∧ acc.length ≤ k ∧ Hid (fs.length ≤ gq + k) ∧ Hid (vioF 5 tx5 (fun i _ => againB ⟨ps, gs, ss, fs, ds, bound, fin⟩ i) fs 0 = acc ++ vioF 5 tx5 (fun i _ => againB ⟨ps, gs, ss, fs, ds, bound, fin⟩ i) (fs.drop k) k) ∧ Hid (Below w2.heap.size w2 wr) ∧ Hid (OwnWin wr w2.heap.size 90 3 (.slice a acc.length c) acc.length (vvals acc)))
  case atStart => exact ⟨0, [], none, 0, rfl, rfl, Nat.zero_le _, Nat.le_refl _, Lib.hid (by omega), Lib.hid rfl, Lib.hid (Below.refl _ _), Lib.hid (OwnWin.nil _ _ _ _)⟩
  case round =>
    obtain ⟨k, acc, a, c, rfl, rfl, hk, hacc, HQ, HV, HBW, HO⟩ := hrel
    have h0 := (HXH2.out.older HBW.out).cell (i := 0) rfl
    have h1 := (HXH2.out.older HBW.out).cell (i := 1) rfl
    have h2 := (HXH2.out.older HBW.out).cell (i := 2) rfl
    have h3 := (HXH2.out.older HBW.out).cell (i := 3) rfl
    have h4 := (HXH2.out.older HBW.out).cell (i := 4) rfl
    have h5 := (HXH2.out.older HBW.out).cell (i := 5) rfl
    have h6 := (HXH2.out.older HBW.out).cell (i := 6) rfl
    have hz0 := (HXH2.out.older HBW.out).lt
    by_cases hlt : k < fs.length
    · have HLT := Lib.hid hlt
      have hkb : k < 134217728 := by omega
      have HACC := Lib.hid (show acc.length + 1 ≤ 1099511627776 by omega)
      have HAW := Lib.hid (HA2.out.below HBW.out)
      obtain ⟨x, hxk⟩ : ∃ x, fs[k]? = some x := ⟨_, List.getElem?_eq_getElem hlt⟩
      have HXK := Lib.hid hxk
      have HVS := Lib.hid (HV.out.trans (congrArg (acc ++ ·) (vioF_drop (r := 5) (tx := tx5) (bad := (fun i _ => againB ⟨ps, gs, ss, fs, ds, bound, fin⟩ i)) hxk)))
      clear hxk
      go_wp2_with fail
      refine (again_any ps gs ss fs ds va vb vc (.slice la fs.length lc) ve bound fin k _ HAW.out.fets HAW.out.dros (by have h91 := HSM.out.nfet; simp only at h91; omega) (by have h91 := HSM.out.ndro; have h92 := HBB.out; simp only at h91; omega) HLT.out).mono ?_
      cases hbad : againB ⟨ps, gs, ss, fs, ds, bound, fin⟩ k with
      | true =>
        have HBAD := Lib.hid hbad
        clear hbad
        rintro e w3 ⟨rfl, hb3⟩
        have HB3 := Lib.hid (HBW.out.trans (hb3.mono HBW.out.size))
        have HO3 := Lib.hid (HO.out.older hb3)
        clear hb3
        have HBZ := Lib.hid (HB3.out.alloc HB3.out.size (.cells #[.int .i64 5, .int .i64 (k : Int), .string ⟨#[102, 101, 116, 99, 104, 101, 100, 32, 97, 103, 97, 105, 110]⟩] 90))
        have HOZ := Lib.hid (HO3.out.older ((Below.refl _ _).alloc (Nat.le_refl _) (.cells #[.int .i64 5, .int .i64 (k : Int), .string ⟨#[102, 101, 116, 99, 104, 101, 100, 32, 97, 103, 97, 105, 110]⟩] 90)))
        go_wp2_with (at_builtin; refine wpList_appw tyVio (by rfl) _ _ (by rfl) w2.heap.size (.slice a acc.length c) acc.length _ (by rfl) HOZ.out HBZ.out.size (.slice (some ⟨w3.heap.size, 0, none⟩) 1 1) 1 [.int .i64 5, .int .i64 (k : Int), .string ⟨#[102, 101, 116, 99, 104, 101, 100, 32, 97, 103, 97, 105, 110]⟩] (by rfl) (SrcAt.one (heap_alloc_new w3 _)) (by rfl) (by simp [Value.oneCell']) HACC.out ?_; intro v4 w4 hown4 hgrow4 hlies4; have HO4 := Lib.hid hown4; have HG4 := Lib.hid hgrow4; clear hown4 hgrow4 hlies4)
        have HOW4 := Lib.hid (show OwnWin w4 w2.heap.size 90 3 v4 (acc ++ [(⟨5, (k : Int), tx5⟩ : VioM)]).length (vvals (acc ++ [(⟨5, (k : Int), tx5⟩ : VioM)])) by rw [List.length_append, vvals_append, vvals_one]; exact HO4.out)
        obtain ⟨a4, c4, rfl, _⟩ := HOW4.out.form
        have HB4 := Lib.hid (HBZ.out.grown HG4.out HBZ.out.size (fun q hq => (HOZ.out.lt q hq).1))
        go_roundg (gk - 1)
        case rel => exact ⟨k + 1, acc ++ [(⟨5, (k : Int), tx5⟩ : VioM)], a4, c4, by go_num, rfl, by have := HLT.out; omega, by simp; omega, Lib.hid (by have := HQ.out; omega), Lib.hid (by rw [HVS.out, if_pos HBAD.out]; simp), HB4, HOW4⟩
        case measure => have := HQ.out; have := HLT.out; omega
      | false =>
        have HBAD := Lib.hid hbad
        clear hbad
        rintro e w3 ⟨rfl, hb3⟩
        have HB3 := Lib.hid (HBW.out.trans (hb3.mono HBW.out.size))
        have HO3 := Lib.hid (HO.out.older hb3)
        clear hb3
        go_wp2_with fail
        go_roundg (gk - 1)
        case rel => exact ⟨k + 1, acc, a, c, by go_num, rfl, by have := HLT.out; omega, by omega, Lib.hid (by have := HQ.out; omega), Lib.hid (by rw [HVS.out, if_neg (by rw [HBAD.out]; decide)]), Lib.hid HB3.out, Lib.hid HO3.out⟩
        case measure => have := HQ.out; have := HLT.out; omega
    · obtain rfl : k = fs.length := by omega
      have HE := Lib.hid (show vioF 5 tx5 (fun i _ => againB ⟨ps, gs, ss, fs, ds, bound, fin⟩ i) fs 0 = acc by rw [HV.out, vioF_end (Nat.le_refl _), List.append_nil])
      go_wp2_with fail
      go_ret
      exact ⟨_, rfl, by show OwnWin _ _ _ _ _ (vioF 5 tx5 (fun i _ => againB ⟨ps, gs, ss, fs, ds, bound, fin⟩ i) fs 0).length (vvals (vioF 5 tx5 (fun i _ => againB ⟨ps, gs, ss, fs, ds, bound, fin⟩ i) fs 0)); rw [HE.out]; exact HO.out.mono (fun q hq => Nat.le_trans HB2.out.size (HO.out.lt q hq).1), HB2.out.trans (HBW.out.mono HB2.out.size)⟩
end Hy
end Go.Proofs.YtjijijjkkhpjnaaGreatDoor
end

