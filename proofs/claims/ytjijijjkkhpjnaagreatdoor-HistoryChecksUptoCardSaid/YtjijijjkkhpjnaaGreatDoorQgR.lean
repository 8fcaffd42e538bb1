/- Contracts and plain facts that the statement's proof leans on (texts joined). No condition beyond those that each names. -/
import Derived.Test.YtjijijjkkhpjnaaGreatDoorQgO
import Derived.Test.YtjijijjkkhpjnaaGreatDoorQgQ
section
namespace Go.Proofs.YtjijijjkkhpjnaaGreatDoor
open Go.RowKit Pl Ad
attribute [local go_sem] ba_get ba_append ba_extract conv_one
set_option maxRecDepth 100000
set_option maxHeartbeats 4000000
set_option linter.unusedVariables false
set_option linter.unusedSimpArgs false
namespace Hy
open A1 Kr
theorem rfresh_any (ps : List PubM) (va vb vc vd ve : Value) (bound fin : Int) (B : Nat) (edge sadr stag : Bs) (ten ask at_ frm til : Int) (ta : Option Addr) (tn tc : Nat) (qa : Option Addr) (qn qc : Nat) (ended : Bool) (w : World) (hp : RowsV pubR 5 w va ps) (hn : ps.length ≤ 1000) (hpa : ∀ p ∈ ps, PubAt w B p) (hin : ∀ p ∈ ps, inB p.at_) (hlm : ∀ p ∈ ps, inB p.lim) (hat : inB at_) (hak : inB ask) :
    Calls Tryz.prog 63 #[.agg #[va, vb, vc, vd, ve, .int .i64 bound, .int .i64 fin], .agg #[.string ⟨edge.toArray⟩, .string ⟨sadr.toArray⟩, .string ⟨stag.toArray⟩, .int .i64 ten, .int .i64 ask, .int .i64 at_, .int .i64 frm, .int .i64 til, .slice ta tn tc, .slice qa qn qc, .bool ended]] w fun e w' => e = .returned (.bool (!(knownB ps sadr stag) || anyF (fun j p => isV p sadr stag && (decide (p.at_ ≤ min at_ (endN ps j - 1)) && decide (ask - min at_ (endN ps j - 1) ≤ p.lim))) ps 0)) ∧ Below w.heap.size w w' := by
  obtain ⟨pa, pc, rfl, hpc⟩ := hp.form
  obtain ⟨n, hnn⟩ : ∃ z, ps.length = z := ⟨_, rfl⟩
  have HN := Lib.hid hnn
  have HP := Lib.hid hp
  have HPA := Lib.hid hpa
  have HIN := Lib.hid hin
  rw [hnn] at HP hn hpc ⊢
  clear hp hpa hin hnn
  have HLM := Lib.hid hlm
  have HCA := Lib.hid (fun w => time_in at_ hat w)
  have HCK := Lib.hid (fun w => time_in ask hak w)
  have ha1 : -1152921504606846976 ≤ at_ ∧ at_ ≤ 1152921504606846976 := hat
  have ha2 : -1152921504606846976 ≤ ask ∧ ask ≤ 1152921504606846976 := hak
  clear hlm hat hak
  obtain ⟨kb, hkb⟩ : ∃ z, anyF (fun j p => isV p sadr stag && (decide (p.at_ ≤ min at_ (endN ps j - 1)) && decide (ask - min at_ (endN ps j - 1) ≤ p.lim))) ps 0 = z := ⟨_, rfl⟩
  have HK0 := Lib.hid (show kb = anyF (fun j p => isV p sadr stag && (decide (p.at_ ≤ min at_ (endN ps j - 1)) && decide (ask - min at_ (endN ps j - 1) ≤ p.lim))) (ps.drop 0) 0 from hkb.symm)
  rw [hkb]
  clear hkb
  obtain ⟨kn, hkn⟩ : ∃ z, knownB ps sadr stag = z := ⟨_, rfl⟩
  have HKN := Lib.hid (show anyF (fun _ p => isV p sadr stag) ps 0 = kn from hkn)
  rw [hkn]
  clear hkn
  go_enter Tryz.func63, Tryz.ntmps63
  go_upto_region 1 with fail
  have HX0 := Lib.hid (bx_allocH (Bx.new w 69 #[.slice pa n pc, vb, vc, vd, ve, .int .i64 bound, .int .i64 fin]) (.cells #[.string ⟨edge.toArray⟩, .string ⟨sadr.toArray⟩, .string ⟨stag.toArray⟩, .int .i64 ten, .int .i64 ask, .int .i64 at_, .int .i64 frm, .int .i64 til, .slice ta tn tc, .slice qa qn qc, .bool ended] 82))
  have HS0 := Lib.hid (bx_newH (w := w.alloc (.cells #[.slice pa n pc, vb, vc, vd, ve, .int .i64 bound, .int .i64 fin] 69)) (n := w.heap.size + 1) (T := 82) (cs := #[.string ⟨edge.toArray⟩, .string ⟨sadr.toArray⟩, .string ⟨stag.toArray⟩, .int .i64 ten, .int .i64 ask, .int .i64 at_, .int .i64 frm, .int .i64 til, .slice ta tn tc, .slice qa qn qc, .bool ended]) (by simp))
  have HB0 := Lib.hid (((Below.refl w.heap.size w).alloc (Nat.le_refl _) (.cells #[.slice pa n pc, vb, vc, vd, ve, .int .i64 bound, .int .i64 fin] 69)).alloc (by simp) (.cells #[.string ⟨edge.toArray⟩, .string ⟨sadr.toArray⟩, .string ⟨stag.toArray⟩, .int .i64 ten, .int .i64 ask, .int .i64 at_, .int .i64 frm, .int .i64 til, .slice ta tn tc, .slice qa qn qc, .bool ended] 82))
  obtain ⟨w1, hw1⟩ : ∃ z, (w.alloc (.cells #[.slice pa n pc, vb, vc, vd, ve, .int .i64 bound, .int .i64 fin] 69)).alloc (.cells #[.string ⟨edge.toArray⟩, .string ⟨sadr.toArray⟩, .string ⟨stag.toArray⟩, .int .i64 ten, .int .i64 ask, .int .i64 at_, .int .i64 frm, .int .i64 til, .slice ta tn tc, .slice qa qn qc, .bool ended] 82) = z := ⟨_, rfl⟩
  obtain ⟨b0, hb0⟩ : ∃ z, w.heap.size = z := ⟨_, rfl⟩
  rw [hw1] at HX0 HS0 HB0 ⊢
  rw [hb0] at HX0 HS0 ⊢
  clear hw1 hb0
  have c0 := HX0.out.cell (i := 0) rfl
  have c1 := HX0.out.cell (i := 1) rfl
  have c2 := HX0.out.cell (i := 2) rfl
  have c3 := HX0.out.cell (i := 3) rfl
  have c4 := HX0.out.cell (i := 4) rfl
  have c5 := HX0.out.cell (i := 5) rfl
  have c6 := HX0.out.cell (i := 6) rfl
  have s0 := HS0.out.cell (i := 0) rfl
  have s1 := HS0.out.cell (i := 1) rfl
  have s2 := HS0.out.cell (i := 2) rfl
  have s3 := HS0.out.cell (i := 3) rfl
  have s4 := HS0.out.cell (i := 4) rfl
  have s5 := HS0.out.cell (i := 5) rfl
  have s6 := HS0.out.cell (i := 6) rfl
  have s7 := HS0.out.cell (i := 7) rfl
  have s8 := HS0.out.cell (i := 8) rfl
  have s9 := HS0.out.cell (i := 9) rfl
  have s10 := HS0.out.cell (i := 10) rfl
  go_wp2_with fail
  refine (rknown_any ps (.slice pa n pc) vb vc vd ve bound fin B edge sadr stag ten ask at_ frm til ta tn tc qa qn qc ended _ (HP.out.below HB0.out) (by rw [HN.out]; exact hn) (fun p hp => (HPA.out p hp).below HB0.out) HIN.out).mono ?_
  rintro e w2 ⟨rfl, hb2⟩
  have HB2 := Lib.hid (HB0.out.trans (hb2.mono HB0.out.size))
  have HX2 := Lib.hid (HX0.out.older hb2)
  have HS2 := Lib.hid (HS0.out.older hb2)
  rw [HKN.out]
  clear hb2 c0 c1 c2 c3 c4 c5 c6 s0 s1 s2 s3 s4 s5 s6 s7 s8 s9 s10 HX0 HS0 HKN
  cases kn with
  | false =>
    go_wp2_with fail
    go_ret
    exact ⟨rfl, HB2.out⟩
  | true =>
    have c0 := HX2.out.cell (i := 0) rfl
    go_wp2_with fail
    go_loopg [15] n (fun gq iv wr => ∃ k : Nat, iv = .int .i64 k ∧ k ≤ n ∧ Hid (n ≤ gq + k) ∧ Hid (kb = anyF (fun j p => isV p sadr stag && (decide (p.at_ ≤ min at_ (endN ps j - 1)) && decide (ask - min at_ (endN ps j - 1) ≤ p.lim))) (ps.drop k) k) ∧ Hid (Below w2.heap.size w2 wr))
    case atStart => exact ⟨0, rfl, Nat.zero_le _, Lib.hid (by omega), HK0, Lib.hid (Below.refl _ _)⟩
    case round =>
      obtain ⟨k, rfl, hk, HQ, HE, HB⟩ := hrel
      by_cases hlt : k < n
      · have HLT := Lib.hid hlt
        obtain ⟨p, hpk⟩ : ∃ p, ps[k]? = some p := ⟨_, List.getElem?_eq_getElem (by rw [HN.out]; exact hlt)⟩
        have HPK := Lib.hid hpk
        have hpp := HPA.out p (List.mem_of_getElem? hpk)
        have HPI := Lib.hid (HIN.out p (List.mem_of_getElem? hpk))
        obtain ⟨bp, op, e5, _, hbl, hrow⟩ := row_at (HP.out.below (HB2.out.trans (HB.out.mono HB2.out.size))) hpk
        cases e5
        obtain ⟨pat, plim, padr, ptag, pbv, pbody⟩ := p
        obtain ⟨_, _, hsrc, _⟩ := hpp
        obtain ⟨ba, bc, hbv⟩ := Sg.src_form hsrc
        simp only at hbv
        subst hbv
        have d0 := hrow 0 _ rfl
        have d1 := hrow 1 _ rfl
        have d2 := hrow 2 _ rfl
        have d3 := hrow 3 _ rfl
        have d4 := hrow 4 _ rfl
        rw [Nat.add_zero] at d0
        clear hrow hsrc hpk
        have q1 : (k : Int) < (n : Int) := by omega
        have q2 : (0 : Int) ≤ (k : Int) := by omega
        have q3 : IntKind.i64.wrap ((k : Int) + 1) = (k : Int) + 1 := IntWalk.i64_in _ (by omega)
        have HLI : Hid (inB plim) := Lib.hid (HLM.out _ (List.mem_of_getElem? HPK.out))
        have HDR := Lib.hid (anyF_drop (c := fun j p => isV p sadr stag && (decide (p.at_ ≤ min at_ (endN ps j - 1)) && decide (ask - min at_ (endN ps j - 1) ≤ p.lim))) HPK.out)
        have HEI := Lib.hid (endN_in HPK.out HIN.out)
        have c0 := (HX2.out.older HB.out).cell (i := 0) rfl
        have HCP := Lib.hid (fun w => time_in pat HPI.out w)
        have HCL := Lib.hid (fun w => time_in plim HLI.out w)
        go_upto_region 7 with fail
        have HXB := Lib.hid (Bx.new wr 86 #[.int .i64 pat, .int .i64 plim, .string ⟨padr.toArray⟩, .string ⟨ptag.toArray⟩, .slice ba pbody.length bc])
        have HBb := Lib.hid (HB.out.alloc HB.out.size (.cells #[.int .i64 pat, .int .i64 plim, .string ⟨padr.toArray⟩, .string ⟨ptag.toArray⟩, .slice ba pbody.length bc] 86))
        obtain ⟨wb, hwb⟩ : ∃ z, wr.alloc (.cells #[.int .i64 pat, .int .i64 plim, .string ⟨padr.toArray⟩, .string ⟨ptag.toArray⟩, .slice ba pbody.length bc] 86) = z := ⟨_, rfl⟩
        obtain ⟨bb, hbb⟩ : ∃ z, wr.heap.size = z := ⟨_, rfl⟩
        rw [hwb] at HXB HBb ⊢
        rw [hbb] at HXB ⊢
        clear hwb hbb d0 d1 d2 d3 d4 c0 hbl
        have x0 := HXB.out.cell (i := 0) rfl
        have x1 := HXB.out.cell (i := 1) rfl
        have x2 := HXB.out.cell (i := 2) rfl
        have x3 := HXB.out.cell (i := 3) rfl
        have x4 := HXB.out.cell (i := 4) rfl
        have s0 := (HS2.out.older HBb.out).cell (i := 0) rfl
        have s1 := (HS2.out.older HBb.out).cell (i := 1) rfl
        have s2 := (HS2.out.older HBb.out).cell (i := 2) rfl
        have s3 := (HS2.out.older HBb.out).cell (i := 3) rfl
        have s4 := (HS2.out.older HBb.out).cell (i := 4) rfl
        have s5 := (HS2.out.older HBb.out).cell (i := 5) rfl
        have s6 := (HS2.out.older HBb.out).cell (i := 6) rfl
        have s7 := (HS2.out.older HBb.out).cell (i := 7) rfl
        have s8 := (HS2.out.older HBb.out).cell (i := 8) rfl
        have s9 := (HS2.out.older HBb.out).cell (i := 9) rfl
        have s10 := (HS2.out.older HBb.out).cell (i := 10) rfl
        cases hv : (padr == sadr && ptag == stag) with
        | false =>
          go_upto_region 11 with (go_at_call 85; refine (isv_any pat plim padr ptag ba pbody.length bc edge sadr stag ten ask at_ frm til ta tn tc qa qn qc ended _).mono ?_; rintro e w7 ⟨rfl, hb7⟩; rw [hv]; have HB7 := Lib.hid (HBb.out.trans (hb7.mono HBb.out.size)); have HXB7 := Lib.hid (HXB.out.older hb7); clear hb7)
          have HF := Lib.hid (show kb = anyF (fun j p => isV p sadr stag && (decide (p.at_ ≤ min at_ (endN ps j - 1)) && decide (ask - min at_ (endN ps j - 1) ≤ p.lim))) (ps.drop (k + 1)) (k + 1) by rw [HE.out, HDR.out]; unfold isV; simp [hv])
          go_wp2_with fail
          go_roundg (gk - 1)
          case rel => exact ⟨k + 1, by go_num, by have := HLT.out; omega, Lib.hid (by have := HQ.out; omega), HF, HB7⟩
          case measure => have := HQ.out; have := HLT.out; omega
        | true =>
          obtain ⟨E, hE⟩ : ∃ z, endN ps k = z := ⟨_, rfl⟩
          have HEV := Lib.hid hE
          rw [hE] at HEI
          have hei := HEI.out
          obtain ⟨mn, hmn⟩ : ∃ z, min at_ (E - 1) = z := ⟨_, rfl⟩
          have HDR := Lib.hid (show anyF (fun j p => isV p sadr stag && (decide (p.at_ ≤ min at_ (endN ps j - 1)) && decide (ask - min at_ (endN ps j - 1) ≤ p.lim))) (ps.drop k) k = (isV ⟨pat, plim, padr, ptag, .slice ba pbody.length bc, pbody⟩ sadr stag && (decide (pat ≤ mn) && decide (ask - mn ≤ plim)) || anyF (fun j p => isV p sadr stag && (decide (p.at_ ≤ min at_ (endN ps j - 1)) && decide (ask - min at_ (endN ps j - 1) ≤ p.lim))) (ps.drop (k + 1)) (k + 1)) by rw [HDR.out]; simp only [hE, hmn])
          clear hE
          have y1 : IntKind.i64.wrap (E - 1) = E - 1 := IntWalk.i64_in _ (by omega)
          have y2 : IntKind.i64.wrap (ask - mn) = ask - mn := IntWalk.i64_in _ (by omega)
          go_upto_region 8 with (go_at_call 85; refine (isv_any pat plim padr ptag ba pbody.length bc edge sadr stag ten ask at_ frm til ta tn tc qa qn qc ended _).mono ?_; rintro e w7 ⟨rfl, hb7⟩; rw [hv]; have HB7 := Lib.hid (HBb.out.trans (hb7.mono HBb.out.size)); have HXB7 := Lib.hid (HXB.out.older hb7); clear hb7)
          clear s0 s1 s2 s3 s6 s7 s8 s9 s10 x0 x1 x2 x3 x4
          have c0 := (HX2.out.older HB7.out).cell (i := 0) rfl
          have c1 := (HX2.out.older HB7.out).cell (i := 1) rfl
          have c2 := (HX2.out.older HB7.out).cell (i := 2) rfl
          have c3 := (HX2.out.older HB7.out).cell (i := 3) rfl
          have c4 := (HX2.out.older HB7.out).cell (i := 4) rfl
          have c5 := (HX2.out.older HB7.out).cell (i := 5) rfl
          have c6 := (HX2.out.older HB7.out).cell (i := 6) rfl
          have s5 := (HS2.out.older HB7.out).cell (i := 5) rfl
          have HBr := Lib.hid (HB2.out.trans (HB7.out.mono HB2.out.size))
          refine wp_region_held_drew (S := (fun w' => w'.cell? ⟨b0, 0, none⟩ = some (.slice (some ⟨bp, op, none⟩) n pc) ∧ w'.cell? ⟨b0, 1, none⟩ = some (vb) ∧ w'.cell? ⟨b0, 2, none⟩ = some (vc) ∧ w'.cell? ⟨b0, 3, none⟩ = some (vd) ∧ w'.cell? ⟨b0, 4, none⟩ = some (ve) ∧ w'.cell? ⟨b0, 5, none⟩ = some (.int .i64 bound) ∧ w'.cell? ⟨b0, 6, none⟩ = some (.int .i64 fin) ∧ w'.cell? ⟨b0 + 1, 5, none⟩ = some (.int .i64 at_))) (by kernel_rfl) (by exact ⟨c0, c1, c2, c3, c4, c5, c6, s5⟩) (fun hHeld => ?_)
          refine Hd.tk 0 ?_
          try simp only [Act.put, List.setIfInBounds_toArray, List.set_cons_zero, List.set_cons_succ]
          refine Hd.tk 1 ?_
          try simp only [Act.put, List.setIfInBounds_toArray, List.set_cons_zero, List.set_cons_succ]
          refine Hd.tk 3 ?_
          try simp only [Act.put, List.setIfInBounds_toArray, List.set_cons_zero, List.set_cons_succ]
          refine Hd.tk 4 ?_
          try simp only [Act.put, List.setIfInBounds_toArray, List.set_cons_zero, List.set_cons_succ]
          refine wpAnyH_ready (rs := [2]) (by kernel_rfl) (by simp) (AllReadyH.cons (by simp only [List.getElem?_toArray, List.getElem?_cons_succ, List.getElem?_cons_zero]; rfl) (fun K hK => ?_) AllReadyH.nil)
          go_simp
          go_at_call 84
          refine (HCA.out _).mono ?_
          rintro e wq1 ⟨rfl, rfl⟩
          go_wp2_with fail
          refine hK.out _ _ (by exact ⟨c0, c1, c2, c3, c4, c5, c6, s5⟩) (fun hHe1 => ?_)
          clear hK K
          try simp only [Act.put, List.setIfInBounds_toArray, List.set_cons_zero, List.set_cons_succ]
          refine wpAnyH_ready (rs := [5]) (by kernel_rfl) (by simp) (AllReadyH.cons (by simp only [List.getElem?_toArray, List.getElem?_cons_succ, List.getElem?_cons_zero]; rfl) (fun K hK => ?_) AllReadyH.nil)
          go_simp
          go_at_call 86
          refine (ended_any ps (.slice (some ⟨bp, op, none⟩) n pc) vb vc vd ve bound fin B k _ (HP.out.below (HBr.out.drew)) (by rw [HN.out]; exact hn) (fun p hp => (HPA.out p hp).below (HBr.out.drew)) HIN.out (by rw [HN.out]; exact HLT.out)).mono ?_
          rintro e wq2 ⟨rfl, hq2⟩
          have hqw2 : Below w7.heap.size w7 wq2 := ((Below.refl _ _).drew).trans hq2
          rw [HEV.out]
          go_wp2_with fail
          refine hK.out _ _ (by exact ⟨keepH hqw2 c0, keepH hqw2 c1, keepH hqw2 c2, keepH hqw2 c3, keepH hqw2 c4, keepH hqw2 c5, keepH hqw2 c6, keepH hqw2 s5⟩) (fun hHe2 => ?_)
          clear hK K
          try simp only [Act.put, List.setIfInBounds_toArray, List.set_cons_zero, List.set_cons_succ]
          refine Hd.tk 6 ?_
          try simp only [Act.put, List.setIfInBounds_toArray, List.set_cons_zero, List.set_cons_succ]
          refine Hd.tk 7 ?_
          try simp only [Act.put, List.setIfInBounds_toArray, List.set_cons_zero, List.set_cons_succ]
          refine Hd.tk 8 ?_
          try simp only [Act.put, List.setIfInBounds_toArray, List.set_cons_zero, List.set_cons_succ]
          refine wpAnyH_done (by kernel_rfl) ?_ _
          have HB8 := Lib.hid (HB7.out.trans (hqw2.mono HB7.out.size))
          have HXB8 := Lib.hid (HXB7.out.older hqw2)
          clear hqw2 c0 c1 c2 c3 c4 c5 c6 s4 s5
          have x0 := HXB8.out.cell (i := 0) rfl
          have x1 := HXB8.out.cell (i := 1) rfl
          have s4 := (HS2.out.older HB8.out).cell (i := 4) rfl
          go_upto_region 9 with fail
          by_cases h1 : pat ≤ mn
          · have e1 : decide (pat ≤ mn) = true := decide_eq_true h1
            by_cases h2 : ask - mn ≤ plim
            · have e2 : decide (ask - mn ≤ plim) = true := decide_eq_true h2
              refine wp_region_held_drew (S := (fun w' => w'.cell? ⟨bb, 0, none⟩ = some (.int .i64 pat) ∧ w'.cell? ⟨bb, 1, none⟩ = some (.int .i64 plim) ∧ w'.cell? ⟨b0 + 1, 4, none⟩ = some (.int .i64 ask))) (by kernel_rfl) (by exact ⟨x0, x1, s4⟩) (fun hHeld => ?_)
              refine Hd.tk 0 ?_
              try simp only [Act.put, List.setIfInBounds_toArray, List.set_cons_zero, List.set_cons_succ]
              refine Hd.tk 1 ?_
              try simp only [Act.put, List.setIfInBounds_toArray, List.set_cons_zero, List.set_cons_succ]
              refine Hd.tk 2 ?_
              try simp only [Act.put, List.setIfInBounds_toArray, List.set_cons_zero, List.set_cons_succ]
              refine wpAnyH_ready (rs := [3]) (by kernel_rfl) (by simp) (AllReadyH.cons (by simp only [List.getElem?_toArray, List.getElem?_cons_succ, List.getElem?_cons_zero]; rfl) (fun K hK => ?_) AllReadyH.nil)
              go_simp
              go_at_call 84
              refine (HCP.out _).mono ?_
              rintro e wq1 ⟨rfl, rfl⟩
              go_wp2_with fail
              refine hK.out _ _ (by exact ⟨x0, x1, s4⟩) (fun hHe1 => ?_)
              clear hK K
              try simp only [Act.put, List.setIfInBounds_toArray, List.set_cons_zero, List.set_cons_succ]
              refine Hd.tk 4 ?_
              try simp only [Act.put, List.setIfInBounds_toArray, List.set_cons_zero, List.set_cons_succ]
              refine Hd.tk 5 ?_
              try simp only [Act.put, List.setIfInBounds_toArray, List.set_cons_zero, List.set_cons_succ]
              refine Hd.tk 6 ?_
              try simp only [Act.put, List.setIfInBounds_toArray, List.set_cons_zero, List.set_cons_succ]
              refine Hd.tk 7 ?_
              try simp only [Act.put, List.setIfInBounds_toArray, List.set_cons_zero, List.set_cons_succ]
              refine Hd.tk 9 ?_
              try simp only [Act.put, List.setIfInBounds_toArray, List.set_cons_zero, List.set_cons_succ]
              refine Hd.tk 11 ?_
              try simp only [Act.put, List.setIfInBounds_toArray, List.set_cons_zero, List.set_cons_succ]
              refine Hd.tk 12 ?_
              try simp only [Act.put, List.setIfInBounds_toArray, List.set_cons_zero, List.set_cons_succ]
              refine wpAnyH_ready (rs := [8]) (by kernel_rfl) (by simp) (AllReadyH.cons (by simp only [List.getElem?_toArray, List.getElem?_cons_succ, List.getElem?_cons_zero]; rfl) (fun K hK => ?_) AllReadyH.nil)
              go_simp
              go_at_call 84
              refine (HCK.out _).mono ?_
              rintro e wq2 ⟨rfl, rfl⟩
              go_wp2_with fail
              refine hK.out _ _ (by exact ⟨x0, x1, s4⟩) (fun hHe2 => ?_)
              clear hK K
              try simp only [Act.put, List.setIfInBounds_toArray, List.set_cons_zero, List.set_cons_succ]
              refine Hd.tk 10 ?_
              try simp only [Act.put, List.setIfInBounds_toArray, List.set_cons_zero, List.set_cons_succ]
              refine wpAnyH_ready (rs := [13]) (by kernel_rfl) (by simp) (AllReadyH.cons (by simp only [List.getElem?_toArray, List.getElem?_cons_succ, List.getElem?_cons_zero]; rfl) (fun K hK => ?_) AllReadyH.nil)
              go_simp
              go_at_call 84
              refine (HCL.out _).mono ?_
              rintro e wq3 ⟨rfl, rfl⟩
              go_wp2_with fail
              refine hK.out _ _ (by exact ⟨x0, x1, s4⟩) (fun hHe3 => ?_)
              clear hK K
              try simp only [Act.put, List.setIfInBounds_toArray, List.set_cons_zero, List.set_cons_succ]
              refine Hd.tk 14 ?_
              try simp only [Act.put, List.setIfInBounds_toArray, List.set_cons_zero, List.set_cons_succ]
              refine Hd.tk 15 ?_
              try simp only [Act.put, List.setIfInBounds_toArray, List.set_cons_zero, List.set_cons_succ]
              refine wpAnyH_done (by kernel_rfl) ?_ _
              have HF := Lib.hid (show kb = true by rw [HE.out, HDR.out]; unfold isV; simp [hv, e1, e2])
              go_wp2_with fail
              go_ret
              exact ⟨by rw [HF.out]; rfl, (HB2.out.trans (HB8.out.mono HB2.out.size)).drew⟩
            · have e2 : decide (ask - mn ≤ plim) = false := decide_eq_false h2
              refine wp_region_held_drew (S := (fun w' => w'.cell? ⟨bb, 0, none⟩ = some (.int .i64 pat) ∧ w'.cell? ⟨bb, 1, none⟩ = some (.int .i64 plim) ∧ w'.cell? ⟨b0 + 1, 4, none⟩ = some (.int .i64 ask))) (by kernel_rfl) (by exact ⟨x0, x1, s4⟩) (fun hHeld => ?_)
              refine Hd.tk 0 ?_
              try simp only [Act.put, List.setIfInBounds_toArray, List.set_cons_zero, List.set_cons_succ]
              refine Hd.tk 1 ?_
              try simp only [Act.put, List.setIfInBounds_toArray, List.set_cons_zero, List.set_cons_succ]
              refine Hd.tk 2 ?_
              try simp only [Act.put, List.setIfInBounds_toArray, List.set_cons_zero, List.set_cons_succ]
              refine wpAnyH_ready (rs := [3]) (by kernel_rfl) (by simp) (AllReadyH.cons (by simp only [List.getElem?_toArray, List.getElem?_cons_succ, List.getElem?_cons_zero]; rfl) (fun K hK => ?_) AllReadyH.nil)
              go_simp
              go_at_call 84
              refine (HCP.out _).mono ?_
              rintro e wq1 ⟨rfl, rfl⟩
              go_wp2_with fail
              refine hK.out _ _ (by exact ⟨x0, x1, s4⟩) (fun hHe1 => ?_)
              clear hK K
              try simp only [Act.put, List.setIfInBounds_toArray, List.set_cons_zero, List.set_cons_succ]
              refine Hd.tk 4 ?_
              try simp only [Act.put, List.setIfInBounds_toArray, List.set_cons_zero, List.set_cons_succ]
              refine Hd.tk 5 ?_
              try simp only [Act.put, List.setIfInBounds_toArray, List.set_cons_zero, List.set_cons_succ]
              refine Hd.tk 6 ?_
              try simp only [Act.put, List.setIfInBounds_toArray, List.set_cons_zero, List.set_cons_succ]
              refine Hd.tk 7 ?_
              try simp only [Act.put, List.setIfInBounds_toArray, List.set_cons_zero, List.set_cons_succ]
              refine Hd.tk 9 ?_
              try simp only [Act.put, List.setIfInBounds_toArray, List.set_cons_zero, List.set_cons_succ]
              refine Hd.tk 11 ?_
              try simp only [Act.put, List.setIfInBounds_toArray, List.set_cons_zero, List.set_cons_succ]
              refine Hd.tk 12 ?_
              try simp only [Act.put, List.setIfInBounds_toArray, List.set_cons_zero, List.set_cons_succ]
              refine wpAnyH_ready (rs := [8]) (by kernel_rfl) (by simp) (AllReadyH.cons (by simp only [List.getElem?_toArray, List.getElem?_cons_succ, List.getElem?_cons_zero]; rfl) (fun K hK => ?_) AllReadyH.nil)
              go_simp
              go_at_call 84
              refine (HCK.out _).mono ?_
              rintro e wq2 ⟨rfl, rfl⟩
              go_wp2_with fail
              refine hK.out _ _ (by exact ⟨x0, x1, s4⟩) (fun hHe2 => ?_)
              clear hK K
              try simp only [Act.put, List.setIfInBounds_toArray, List.set_cons_zero, List.set_cons_succ]
              refine Hd.tk 10 ?_
              try simp only [Act.put, List.setIfInBounds_toArray, List.set_cons_zero, List.set_cons_succ]
              refine wpAnyH_ready (rs := [13]) (by kernel_rfl) (by simp) (AllReadyH.cons (by simp only [List.getElem?_toArray, List.getElem?_cons_succ, List.getElem?_cons_zero]; rfl) (fun K hK => ?_) AllReadyH.nil)
              go_simp
              go_at_call 84
              refine (HCL.out _).mono ?_
              rintro e wq3 ⟨rfl, rfl⟩
              go_wp2_with fail
              refine hK.out _ _ (by exact ⟨x0, x1, s4⟩) (fun hHe3 => ?_)
              clear hK K
              try simp only [Act.put, List.setIfInBounds_toArray, List.set_cons_zero, List.set_cons_succ]
              refine Hd.tk 14 ?_
              try simp only [Act.put, List.setIfInBounds_toArray, List.set_cons_zero, List.set_cons_succ]
              refine Hd.tk 15 ?_
              try simp only [Act.put, List.setIfInBounds_toArray, List.set_cons_zero, List.set_cons_succ]
              refine wpAnyH_done (by kernel_rfl) ?_ _
              have HF := Lib.hid (show kb = anyF (fun j p => isV p sadr stag && (decide (p.at_ ≤ min at_ (endN ps j - 1)) && decide (ask - min at_ (endN ps j - 1) ≤ p.lim))) (ps.drop (k + 1)) (k + 1) by rw [HE.out, HDR.out]; unfold isV; simp [hv, e1, e2])
              go_wp2_with fail
              go_roundg (gk - 1)
              case rel => exact ⟨k + 1, by go_num, by have := HLT.out; omega, Lib.hid (by have := HQ.out; omega), HF, Lib.hid HB8.out.drew⟩
              case measure => have := HQ.out; have := HLT.out; omega
          · have e1 : decide (pat ≤ mn) = false := decide_eq_false h1
            refine wp_region_held_drew (S := (fun w' => w'.cell? ⟨bb, 0, none⟩ = some (.int .i64 pat) ∧ w'.cell? ⟨bb, 1, none⟩ = some (.int .i64 plim) ∧ w'.cell? ⟨b0 + 1, 4, none⟩ = some (.int .i64 ask))) (by kernel_rfl) (by exact ⟨x0, x1, s4⟩) (fun hHeld => ?_)
            refine Hd.tk 0 ?_
            try simp only [Act.put, List.setIfInBounds_toArray, List.set_cons_zero, List.set_cons_succ]
            refine Hd.tk 1 ?_
            try simp only [Act.put, List.setIfInBounds_toArray, List.set_cons_zero, List.set_cons_succ]
            refine Hd.tk 2 ?_
            try simp only [Act.put, List.setIfInBounds_toArray, List.set_cons_zero, List.set_cons_succ]
            refine wpAnyH_ready (rs := [3]) (by kernel_rfl) (by simp) (AllReadyH.cons (by simp only [List.getElem?_toArray, List.getElem?_cons_succ, List.getElem?_cons_zero]; rfl) (fun K hK => ?_) AllReadyH.nil)
            go_simp
            go_at_call 84
            refine (HCP.out _).mono ?_
            rintro e wq1 ⟨rfl, rfl⟩
            go_wp2_with fail
            refine hK.out _ _ (by exact ⟨x0, x1, s4⟩) (fun hHe1 => ?_)
            clear hK K
            try simp only [Act.put, List.setIfInBounds_toArray, List.set_cons_zero, List.set_cons_succ]
            refine Hd.tk 4 ?_
            try simp only [Act.put, List.setIfInBounds_toArray, List.set_cons_zero, List.set_cons_succ]
            refine Hd.tk 5 ?_
            try simp only [Act.put, List.setIfInBounds_toArray, List.set_cons_zero, List.set_cons_succ]
            refine Hd.sk 6 ?_
            try simp only [Act.put, List.setIfInBounds_toArray, List.set_cons_zero, List.set_cons_succ]
            refine Hd.sk 7 ?_
            try simp only [Act.put, List.setIfInBounds_toArray, List.set_cons_zero, List.set_cons_succ]
            refine Hd.sk 8 ?_
            try simp only [Act.put, List.setIfInBounds_toArray, List.set_cons_zero, List.set_cons_succ]
            refine Hd.sk 9 ?_
            try simp only [Act.put, List.setIfInBounds_toArray, List.set_cons_zero, List.set_cons_succ]
            refine Hd.sk 10 ?_
            try simp only [Act.put, List.setIfInBounds_toArray, List.set_cons_zero, List.set_cons_succ]
            refine Hd.sk 11 ?_
            try simp only [Act.put, List.setIfInBounds_toArray, List.set_cons_zero, List.set_cons_succ]
            refine Hd.sk 12 ?_
            try simp only [Act.put, List.setIfInBounds_toArray, List.set_cons_zero, List.set_cons_succ]
            refine Hd.sk 13 ?_
            try simp only [Act.put, List.setIfInBounds_toArray, List.set_cons_zero, List.set_cons_succ]
            refine Hd.sk 14 ?_
            try simp only [Act.put, List.setIfInBounds_toArray, List.set_cons_zero, List.set_cons_succ]
            refine Hd.tk 15 ?_
            try simp only [Act.put, List.setIfInBounds_toArray, List.set_cons_zero, List.set_cons_succ]
            refine wpAnyH_done (by kernel_rfl) ?_ _
            have HF := Lib.hid (show kb = anyF (fun j p => isV p sadr stag && (decide (p.at_ ≤ min at_ (endN ps j - 1)) && decide (ask - min at_ (endN ps j - 1) ≤ p.lim))) (ps.drop (k + 1)) (k + 1) by rw [HE.out, HDR.out]; unfold isV; simp [hv, e1])
            go_wp2_with fail
            go_roundg (gk - 1)
            case rel => exact ⟨k + 1, by go_num, by have := HLT.out; omega, Lib.hid (by have := HQ.out; omega), HF, Lib.hid HB8.out.drew⟩
            case measure => have := HQ.out; have := HLT.out; omega
      · have HF := Lib.hid (show kb = false by rw [HE.out, anyF_end (by rw [HN.out]; omega)])
        obtain rfl : n = k := by omega
        go_wp2_with fail
        go_ret
        exact ⟨by rw [HF.out]; rfl, HB2.out.trans (HB.out.mono HB2.out.size)⟩
theorem rwhole_any (ps : List PubM) (va vb vc vd ve : Value) (bound fin : Int) (B : Nat) (edge sadr stag : Bs) (ten ask at_ frm til : Int) (ta : Option Addr) (tn tc : Nat) (qa : Option Addr) (qn qc : Nat) (ended : Bool) (tags : List Bs) (parts : List PartM) (w : World) (hp : RowsV pubR 5 w va ps) (hn : ps.length ≤ 1000) (hpa : ∀ p ∈ ps, PubAt w B p) (hin : ∀ p ∈ ps, inB p.at_) (hB : B ≤ 134217728) (hq : RowsV partR 3 w (.slice qa qn qc) parts) (hql : parts.length ≤ 1000000000) (hqa : ∀ x ∈ parts, SrcAt w x.dV x.data.length (bvals x.data) ∧ x.data.length ≤ 1000000000) :
    Calls Tryz.prog 64 #[.agg #[va, vb, vc, vd, ve, .int .i64 bound, .int .i64 fin], .agg #[.string ⟨edge.toArray⟩, .string ⟨sadr.toArray⟩, .string ⟨stag.toArray⟩, .int .i64 ten, .int .i64 ask, .int .i64 at_, .int .i64 frm, .int .i64 til, .slice ta tn tc, .slice qa qn qc, .bool ended]] w fun e w' => e = .returned (.bool (anyF (fun _ p => isV p sadr stag && fitsB p.body ⟨edge, sadr, stag, ten, ask, at_, frm, til, .slice ta tn tc, tags, .slice qa qn qc, parts, ended⟩) ps 0)) ∧ Below w.heap.size w w' := by
  obtain ⟨pa, pc, rfl, hpc⟩ := hp.form
  obtain ⟨n, hnn⟩ : ∃ z, ps.length = z := ⟨_, rfl⟩
  have HN := Lib.hid hnn
  have HP := Lib.hid hp
  have HPA := Lib.hid hpa
  have HIN := Lib.hid hin
  rw [hnn] at HP hn hpc ⊢
  clear hp hpa hin hnn
  have HBD := Lib.hid hB
  have HQ0 := Lib.hid hq
  have HQL := Lib.hid hql
  have HQA := Lib.hid hqa
  clear hB hq hql hqa
  obtain ⟨kb, hkb⟩ : ∃ z, anyF (fun _ p => isV p sadr stag && fitsB p.body ⟨edge, sadr, stag, ten, ask, at_, frm, til, .slice ta tn tc, tags, .slice qa qn qc, parts, ended⟩) ps 0 = z := ⟨_, rfl⟩
  have HK0 := Lib.hid (show kb = anyF (fun _ p => isV p sadr stag && fitsB p.body ⟨edge, sadr, stag, ten, ask, at_, frm, til, .slice ta tn tc, tags, .slice qa qn qc, parts, ended⟩) (ps.drop 0) 0 from hkb.symm)
  rw [hkb]
  clear hkb
  go_enter Tryz.func64, Tryz.ntmps64
  go_upto_region 1 with fail
  have HX0 := Lib.hid (bx_allocH (Bx.new w 69 #[.slice pa n pc, vb, vc, vd, ve, .int .i64 bound, .int .i64 fin]) (.cells #[.string ⟨edge.toArray⟩, .string ⟨sadr.toArray⟩, .string ⟨stag.toArray⟩, .int .i64 ten, .int .i64 ask, .int .i64 at_, .int .i64 frm, .int .i64 til, .slice ta tn tc, .slice qa qn qc, .bool ended] 82))
  have HS0 := Lib.hid (bx_newH (w := w.alloc (.cells #[.slice pa n pc, vb, vc, vd, ve, .int .i64 bound, .int .i64 fin] 69)) (n := w.heap.size + 1) (T := 82) (cs := #[.string ⟨edge.toArray⟩, .string ⟨sadr.toArray⟩, .string ⟨stag.toArray⟩, .int .i64 ten, .int .i64 ask, .int .i64 at_, .int .i64 frm, .int .i64 til, .slice ta tn tc, .slice qa qn qc, .bool ended]) (by simp))
  have HB0 := Lib.hid (((Below.refl w.heap.size w).alloc (Nat.le_refl _) (.cells #[.slice pa n pc, vb, vc, vd, ve, .int .i64 bound, .int .i64 fin] 69)).alloc (by simp) (.cells #[.string ⟨edge.toArray⟩, .string ⟨sadr.toArray⟩, .string ⟨stag.toArray⟩, .int .i64 ten, .int .i64 ask, .int .i64 at_, .int .i64 frm, .int .i64 til, .slice ta tn tc, .slice qa qn qc, .bool ended] 82))
  obtain ⟨w1, hw1⟩ : ∃ z, (w.alloc (.cells #[.slice pa n pc, vb, vc, vd, ve, .int .i64 bound, .int .i64 fin] 69)).alloc (.cells #[.string ⟨edge.toArray⟩, .string ⟨sadr.toArray⟩, .string ⟨stag.toArray⟩, .int .i64 ten, .int .i64 ask, .int .i64 at_, .int .i64 frm, .int .i64 til, .slice ta tn tc, .slice qa qn qc, .bool ended] 82) = z := ⟨_, rfl⟩
  obtain ⟨b0, hb0⟩ : ∃ z, w.heap.size = z := ⟨_, rfl⟩
  rw [hw1] at HX0 HS0 HB0 ⊢
  rw [hb0] at HX0 HS0 ⊢
  clear hw1 hb0
  have c0 := HX0.out.cell (i := 0) rfl
  go_wp2_with fail
  go_loopg [9] n (fun gq iv wr => ∃ k : Nat, iv = .int .i64 k ∧ k ≤ n ∧ Hid (n ≤ gq + k) ∧ Hid (kb = anyF (fun _ p => isV p sadr stag && fitsB p.body ⟨edge, sadr, stag, ten, ask, at_, frm, til, .slice ta tn tc, tags, .slice qa qn qc, parts, ended⟩) (ps.drop k) k) ∧ Hid (Below w1.heap.size w1 wr))
  case atStart => exact ⟨0, rfl, Nat.zero_le _, Lib.hid (by omega), HK0, Lib.hid (Below.refl _ _)⟩
  case round =>
    obtain ⟨k, rfl, hk, HQ, HE, HB⟩ := hrel
    by_cases hlt : k < n
    · have HLT := Lib.hid hlt
      obtain ⟨p, hpk⟩ : ∃ p, ps[k]? = some p := ⟨_, List.getElem?_eq_getElem (by rw [HN.out]; exact hlt)⟩
      have HPK := Lib.hid hpk
      have hpp := HPA.out p (List.mem_of_getElem? hpk)
      have HPI := Lib.hid (HIN.out p (List.mem_of_getElem? hpk))
      have HPB := Lib.hid (HPA.out p (List.mem_of_getElem? hpk))
      obtain ⟨bp, op, e5, _, hbl, hrow⟩ := row_at (HP.out.below (HB0.out.trans (HB.out.mono HB0.out.size))) hpk
      cases e5
      obtain ⟨pat, plim, padr, ptag, pbv, pbody⟩ := p
      obtain ⟨_, _, hsrc, _⟩ := hpp
      obtain ⟨ba, bc, hbv⟩ := Sg.src_form hsrc
      simp only at hbv
      subst hbv
      have d0 := hrow 0 _ rfl
      have d1 := hrow 1 _ rfl
      have d2 := hrow 2 _ rfl
      have d3 := hrow 3 _ rfl
      have d4 := hrow 4 _ rfl
      rw [Nat.add_zero] at d0
      clear hrow hsrc hpk
      have q1 : (k : Int) < (n : Int) := by omega
      have q2 : (0 : Int) ≤ (k : Int) := by omega
      have q3 : IntKind.i64.wrap ((k : Int) + 1) = (k : Int) + 1 := IntWalk.i64_in _ (by omega)
      have HDR := Lib.hid (anyF_drop (c := fun _ p => isV p sadr stag && fitsB p.body ⟨edge, sadr, stag, ten, ask, at_, frm, til, .slice ta tn tc, tags, .slice qa qn qc, parts, ended⟩) HPK.out)
      have HBr := Lib.hid (HB0.out.trans (HB.out.mono HB0.out.size))
      have c0 := (HX0.out.older HB.out).cell (i := 0) rfl
      have c1 := (HX0.out.older HB.out).cell (i := 1) rfl
      have c2 := (HX0.out.older HB.out).cell (i := 2) rfl
      have c3 := (HX0.out.older HB.out).cell (i := 3) rfl
      have c4 := (HX0.out.older HB.out).cell (i := 4) rfl
      have c5 := (HX0.out.older HB.out).cell (i := 5) rfl
      have c6 := (HX0.out.older HB.out).cell (i := 6) rfl
      have s0 := (HS0.out.older HB.out).cell (i := 0) rfl
      have s1 := (HS0.out.older HB.out).cell (i := 1) rfl
      have s2 := (HS0.out.older HB.out).cell (i := 2) rfl
      have s3 := (HS0.out.older HB.out).cell (i := 3) rfl
      have s4 := (HS0.out.older HB.out).cell (i := 4) rfl
      have s5 := (HS0.out.older HB.out).cell (i := 5) rfl
      have s6 := (HS0.out.older HB.out).cell (i := 6) rfl
      have s7 := (HS0.out.older HB.out).cell (i := 7) rfl
      have s8 := (HS0.out.older HB.out).cell (i := 8) rfl
      have s9 := (HS0.out.older HB.out).cell (i := 9) rfl
      have s10 := (HS0.out.older HB.out).cell (i := 10) rfl
      skip
      obtain ⟨fv, hfv⟩ : ∃ z, fitsB pbody ⟨edge, sadr, stag, ten, ask, at_, frm, til, .slice ta tn tc, tags, .slice qa qn qc, parts, ended⟩ = z := ⟨_, rfl⟩
      have HFV := Lib.hid hfv
      have HDR := Lib.hid (show anyF (fun _ p => isV p sadr stag && fitsB p.body ⟨edge, sadr, stag, ten, ask, at_, frm, til, .slice ta tn tc, tags, .slice qa qn qc, parts, ended⟩) (ps.drop k) k = (isV ⟨pat, plim, padr, ptag, .slice ba pbody.length bc, pbody⟩ sadr stag && fv || anyF (fun _ p => isV p sadr stag && fitsB p.body ⟨edge, sadr, stag, ten, ask, at_, frm, til, .slice ta tn tc, tags, .slice qa qn qc, parts, ended⟩) (ps.drop (k + 1)) (k + 1)) by rw [HDR.out]; simp only [hfv])
      clear hfv
      cases hv : (padr == sadr && ptag == stag) with
      | false =>
        go_upto_region 4 with fail
        refine wp_region_held_drew (S := (fun w' => w'.cell? ⟨b0, 0, none⟩ = some (.slice (some ⟨bp, op, none⟩) n pc) ∧ w'.cell? ⟨b0 + 1, 0, none⟩ = some (.string ⟨edge.toArray⟩) ∧ w'.cell? ⟨b0 + 1, 1, none⟩ = some (.string ⟨sadr.toArray⟩) ∧ w'.cell? ⟨b0 + 1, 2, none⟩ = some (.string ⟨stag.toArray⟩) ∧ w'.cell? ⟨b0 + 1, 3, none⟩ = some (.int .i64 ten) ∧ w'.cell? ⟨b0 + 1, 4, none⟩ = some (.int .i64 ask) ∧ w'.cell? ⟨b0 + 1, 5, none⟩ = some (.int .i64 at_) ∧ w'.cell? ⟨b0 + 1, 6, none⟩ = some (.int .i64 frm) ∧ w'.cell? ⟨b0 + 1, 7, none⟩ = some (.int .i64 til) ∧ w'.cell? ⟨b0 + 1, 8, none⟩ = some (.slice ta tn tc) ∧ w'.cell? ⟨b0 + 1, 9, none⟩ = some (.slice qa qn qc) ∧ w'.cell? ⟨b0 + 1, 10, none⟩ = some (.bool ended) ∧ w'.cell? ⟨bp, op + k * 5, none⟩ = some (.int .i64 pat) ∧ w'.cell? ⟨bp, op + k * 5 + 1, none⟩ = some (.int .i64 plim) ∧ w'.cell? ⟨bp, op + k * 5 + 2, none⟩ = some (.string ⟨padr.toArray⟩) ∧ w'.cell? ⟨bp, op + k * 5 + 3, none⟩ = some (.string ⟨ptag.toArray⟩) ∧ w'.cell? ⟨bp, op + k * 5 + 4, none⟩ = some (.slice ba pbody.length bc))) (by kernel_rfl) (by exact ⟨c0, s0, s1, s2, s3, s4, s5, s6, s7, s8, s9, s10, d0, d1, d2, d3, d4⟩) (fun hHeld => ?_)
        refine Hd.tk 0 ?_
        try simp only [Act.put, List.setIfInBounds_toArray, List.set_cons_zero, List.set_cons_succ]
        refine Hd.tk 1 ?_
        try simp only [Act.put, List.setIfInBounds_toArray, List.set_cons_zero, List.set_cons_succ]
        refine Hd.tk 2 ?_
        try simp only [Act.put, List.setIfInBounds_toArray, List.set_cons_zero, List.set_cons_succ]
        refine Hd.tk 3 ?_
        try simp only [Act.put, List.setIfInBounds_toArray, List.set_cons_zero, List.set_cons_succ]
        refine Hd.tk 4 ?_
        try simp only [Act.put, List.setIfInBounds_toArray, List.set_cons_zero, List.set_cons_succ]
        refine Hd.tk 5 ?_
        try simp only [Act.put, List.setIfInBounds_toArray, List.set_cons_zero, List.set_cons_succ]
        refine wpAnyH_ready (rs := [6]) (by kernel_rfl) (by simp) (AllReadyH.cons (by simp only [List.getElem?_toArray, List.getElem?_cons_succ, List.getElem?_cons_zero]; rfl) (fun K hK => ?_) AllReadyH.nil)
        go_simp
        go_at_call 85
        refine (isv_any pat plim padr ptag ba pbody.length bc edge sadr stag ten ask at_ frm til ta tn tc qa qn qc ended _).mono ?_
        rintro e wq1 ⟨rfl, hq1⟩
        have hqw1 : Below wr.heap.size wr wq1 := ((Below.refl _ _).drew).trans hq1
        rw [hv]
        go_wp2_with fail
        refine hK.out _ _ (by exact ⟨keepH hqw1 c0, keepH hqw1 s0, keepH hqw1 s1, keepH hqw1 s2, keepH hqw1 s3, keepH hqw1 s4, keepH hqw1 s5, keepH hqw1 s6, keepH hqw1 s7, keepH hqw1 s8, keepH hqw1 s9, keepH hqw1 s10, keepH hqw1 d0, keepH hqw1 d1, keepH hqw1 d2, keepH hqw1 d3, keepH hqw1 d4⟩) (fun hHe1 => ?_)
        clear hK K
        try simp only [Act.put, List.setIfInBounds_toArray, List.set_cons_zero, List.set_cons_succ]
        refine Hd.tk 7 ?_
        try simp only [Act.put, List.setIfInBounds_toArray, List.set_cons_zero, List.set_cons_succ]
        refine Hd.sk 8 ?_
        try simp only [Act.put, List.setIfInBounds_toArray, List.set_cons_zero, List.set_cons_succ]
        refine Hd.sk 9 ?_
        try simp only [Act.put, List.setIfInBounds_toArray, List.set_cons_zero, List.set_cons_succ]
        refine Hd.sk 10 ?_
        try simp only [Act.put, List.setIfInBounds_toArray, List.set_cons_zero, List.set_cons_succ]
        refine Hd.sk 11 ?_
        try simp only [Act.put, List.setIfInBounds_toArray, List.set_cons_zero, List.set_cons_succ]
        refine Hd.sk 12 ?_
        try simp only [Act.put, List.setIfInBounds_toArray, List.set_cons_zero, List.set_cons_succ]
        refine Hd.sk 13 ?_
        try simp only [Act.put, List.setIfInBounds_toArray, List.set_cons_zero, List.set_cons_succ]
        refine Hd.sk 14 ?_
        try simp only [Act.put, List.setIfInBounds_toArray, List.set_cons_zero, List.set_cons_succ]
        refine Hd.sk 15 ?_
        try simp only [Act.put, List.setIfInBounds_toArray, List.set_cons_zero, List.set_cons_succ]
        refine Hd.tk 16 ?_
        try simp only [Act.put, List.setIfInBounds_toArray, List.set_cons_zero, List.set_cons_succ]
        refine wpAnyH_done (by kernel_rfl) ?_ _
        have HF := Lib.hid (show kb = anyF (fun _ p => isV p sadr stag && fitsB p.body ⟨edge, sadr, stag, ten, ask, at_, frm, til, .slice ta tn tc, tags, .slice qa qn qc, parts, ended⟩) (ps.drop (k + 1)) (k + 1) by rw [HE.out, HDR.out]; unfold isV; simp [hv])
        go_wp2_with fail
        go_roundg (gk - 1)
        case rel => exact ⟨k + 1, by go_num, by have := HLT.out; omega, Lib.hid (by have := HQ.out; omega), HF, Lib.hid (HB.out.trans (hqw1.mono HB.out.size))⟩
        case measure => have := HQ.out; have := HLT.out; omega
      | true =>
        cases fv with
        | true =>
          go_upto_region 4 with fail
          refine wp_region_held_drew (S := (fun w' => w'.cell? ⟨b0, 0, none⟩ = some (.slice (some ⟨bp, op, none⟩) n pc) ∧ w'.cell? ⟨b0 + 1, 0, none⟩ = some (.string ⟨edge.toArray⟩) ∧ w'.cell? ⟨b0 + 1, 1, none⟩ = some (.string ⟨sadr.toArray⟩) ∧ w'.cell? ⟨b0 + 1, 2, none⟩ = some (.string ⟨stag.toArray⟩) ∧ w'.cell? ⟨b0 + 1, 3, none⟩ = some (.int .i64 ten) ∧ w'.cell? ⟨b0 + 1, 4, none⟩ = some (.int .i64 ask) ∧ w'.cell? ⟨b0 + 1, 5, none⟩ = some (.int .i64 at_) ∧ w'.cell? ⟨b0 + 1, 6, none⟩ = some (.int .i64 frm) ∧ w'.cell? ⟨b0 + 1, 7, none⟩ = some (.int .i64 til) ∧ w'.cell? ⟨b0 + 1, 8, none⟩ = some (.slice ta tn tc) ∧ w'.cell? ⟨b0 + 1, 9, none⟩ = some (.slice qa qn qc) ∧ w'.cell? ⟨b0 + 1, 10, none⟩ = some (.bool ended) ∧ w'.cell? ⟨bp, op + k * 5, none⟩ = some (.int .i64 pat) ∧ w'.cell? ⟨bp, op + k * 5 + 1, none⟩ = some (.int .i64 plim) ∧ w'.cell? ⟨bp, op + k * 5 + 2, none⟩ = some (.string ⟨padr.toArray⟩) ∧ w'.cell? ⟨bp, op + k * 5 + 3, none⟩ = some (.string ⟨ptag.toArray⟩) ∧ w'.cell? ⟨bp, op + k * 5 + 4, none⟩ = some (.slice ba pbody.length bc))) (by kernel_rfl) (by exact ⟨c0, s0, s1, s2, s3, s4, s5, s6, s7, s8, s9, s10, d0, d1, d2, d3, d4⟩) (fun hHeld => ?_)
          refine Hd.tk 0 ?_
          try simp only [Act.put, List.setIfInBounds_toArray, List.set_cons_zero, List.set_cons_succ]
          refine Hd.tk 1 ?_
          try simp only [Act.put, List.setIfInBounds_toArray, List.set_cons_zero, List.set_cons_succ]
          refine Hd.tk 2 ?_
          try simp only [Act.put, List.setIfInBounds_toArray, List.set_cons_zero, List.set_cons_succ]
          refine Hd.tk 3 ?_
          try simp only [Act.put, List.setIfInBounds_toArray, List.set_cons_zero, List.set_cons_succ]
          refine Hd.tk 4 ?_
          try simp only [Act.put, List.setIfInBounds_toArray, List.set_cons_zero, List.set_cons_succ]
          refine Hd.tk 5 ?_
          try simp only [Act.put, List.setIfInBounds_toArray, List.set_cons_zero, List.set_cons_succ]
          refine wpAnyH_ready (rs := [6]) (by kernel_rfl) (by simp) (AllReadyH.cons (by simp only [List.getElem?_toArray, List.getElem?_cons_succ, List.getElem?_cons_zero]; rfl) (fun K hK => ?_) AllReadyH.nil)
          go_simp
          go_at_call 85
          refine (isv_any pat plim padr ptag ba pbody.length bc edge sadr stag ten ask at_ frm til ta tn tc qa qn qc ended _).mono ?_
          rintro e wq1 ⟨rfl, hq1⟩
          have hqw1 : Below wr.heap.size wr wq1 := ((Below.refl _ _).drew).trans hq1
          rw [hv]
          go_wp2_with fail
          refine hK.out _ _ (by exact ⟨keepH hqw1 c0, keepH hqw1 s0, keepH hqw1 s1, keepH hqw1 s2, keepH hqw1 s3, keepH hqw1 s4, keepH hqw1 s5, keepH hqw1 s6, keepH hqw1 s7, keepH hqw1 s8, keepH hqw1 s9, keepH hqw1 s10, keepH hqw1 d0, keepH hqw1 d1, keepH hqw1 d2, keepH hqw1 d3, keepH hqw1 d4⟩) (fun hHe1 => ?_)
          clear hK K
          try simp only [Act.put, List.setIfInBounds_toArray, List.set_cons_zero, List.set_cons_succ]
          refine Hd.tk 7 ?_
          try simp only [Act.put, List.setIfInBounds_toArray, List.set_cons_zero, List.set_cons_succ]
          refine Hd.tk 8 ?_
          try simp only [Act.put, List.setIfInBounds_toArray, List.set_cons_zero, List.set_cons_succ]
          refine Hd.tk 9 ?_
          try simp only [Act.put, List.setIfInBounds_toArray, List.set_cons_zero, List.set_cons_succ]
          refine Hd.tk 10 ?_
          try simp only [Act.put, List.setIfInBounds_toArray, List.set_cons_zero, List.set_cons_succ]
          refine Hd.tk 11 ?_
          try simp only [Act.put, List.setIfInBounds_toArray, List.set_cons_zero, List.set_cons_succ]
          refine Hd.tk 12 ?_
          try simp only [Act.put, List.setIfInBounds_toArray, List.set_cons_zero, List.set_cons_succ]
          refine Hd.tk 13 ?_
          try simp only [Act.put, List.setIfInBounds_toArray, List.set_cons_zero, List.set_cons_succ]
          refine Hd.tk 14 ?_
          try simp only [Act.put, List.setIfInBounds_toArray, List.set_cons_zero, List.set_cons_succ]
          refine wpAnyH_ready (rs := [15]) (by kernel_rfl) (by simp) (AllReadyH.cons (by simp only [List.getElem?_toArray, List.getElem?_cons_succ, List.getElem?_cons_zero]; rfl) (fun K hK => ?_) AllReadyH.nil)
          go_simp
          go_at_call 87
          refine (rfits_any pbody ba bc edge sadr stag ten ask at_ frm til ta tn tc qa qn qc ended tags parts _ (HPB.out.2.2.2.2.below (HBr.out.trans (hqw1.mono HBr.out.size))) (by have := HPB.out.2.2.2.1; have := HBD.out; omega) (HQ0.out.below (HBr.out.trans (hqw1.mono HBr.out.size))) HQL.out (fun x hx => ⟨(HQA.out x hx).1.older (HBr.out.trans (hqw1.mono HBr.out.size)), (HQA.out x hx).2⟩)).mono ?_
          rintro e wq2 ⟨rfl, hq2⟩
          have hqw2 : Below wr.heap.size wr wq2 := hqw1.trans (hq2.mono hqw1.size)
          rw [HFV.out]
          go_wp2_with fail
          refine hK.out _ _ (by exact ⟨keepH hqw2 c0, keepH hqw2 s0, keepH hqw2 s1, keepH hqw2 s2, keepH hqw2 s3, keepH hqw2 s4, keepH hqw2 s5, keepH hqw2 s6, keepH hqw2 s7, keepH hqw2 s8, keepH hqw2 s9, keepH hqw2 s10, keepH hqw2 d0, keepH hqw2 d1, keepH hqw2 d2, keepH hqw2 d3, keepH hqw2 d4⟩) (fun hHe2 => ?_)
          clear hK K
          try simp only [Act.put, List.setIfInBounds_toArray, List.set_cons_zero, List.set_cons_succ]
          refine Hd.tk 16 ?_
          try simp only [Act.put, List.setIfInBounds_toArray, List.set_cons_zero, List.set_cons_succ]
          refine wpAnyH_done (by kernel_rfl) ?_ _
          have HF := Lib.hid (show kb = true by rw [HE.out, HDR.out]; unfold isV; simp [hv])
          go_wp2_with fail
          go_ret
          exact ⟨by rw [HF.out]; rfl, HBr.out.trans (hqw2.mono HBr.out.size)⟩
        | false =>
          go_upto_region 4 with fail
          refine wp_region_held_drew (S := (fun w' => w'.cell? ⟨b0, 0, none⟩ = some (.slice (some ⟨bp, op, none⟩) n pc) ∧ w'.cell? ⟨b0 + 1, 0, none⟩ = some (.string ⟨edge.toArray⟩) ∧ w'.cell? ⟨b0 + 1, 1, none⟩ = some (.string ⟨sadr.toArray⟩) ∧ w'.cell? ⟨b0 + 1, 2, none⟩ = some (.string ⟨stag.toArray⟩) ∧ w'.cell? ⟨b0 + 1, 3, none⟩ = some (.int .i64 ten) ∧ w'.cell? ⟨b0 + 1, 4, none⟩ = some (.int .i64 ask) ∧ w'.cell? ⟨b0 + 1, 5, none⟩ = some (.int .i64 at_) ∧ w'.cell? ⟨b0 + 1, 6, none⟩ = some (.int .i64 frm) ∧ w'.cell? ⟨b0 + 1, 7, none⟩ = some (.int .i64 til) ∧ w'.cell? ⟨b0 + 1, 8, none⟩ = some (.slice ta tn tc) ∧ w'.cell? ⟨b0 + 1, 9, none⟩ = some (.slice qa qn qc) ∧ w'.cell? ⟨b0 + 1, 10, none⟩ = some (.bool ended) ∧ w'.cell? ⟨bp, op + k * 5, none⟩ = some (.int .i64 pat) ∧ w'.cell? ⟨bp, op + k * 5 + 1, none⟩ = some (.int .i64 plim) ∧ w'.cell? ⟨bp, op + k * 5 + 2, none⟩ = some (.string ⟨padr.toArray⟩) ∧ w'.cell? ⟨bp, op + k * 5 + 3, none⟩ = some (.string ⟨ptag.toArray⟩) ∧ w'.cell? ⟨bp, op + k * 5 + 4, none⟩ = some (.slice ba pbody.length bc))) (by kernel_rfl) (by exact ⟨c0, s0, s1, s2, s3, s4, s5, s6, s7, s8, s9, s10, d0, d1, d2, d3, d4⟩) (fun hHeld => ?_)
          refine Hd.tk 0 ?_
          try simp only [Act.put, List.setIfInBounds_toArray, List.set_cons_zero, List.set_cons_succ]
          refine Hd.tk 1 ?_
          try simp only [Act.put, List.setIfInBounds_toArray, List.set_cons_zero, List.set_cons_succ]
          refine Hd.tk 2 ?_
          try simp only [Act.put, List.setIfInBounds_toArray, List.set_cons_zero, List.set_cons_succ]
          refine Hd.tk 3 ?_
          try simp only [Act.put, List.setIfInBounds_toArray, List.set_cons_zero, List.set_cons_succ]
          refine Hd.tk 4 ?_
          try simp only [Act.put, List.setIfInBounds_toArray, List.set_cons_zero, List.set_cons_succ]
          refine Hd.tk 5 ?_
          try simp only [Act.put, List.setIfInBounds_toArray, List.set_cons_zero, List.set_cons_succ]
          refine wpAnyH_ready (rs := [6]) (by kernel_rfl) (by simp) (AllReadyH.cons (by simp only [List.getElem?_toArray, List.getElem?_cons_succ, List.getElem?_cons_zero]; rfl) (fun K hK => ?_) AllReadyH.nil)
          go_simp
          go_at_call 85
          refine (isv_any pat plim padr ptag ba pbody.length bc edge sadr stag ten ask at_ frm til ta tn tc qa qn qc ended _).mono ?_
          rintro e wq1 ⟨rfl, hq1⟩
          have hqw1 : Below wr.heap.size wr wq1 := ((Below.refl _ _).drew).trans hq1
          rw [hv]
          go_wp2_with fail
          refine hK.out _ _ (by exact ⟨keepH hqw1 c0, keepH hqw1 s0, keepH hqw1 s1, keepH hqw1 s2, keepH hqw1 s3, keepH hqw1 s4, keepH hqw1 s5, keepH hqw1 s6, keepH hqw1 s7, keepH hqw1 s8, keepH hqw1 s9, keepH hqw1 s10, keepH hqw1 d0, keepH hqw1 d1, keepH hqw1 d2, keepH hqw1 d3, keepH hqw1 d4⟩) (fun hHe1 => ?_)
          clear hK K
          try simp only [Act.put, List.setIfInBounds_toArray, List.set_cons_zero, List.set_cons_succ]
          refine Hd.tk 7 ?_
          try simp only [Act.put, List.setIfInBounds_toArray, List.set_cons_zero, List.set_cons_succ]
          refine Hd.tk 8 ?_
          try simp only [Act.put, List.setIfInBounds_toArray, List.set_cons_zero, List.set_cons_succ]
          refine Hd.tk 9 ?_
          try simp only [Act.put, List.setIfInBounds_toArray, List.set_cons_zero, List.set_cons_succ]
          refine Hd.tk 10 ?_
          try simp only [Act.put, List.setIfInBounds_toArray, List.set_cons_zero, List.set_cons_succ]
          refine Hd.tk 11 ?_
          try simp only [Act.put, List.setIfInBounds_toArray, List.set_cons_zero, List.set_cons_succ]
          refine Hd.tk 12 ?_
          try simp only [Act.put, List.setIfInBounds_toArray, List.set_cons_zero, List.set_cons_succ]
          refine Hd.tk 13 ?_
          try simp only [Act.put, List.setIfInBounds_toArray, List.set_cons_zero, List.set_cons_succ]
          refine Hd.tk 14 ?_
          try simp only [Act.put, List.setIfInBounds_toArray, List.set_cons_zero, List.set_cons_succ]
          refine wpAnyH_ready (rs := [15]) (by kernel_rfl) (by simp) (AllReadyH.cons (by simp only [List.getElem?_toArray, List.getElem?_cons_succ, List.getElem?_cons_zero]; rfl) (fun K hK => ?_) AllReadyH.nil)
          go_simp
          go_at_call 87
          refine (rfits_any pbody ba bc edge sadr stag ten ask at_ frm til ta tn tc qa qn qc ended tags parts _ (HPB.out.2.2.2.2.below (HBr.out.trans (hqw1.mono HBr.out.size))) (by have := HPB.out.2.2.2.1; have := HBD.out; omega) (HQ0.out.below (HBr.out.trans (hqw1.mono HBr.out.size))) HQL.out (fun x hx => ⟨(HQA.out x hx).1.older (HBr.out.trans (hqw1.mono HBr.out.size)), (HQA.out x hx).2⟩)).mono ?_
          rintro e wq2 ⟨rfl, hq2⟩
          have hqw2 : Below wr.heap.size wr wq2 := hqw1.trans (hq2.mono hqw1.size)
          rw [HFV.out]
          go_wp2_with fail
          refine hK.out _ _ (by exact ⟨keepH hqw2 c0, keepH hqw2 s0, keepH hqw2 s1, keepH hqw2 s2, keepH hqw2 s3, keepH hqw2 s4, keepH hqw2 s5, keepH hqw2 s6, keepH hqw2 s7, keepH hqw2 s8, keepH hqw2 s9, keepH hqw2 s10, keepH hqw2 d0, keepH hqw2 d1, keepH hqw2 d2, keepH hqw2 d3, keepH hqw2 d4⟩) (fun hHe2 => ?_)
          clear hK K
          try simp only [Act.put, List.setIfInBounds_toArray, List.set_cons_zero, List.set_cons_succ]
          refine Hd.tk 16 ?_
          try simp only [Act.put, List.setIfInBounds_toArray, List.set_cons_zero, List.set_cons_succ]
          refine wpAnyH_done (by kernel_rfl) ?_ _
          have HF := Lib.hid (show kb = anyF (fun _ p => isV p sadr stag && fitsB p.body ⟨edge, sadr, stag, ten, ask, at_, frm, til, .slice ta tn tc, tags, .slice qa qn qc, parts, ended⟩) (ps.drop (k + 1)) (k + 1) by rw [HE.out, HDR.out]; unfold isV; simp [hv])
          go_wp2_with fail
          go_roundg (gk - 1)
          case rel => exact ⟨k + 1, by go_num, by have := HLT.out; omega, Lib.hid (by have := HQ.out; omega), HF, Lib.hid (HB.out.trans (hqw2.mono HB.out.size))⟩
          case measure => have := HQ.out; have := HLT.out; omega
    · have HF := Lib.hid (show kb = false by rw [HE.out, anyF_end (by rw [HN.out]; omega)])
      obtain rfl : n = k := by omega
      go_wp2_with fail
      go_ret
      exact ⟨by rw [HF.out]; rfl, HB0.out.trans (HB.out.mono HB0.out.size)⟩
end Hy
end Go.Proofs.YtjijijjkkhpjnaaGreatDoor
end

