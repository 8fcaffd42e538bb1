/- Contracts and plain facts that the statement's proof leans on (texts joined). No condition beyond those that each names. -/
import Derived.Test.YtjijijjkkhpjnaaGreatDoorQgH
import Derived.Test.YtjijijjkkhpjnaaGreatDoorQgN
section
namespace Go.Proofs.YtjijijjkkhpjnaaGreatDoor
open Go.RowKit Pl Ad
attribute [local go_sem] ba_get ba_append ba_extract conv_one
set_option maxRecDepth 100000
set_option maxHeartbeats 4000000
set_option linter.unusedVariables false
set_option linter.unusedSimpArgs false
namespace Hy
open A1 Kr
theorem time_in (t : Int) (h : inB t) (w : World) : Calls Tryz.prog 84 #[.int .i64 t] w fun e w' => e = .returned (.int .i64 t) ∧ w = w' := by
  have := rclip_any t w; rwa [clipN_in h] at this
theorem ended_any (ps : List PubM) (va vb vc vd ve : Value) (bound fin : Int) (B : Nat) (i : Nat) (w : World) (hp : RowsV pubR 5 w va ps) (hn : ps.length ≤ 1000) (hpa : ∀ p ∈ ps, PubAt w B p) (hin : ∀ p ∈ ps, inB p.at_) (hi : i < ps.length) :
    Calls Tryz.prog 86 #[.agg #[va, vb, vc, vd, ve, .int .i64 bound, .int .i64 fin], .int .i64 (i : Int)] w fun e w' => e = .returned (.int .i64 (endN ps i)) ∧ Below w.heap.size w w' := by
  obtain ⟨pa, pc, rfl, hpc⟩ := hp.form
  obtain ⟨n, hnn⟩ : ∃ z, ps.length = z := ⟨_, rfl⟩
  have HN := Lib.hid hnn
  have HP := Lib.hid hp
  have HPA := Lib.hid hpa
  have HIN := Lib.hid hin
  rw [hnn] at HP hn hpc ⊢
  obtain ⟨q, hqi⟩ : ∃ q, ps[i]? = some q := ⟨_, List.getElem?_eq_getElem (by omega)⟩
  have HQI := Lib.hid hqi
  have HE0 := Lib.hid (endN_at hqi)
  have hqp := hpa q (List.mem_of_getElem? hqi)
  obtain ⟨bq, oq, eq5, _, hbl, hrow⟩ := row_at HP.out hqi
  cases eq5
  have r2 := hrow 2 _ rfl
  have HR2 := Lib.hid r2
  obtain ⟨a, ha⟩ : ∃ z, q.addr = z := ⟨_, rfl⟩
  rw [ha] at HR2 HE0
  have hi' : i < n := by rw [← hnn]; exact hi
  clear hp hpa hin hrow r2 hqi hqp ha hnn hi
  obtain ⟨ev, hev⟩ : ∃ z, endN ps i = z := ⟨_, rfl⟩
  rw [hev] at HE0
  rw [hev]
  clear hev
  have y1 : IntKind.i64.wrap ((i : Int) + 1) = (i : Int) + 1 := IntWalk.i64_in _ (by omega)
  go_enter Tryz.func86, Tryz.ntmps86
  go_upto_region 1 with fail
  have HX0 := Lib.hid (Bx.new w 69 #[.slice (some ⟨bq, oq, none⟩) n pc, vb, vc, vd, ve, .int .i64 bound, .int .i64 fin])
  have HB0 := Lib.hid ((Below.refl w.heap.size w).alloc (Nat.le_refl _) (.cells #[.slice (some ⟨bq, oq, none⟩) n pc, vb, vc, vd, ve, .int .i64 bound, .int .i64 fin] 69))
  obtain ⟨w1, hw1⟩ : ∃ z, w.alloc (.cells #[.slice (some ⟨bq, oq, none⟩) n pc, vb, vc, vd, ve, .int .i64 bound, .int .i64 fin] 69) = z := ⟨_, rfl⟩
  obtain ⟨b0, hb0⟩ : ∃ z, w.heap.size = z := ⟨_, rfl⟩
  rw [hw1] at HX0 HB0 ⊢
  rw [hb0] at HX0 ⊢
  clear hw1 hb0
  go_wp2_with fail
  go_loopg [5] n (fun gq iv wr => ∃ k : Nat, iv = .int .i64 k ∧ i + 1 ≤ k ∧ k ≤ n ∧ Hid (n ≤ gq + k) ∧ Hid (ev = endK ps a k) ∧ Hid (Below w1.heap.size w1 wr))
  case atStart => exact ⟨i + 1, by go_num, Nat.le_refl _, by omega, Lib.hid (by omega), HE0, Lib.hid (Below.refl _ _)⟩
  case round =>
    obtain ⟨k, rfl, hik, hk, HQ, HE, HB⟩ := hrel
    have c0 := (HX0.out.older HB.out).cell (i := 0) rfl
    by_cases hlt : k < n
    · have HLT := Lib.hid hlt
      skip
      obtain ⟨p, hpk⟩ : ∃ p, ps[k]? = some p := ⟨_, List.getElem?_eq_getElem (by rw [HN.out]; exact hlt)⟩
      have HPK := Lib.hid hpk
      have hpp := HPA.out p (List.mem_of_getElem? hpk)
      have HPI := Lib.hid (HIN.out p (List.mem_of_getElem? hpk))
      obtain ⟨bp, op, e5, _, hbl, hrow⟩ := row_at (HP.out.below (HB0.out.trans (HB.out.mono HB0.out.size))) hpk
      obtain ⟨rfl, rfl⟩ : bq = bp ∧ oq = op := by cases e5; exact ⟨rfl, rfl⟩
      obtain ⟨pat, plim, padr, ptag, pbv, pbody⟩ := p
      obtain ⟨_, _, hsrc, _⟩ := hpp
      obtain ⟨ba, bc, hbv⟩ := Sg.src_form hsrc
      simp only at hbv
      subst hbv
      have d0 := hrow 0 _ rfl
      have d1 := hrow 1 _ rfl
      have d2 := hrow 2 _ rfl
      have d3 := hrow 3 _ rfl
      have d4 := hrow 4 _ rfl
      rw [Nat.add_zero] at d0
      clear hrow hsrc hpk
      have q1 : (k : Int) < (n : Int) := by omega
      have q2 : (0 : Int) ≤ (k : Int) := by omega
      have q3 : IntKind.i64.wrap ((k : Int) + 1) = (k : Int) + 1 := IntWalk.i64_in _ (by omega)
      have q4 : (i : Int) < (n : Int) := by omega
      have q5 : (0 : Int) ≤ (i : Int) := by omega
      have d9 := keepH (HB0.out.trans (HB.out.mono HB0.out.size)) HR2.out
      have HCP := Lib.hid (fun w => time_in pat HPI.out w)
      cases ha : (padr == a) with
      | true =>
        have HF := Lib.hid (show ev = pat by rw [HE.out, endK_hit HPK.out (by simpa using ha)])
        skip
        go_upto_region 4 with fail
        refine wp_region_held_drew (S := (fun w' => w'.cell? ⟨b0, 0, none⟩ = some (.slice (some ⟨bq, oq, none⟩) n pc) ∧ w'.cell? ⟨bq, oq + k * 5 + 2, none⟩ = some (.string ⟨padr.toArray⟩) ∧ w'.cell? ⟨bq, oq + i * 5 + 2, none⟩ = some (.string ⟨a.toArray⟩))) (by kernel_rfl) (by exact ⟨c0, d2, d9⟩) (fun hHeld => ?_)
        refine Hd.tk 0 ?_
        try simp only [Act.put, List.setIfInBounds_toArray, List.set_cons_zero, List.set_cons_succ]
        refine Hd.tk 1 ?_
        try simp only [Act.put, List.setIfInBounds_toArray, List.set_cons_zero, List.set_cons_succ]
        refine Hd.tk 2 ?_
        try simp only [Act.put, List.setIfInBounds_toArray, List.set_cons_zero, List.set_cons_succ]
        refine Hd.tk 3 ?_
        try simp only [Act.put, List.setIfInBounds_toArray, List.set_cons_zero, List.set_cons_succ]
        refine Hd.tk 4 ?_
        try simp only [Act.put, List.setIfInBounds_toArray, List.set_cons_zero, List.set_cons_succ]
        refine Hd.tk 5 ?_
        try simp only [Act.put, List.setIfInBounds_toArray, List.set_cons_zero, List.set_cons_succ]
        refine Hd.tk 6 ?_
        try simp only [Act.put, List.setIfInBounds_toArray, List.set_cons_zero, List.set_cons_succ]
        refine Hd.tk 7 ?_
        try simp only [Act.put, List.setIfInBounds_toArray, List.set_cons_zero, List.set_cons_succ]
        refine Hd.tk 8 ?_
        try simp only [Act.put, List.setIfInBounds_toArray, List.set_cons_zero, List.set_cons_succ]
        refine Hd.tk 9 ?_
        try simp only [Act.put, List.setIfInBounds_toArray, List.set_cons_zero, List.set_cons_succ]
        refine Hd.tk 10 ?_
        try simp only [Act.put, List.setIfInBounds_toArray, List.set_cons_zero, List.set_cons_succ]
        refine Hd.tk 11 ?_
        try simp only [Act.put, List.setIfInBounds_toArray, List.set_cons_zero, List.set_cons_succ]
        refine Hd.tk 12 ?_
        try simp only [Act.put, List.setIfInBounds_toArray, List.set_cons_zero, List.set_cons_succ]
        refine wpAnyH_done (by kernel_rfl) ?_ _
        go_wp2_with (go_at_call 84; refine (HCP.out _).mono ?_; rintro e w9 ⟨rfl, rfl⟩)
        go_ret
        exact ⟨by rw [HF.out]; rfl, (HB0.out.trans (HB.out.mono HB0.out.size)).drew⟩
      | false =>
        have HF := Lib.hid (show ev = endK ps a (k + 1) by rw [HE.out, endK_miss HPK.out (by simpa using ha)])
        go_upto_region 4 with fail
        refine wp_region_held_drew (S := (fun w' => w'.cell? ⟨b0, 0, none⟩ = some (.slice (some ⟨bq, oq, none⟩) n pc) ∧ w'.cell? ⟨bq, oq + k * 5 + 2, none⟩ = some (.string ⟨padr.toArray⟩) ∧ w'.cell? ⟨bq, oq + i * 5 + 2, none⟩ = some (.string ⟨a.toArray⟩))) (by kernel_rfl) (by exact ⟨c0, d2, d9⟩) (fun hHeld => ?_)
        refine Hd.tk 0 ?_
        try simp only [Act.put, List.setIfInBounds_toArray, List.set_cons_zero, List.set_cons_succ]
        refine Hd.tk 1 ?_
        try simp only [Act.put, List.setIfInBounds_toArray, List.set_cons_zero, List.set_cons_succ]
        refine Hd.tk 2 ?_
        try simp only [Act.put, List.setIfInBounds_toArray, List.set_cons_zero, List.set_cons_succ]
        refine Hd.tk 3 ?_
        try simp only [Act.put, List.setIfInBounds_toArray, List.set_cons_zero, List.set_cons_succ]
        refine Hd.tk 4 ?_
        try simp only [Act.put, List.setIfInBounds_toArray, List.set_cons_zero, List.set_cons_succ]
        refine Hd.tk 5 ?_
        try simp only [Act.put, List.setIfInBounds_toArray, List.set_cons_zero, List.set_cons_succ]
        refine Hd.tk 6 ?_
        try simp only [Act.put, List.setIfInBounds_toArray, List.set_cons_zero, List.set_cons_succ]
        refine Hd.tk 7 ?_
        try simp only [Act.put, List.setIfInBounds_toArray, List.set_cons_zero, List.set_cons_succ]
        refine Hd.tk 8 ?_
        try simp only [Act.put, List.setIfInBounds_toArray, List.set_cons_zero, List.set_cons_succ]
        refine Hd.tk 9 ?_
        try simp only [Act.put, List.setIfInBounds_toArray, List.set_cons_zero, List.set_cons_succ]
        refine Hd.tk 10 ?_
        try simp only [Act.put, List.setIfInBounds_toArray, List.set_cons_zero, List.set_cons_succ]
        refine Hd.tk 11 ?_
        try simp only [Act.put, List.setIfInBounds_toArray, List.set_cons_zero, List.set_cons_succ]
        refine Hd.tk 12 ?_
        try simp only [Act.put, List.setIfInBounds_toArray, List.set_cons_zero, List.set_cons_succ]
        refine wpAnyH_done (by kernel_rfl) ?_ _
        go_wp2_with fail
        go_roundg (gk - 1)
        case rel => exact ⟨k + 1, by go_num, by omega, by have := HLT.out; omega, Lib.hid (by have := HQ.out; omega), HF, Lib.hid HB.out.drew⟩
        case measure => have := HQ.out; have := HLT.out; omega
    · have HF := Lib.hid (show ev = 2305843009213693953 by rw [HE.out, endK_end (by rw [HN.out]; omega)])
      obtain rfl : n = k := by omega
      go_wp2_with fail
      go_ret
      exact ⟨by rw [HF.out]; rfl, HB0.out.trans (HB.out.mono HB0.out.size)⟩
theorem rknown_any (ps : List PubM) (va vb vc vd ve : Value) (bound fin : Int) (B : Nat) (edge sadr stag : Bs) (ten ask at_ frm til : Int) (ta : Option Addr) (tn tc : Nat) (qa : Option Addr) (qn qc : Nat) (ended : Bool) (w : World) (hp : RowsV pubR 5 w va ps) (hn : ps.length ≤ 1000) (hpa : ∀ p ∈ ps, PubAt w B p) (hin : ∀ p ∈ ps, inB p.at_) :
    Calls Tryz.prog 82 #[.agg #[va, vb, vc, vd, ve, .int .i64 bound, .int .i64 fin], .agg #[.string ⟨edge.toArray⟩, .string ⟨sadr.toArray⟩, .string ⟨stag.toArray⟩, .int .i64 ten, .int .i64 ask, .int .i64 at_, .int .i64 frm, .int .i64 til, .slice ta tn tc, .slice qa qn qc, .bool ended]] w fun e w' => e = .returned (.bool (anyF (fun _ p => isV p sadr stag) ps 0)) ∧ Below w.heap.size w w' := by
  obtain ⟨pa, pc, rfl, hpc⟩ := hp.form
  obtain ⟨n, hnn⟩ : ∃ z, ps.length = z := ⟨_, rfl⟩
  have HN := Lib.hid hnn
  have HP := Lib.hid hp
  have HPA := Lib.hid hpa
  have HIN := Lib.hid hin
  rw [hnn] at HP hn hpc ⊢
  clear hp hpa hin hnn
  obtain ⟨kb, hkb⟩ : ∃ z, anyF (fun _ p => isV p sadr stag) ps 0 = z := ⟨_, rfl⟩
  have HK0 := Lib.hid (show kb = anyF (fun _ p => isV p sadr stag) (ps.drop 0) 0 from hkb.symm)
  rw [hkb]
  clear hkb
  go_enter Tryz.func82, Tryz.ntmps82
  go_upto_region 1 with fail
  have HX0 := Lib.hid (bx_allocH (Bx.new w 69 #[.slice pa n pc, vb, vc, vd, ve, .int .i64 bound, .int .i64 fin]) (.cells #[.string ⟨edge.toArray⟩, .string ⟨sadr.toArray⟩, .string ⟨stag.toArray⟩, .int .i64 ten, .int .i64 ask, .int .i64 at_, .int .i64 frm, .int .i64 til, .slice ta tn tc, .slice qa qn qc, .bool ended] 82))
  have HS0 := Lib.hid (bx_newH (w := w.alloc (.cells #[.slice pa n pc, vb, vc, vd, ve, .int .i64 bound, .int .i64 fin] 69)) (n := w.heap.size + 1) (T := 82) (cs := #[.string ⟨edge.toArray⟩, .string ⟨sadr.toArray⟩, .string ⟨stag.toArray⟩, .int .i64 ten, .int .i64 ask, .int .i64 at_, .int .i64 frm, .int .i64 til, .slice ta tn tc, .slice qa qn qc, .bool ended]) (by simp))
  have HB0 := Lib.hid (((Below.refl w.heap.size w).alloc (Nat.le_refl _) (.cells #[.slice pa n pc, vb, vc, vd, ve, .int .i64 bound, .int .i64 fin] 69)).alloc (by simp) (.cells #[.string ⟨edge.toArray⟩, .string ⟨sadr.toArray⟩, .string ⟨stag.toArray⟩, .int .i64 ten, .int .i64 ask, .int .i64 at_, .int .i64 frm, .int .i64 til, .slice ta tn tc, .slice qa qn qc, .bool ended] 82))
  obtain ⟨w1, hw1⟩ : ∃ z, (w.alloc (.cells #[.slice pa n pc, vb, vc, vd, ve, .int .i64 bound, .int .i64 fin] 69)).alloc (.cells #[.string ⟨edge.toArray⟩, .string ⟨sadr.toArray⟩, .string ⟨stag.toArray⟩, .int .i64 ten, .int .i64 ask, .int .i64 at_, .int .i64 frm, .int .i64 til, .slice ta tn tc, .slice qa qn qc, .bool ended] 82) = z := ⟨_, rfl⟩
  obtain ⟨b0, hb0⟩ : ∃ z, w.heap.size = z := ⟨_, rfl⟩
  rw [hw1] at HX0 HS0 HB0 ⊢
  rw [hb0] at HX0 HS0 ⊢
  clear hw1 hb0
  have c0 := HX0.out.cell (i := 0) rfl
  go_wp2_with fail
  go_loopg [9] n (fun gq iv wr => ∃ k : Nat, iv = .int .i64 k ∧ k ≤ n ∧ Hid (n ≤ gq + k) ∧ Hid (kb = anyF (fun _ p => isV p sadr stag) (ps.drop k) k) ∧ Hid (Below w1.heap.size w1 wr))
  case atStart => exact ⟨0, rfl, Nat.zero_le _, Lib.hid (by omega), HK0, Lib.hid (Below.refl _ _)⟩
  case round =>
    obtain ⟨k, rfl, hk, HQ, HE, HB⟩ := hrel
    by_cases hlt : k < n
    · have HLT := Lib.hid hlt
      obtain ⟨p, hpk⟩ : ∃ p, ps[k]? = some p := ⟨_, List.getElem?_eq_getElem (by rw [HN.out]; exact hlt)⟩
      have HPK := Lib.hid hpk
      have hpp := HPA.out p (List.mem_of_getElem? hpk)
      have HPI := Lib.hid (HIN.out p (List.mem_of_getElem? hpk))
      obtain ⟨bp, op, e5, _, hbl, hrow⟩ := row_at (HP.out.below (HB0.out.trans (HB.out.mono HB0.out.size))) hpk
      cases e5
      obtain ⟨pat, plim, padr, ptag, pbv, pbody⟩ := p
      obtain ⟨_, _, hsrc, _⟩ := hpp
      obtain ⟨ba, bc, hbv⟩ := Sg.src_form hsrc
      simp only at hbv
      subst hbv
      have d0 := hrow 0 _ rfl
      have d1 := hrow 1 _ rfl
      have d2 := hrow 2 _ rfl
      have d3 := hrow 3 _ rfl
      have d4 := hrow 4 _ rfl
      rw [Nat.add_zero] at d0
      clear hrow hsrc hpk
      have q1 : (k : Int) < (n : Int) := by omega
      have q2 : (0 : Int) ≤ (k : Int) := by omega
      have q3 : IntKind.i64.wrap ((k : Int) + 1) = (k : Int) + 1 := IntWalk.i64_in _ (by omega)
      have HDR := Lib.hid (anyF_drop (c := fun _ p => isV p sadr stag) HPK.out)
      have HBr := Lib.hid (HB0.out.trans (HB.out.mono HB0.out.size))
      have c0 := (HX0.out.older HB.out).cell (i := 0) rfl
      have c1 := (HX0.out.older HB.out).cell (i := 1) rfl
      have c2 := (HX0.out.older HB.out).cell (i := 2) rfl
      have c3 := (HX0.out.older HB.out).cell (i := 3) rfl
      have c4 := (HX0.out.older HB.out).cell (i := 4) rfl
      have c5 := (HX0.out.older HB.out).cell (i := 5) rfl
      have c6 := (HX0.out.older HB.out).cell (i := 6) rfl
      have s0 := (HS0.out.older HB.out).cell (i := 0) rfl
      have s1 := (HS0.out.older HB.out).cell (i := 1) rfl
      have s2 := (HS0.out.older HB.out).cell (i := 2) rfl
      have s3 := (HS0.out.older HB.out).cell (i := 3) rfl
      have s4 := (HS0.out.older HB.out).cell (i := 4) rfl
      have s5 := (HS0.out.older HB.out).cell (i := 5) rfl
      have s6 := (HS0.out.older HB.out).cell (i := 6) rfl
      have s7 := (HS0.out.older HB.out).cell (i := 7) rfl
      have s8 := (HS0.out.older HB.out).cell (i := 8) rfl
      have s9 := (HS0.out.older HB.out).cell (i := 9) rfl
      have s10 := (HS0.out.older HB.out).cell (i := 10) rfl
      skip
      cases hv : (padr == sadr && ptag == stag) with
      | true =>
        go_upto_region 4 with fail
        refine wp_region_held_drew (S := (fun w' => w'.cell? ⟨b0, 0, none⟩ = some (.slice (some ⟨bp, op, none⟩) n pc) ∧ w'.cell? ⟨b0 + 1, 0, none⟩ = some (.string ⟨edge.toArray⟩) ∧ w'.cell? ⟨b0 + 1, 1, none⟩ = some (.string ⟨sadr.toArray⟩) ∧ w'.cell? ⟨b0 + 1, 2, none⟩ = some (.string ⟨stag.toArray⟩) ∧ w'.cell? ⟨b0 + 1, 3, none⟩ = some (.int .i64 ten) ∧ w'.cell? ⟨b0 + 1, 4, none⟩ = some (.int .i64 ask) ∧ w'.cell? ⟨b0 + 1, 5, none⟩ = some (.int .i64 at_) ∧ w'.cell? ⟨b0 + 1, 6, none⟩ = some (.int .i64 frm) ∧ w'.cell? ⟨b0 + 1, 7, none⟩ = some (.int .i64 til) ∧ w'.cell? ⟨b0 + 1, 8, none⟩ = some (.slice ta tn tc) ∧ w'.cell? ⟨b0 + 1, 9, none⟩ = some (.slice qa qn qc) ∧ w'.cell? ⟨b0 + 1, 10, none⟩ = some (.bool ended) ∧ w'.cell? ⟨bp, op + k * 5, none⟩ = some (.int .i64 pat) ∧ w'.cell? ⟨bp, op + k * 5 + 1, none⟩ = some (.int .i64 plim) ∧ w'.cell? ⟨bp, op + k * 5 + 2, none⟩ = some (.string ⟨padr.toArray⟩) ∧ w'.cell? ⟨bp, op + k * 5 + 3, none⟩ = some (.string ⟨ptag.toArray⟩) ∧ w'.cell? ⟨bp, op + k * 5 + 4, none⟩ = some (.slice ba pbody.length bc))) (by kernel_rfl) (by exact ⟨c0, s0, s1, s2, s3, s4, s5, s6, s7, s8, s9, s10, d0, d1, d2, d3, d4⟩) (fun hHeld => ?_)
        refine Hd.tk 0 ?_
        try simp only [Act.put, List.setIfInBounds_toArray, List.set_cons_zero, List.set_cons_succ]
        refine Hd.tk 1 ?_
        try simp only [Act.put, List.setIfInBounds_toArray, List.set_cons_zero, List.set_cons_succ]
        refine Hd.tk 2 ?_
        try simp only [Act.put, List.setIfInBounds_toArray, List.set_cons_zero, List.set_cons_succ]
        refine Hd.tk 3 ?_
        try simp only [Act.put, List.setIfInBounds_toArray, List.set_cons_zero, List.set_cons_succ]
        refine Hd.tk 4 ?_
        try simp only [Act.put, List.setIfInBounds_toArray, List.set_cons_zero, List.set_cons_succ]
        refine Hd.tk 5 ?_
        try simp only [Act.put, List.setIfInBounds_toArray, List.set_cons_zero, List.set_cons_succ]
        refine wpAnyH_ready (rs := [6]) (by kernel_rfl) (by simp) (AllReadyH.cons (by simp only [List.getElem?_toArray, List.getElem?_cons_succ, List.getElem?_cons_zero]; rfl) (fun K hK => ?_) AllReadyH.nil)
        go_simp
        go_at_call 85
        refine (isv_any pat plim padr ptag ba pbody.length bc edge sadr stag ten ask at_ frm til ta tn tc qa qn qc ended _).mono ?_
        rintro e wq1 ⟨rfl, hq1⟩
        have hqw1 : Below wr.heap.size wr wq1 := ((Below.refl _ _).drew).trans hq1
        rw [hv]
        go_wp2_with fail
        refine hK.out _ _ (by exact ⟨keepH hqw1 c0, keepH hqw1 s0, keepH hqw1 s1, keepH hqw1 s2, keepH hqw1 s3, keepH hqw1 s4, keepH hqw1 s5, keepH hqw1 s6, keepH hqw1 s7, keepH hqw1 s8, keepH hqw1 s9, keepH hqw1 s10, keepH hqw1 d0, keepH hqw1 d1, keepH hqw1 d2, keepH hqw1 d3, keepH hqw1 d4⟩) (fun hHe1 => ?_)
        clear hK K
        try simp only [Act.put, List.setIfInBounds_toArray, List.set_cons_zero, List.set_cons_succ]
        refine wpAnyH_done (by kernel_rfl) ?_ _
        have HF := Lib.hid (show kb = true by rw [HE.out, HDR.out]; unfold isV; simp [hv])
        go_wp2_with fail
        go_ret
        exact ⟨by rw [HF.out]; rfl, HBr.out.trans (hqw1.mono HBr.out.size)⟩
      | false =>
        go_upto_region 4 with fail
        refine wp_region_held_drew (S := (fun w' => w'.cell? ⟨b0, 0, none⟩ = some (.slice (some ⟨bp, op, none⟩) n pc) ∧ w'.cell? ⟨b0 + 1, 0, none⟩ = some (.string ⟨edge.toArray⟩) ∧ w'.cell? ⟨b0 + 1, 1, none⟩ = some (.string ⟨sadr.toArray⟩) ∧ w'.cell? ⟨b0 + 1, 2, none⟩ = some (.string ⟨stag.toArray⟩) ∧ w'.cell? ⟨b0 + 1, 3, none⟩ = some (.int .i64 ten) ∧ w'.cell? ⟨b0 + 1, 4, none⟩ = some (.int .i64 ask) ∧ w'.cell? ⟨b0 + 1, 5, none⟩ = some (.int .i64 at_) ∧ w'.cell? ⟨b0 + 1, 6, none⟩ = some (.int .i64 frm) ∧ w'.cell? ⟨b0 + 1, 7, none⟩ = some (.int .i64 til) ∧ w'.cell? ⟨b0 + 1, 8, none⟩ = some (.slice ta tn tc) ∧ w'.cell? ⟨b0 + 1, 9, none⟩ = some (.slice qa qn qc) ∧ w'.cell? ⟨b0 + 1, 10, none⟩ = some (.bool ended) ∧ w'.cell? ⟨bp, op + k * 5, none⟩ = some (.int .i64 pat) ∧ w'.cell? ⟨bp, op + k * 5 + 1, none⟩ = some (.int .i64 plim) ∧ w'.cell? ⟨bp, op + k * 5 + 2, none⟩ = some (.string ⟨padr.toArray⟩) ∧ w'.cell? ⟨bp, op + k * 5 + 3, none⟩ = some (.string ⟨ptag.toArray⟩) ∧ w'.cell? ⟨bp, op + k * 5 + 4, none⟩ = some (.slice ba pbody.length bc))) (by kernel_rfl) (by exact ⟨c0, s0, s1, s2, s3, s4, s5, s6, s7, s8, s9, s10, d0, d1, d2, d3, d4⟩) (fun hHeld => ?_)
        refine Hd.tk 0 ?_
        try simp only [Act.put, List.setIfInBounds_toArray, List.set_cons_zero, List.set_cons_succ]
        refine Hd.tk 1 ?_
        try simp only [Act.put, List.setIfInBounds_toArray, List.set_cons_zero, List.set_cons_succ]
        refine Hd.tk 2 ?_
        try simp only [Act.put, List.setIfInBounds_toArray, List.set_cons_zero, List.set_cons_succ]
        refine Hd.tk 3 ?_
        try simp only [Act.put, List.setIfInBounds_toArray, List.set_cons_zero, List.set_cons_succ]
        refine Hd.tk 4 ?_
        try simp only [Act.put, List.setIfInBounds_toArray, List.set_cons_zero, List.set_cons_succ]
        refine Hd.tk 5 ?_
        try simp only [Act.put, List.setIfInBounds_toArray, List.set_cons_zero, List.set_cons_succ]
        refine wpAnyH_ready (rs := [6]) (by kernel_rfl) (by simp) (AllReadyH.cons (by simp only [List.getElem?_toArray, List.getElem?_cons_succ, List.getElem?_cons_zero]; rfl) (fun K hK => ?_) AllReadyH.nil)
        go_simp
        go_at_call 85
        refine (isv_any pat plim padr ptag ba pbody.length bc edge sadr stag ten ask at_ frm til ta tn tc qa qn qc ended _).mono ?_
        rintro e wq1 ⟨rfl, hq1⟩
        have hqw1 : Below wr.heap.size wr wq1 := ((Below.refl _ _).drew).trans hq1
        rw [hv]
        go_wp2_with fail
        refine hK.out _ _ (by exact ⟨keepH hqw1 c0, keepH hqw1 s0, keepH hqw1 s1, keepH hqw1 s2, keepH hqw1 s3, keepH hqw1 s4, keepH hqw1 s5, keepH hqw1 s6, keepH hqw1 s7, keepH hqw1 s8, keepH hqw1 s9, keepH hqw1 s10, keepH hqw1 d0, keepH hqw1 d1, keepH hqw1 d2, keepH hqw1 d3, keepH hqw1 d4⟩) (fun hHe1 => ?_)
        clear hK K
        try simp only [Act.put, List.setIfInBounds_toArray, List.set_cons_zero, List.set_cons_succ]
        refine wpAnyH_done (by kernel_rfl) ?_ _
        have HF := Lib.hid (show kb = anyF (fun _ p => isV p sadr stag) (ps.drop (k + 1)) (k + 1) by rw [HE.out, HDR.out]; unfold isV; simp [hv])
        go_wp2_with fail
        go_roundg (gk - 1)
        case rel => exact ⟨k + 1, by go_num, by have := HLT.out; omega, Lib.hid (by have := HQ.out; omega), HF, Lib.hid (HB.out.trans (hqw1.mono HB.out.size))⟩
        case measure => have := HQ.out; have := HLT.out; omega
    · have HF := Lib.hid (show kb = false by rw [HE.out, anyF_end (by rw [HN.out]; omega)])
      obtain rfl : n = k := by omega
      go_wp2_with fail
      go_ret
      exact ⟨by rw [HF.out]; rfl, HB0.out.trans (HB.out.mono HB0.out.size)⟩
theorem rlate_any (va vb vc vd ve : Value) (bound fin : Int) (tx : Bs) (ord stl : Int) (w : World) (h1 : inB bound) (h2 : inB fin) (h3 : inB ord) (h4 : inB stl) :
    Calls Tryz.prog 62 #[.agg #[va, vb, vc, vd, ve, .int .i64 bound, .int .i64 fin], .agg #[.string ⟨tx.toArray⟩, .int .i64 ord, .int .i64 stl]] w fun e w' => e = .returned (.bool (decide ((if stl < 0 then fin else stl) > ord + bound))) ∧ Below w.heap.size w w' := by
  have HC1 := Lib.hid (fun w => time_in bound h1 w)
  have HC2 := Lib.hid (fun w => time_in fin h2 w)
  have HC3 := Lib.hid (fun w => time_in ord h3 w)
  have HC4 := Lib.hid (fun w => time_in stl h4 w)
  unfold inB at h1 h2 h3 h4
  obtain ⟨ls, hls⟩ : ∃ z, ord + bound = z := ⟨_, rfl⟩
  have y1 : IntKind.i64.wrap (ord + bound) = ls := by rw [IntWalk.i64_in _ (by omega)]; exact hls
  rw [hls]
  clear hls
  go_enter Tryz.func62, Tryz.ntmps62
  go_upto_region 1 with fail
  have HX0 := Lib.hid (bx_allocH (Bx.new w 69 #[va, vb, vc, vd, ve, .int .i64 bound, .int .i64 fin]) (.cells #[.string ⟨tx.toArray⟩, .int .i64 ord, .int .i64 stl] 97))
  have HS0 := Lib.hid (bx_newH (w := w.alloc (.cells #[va, vb, vc, vd, ve, .int .i64 bound, .int .i64 fin] 69)) (n := w.heap.size + 1) (T := 97) (cs := #[.string ⟨tx.toArray⟩, .int .i64 ord, .int .i64 stl]) (by simp))
  have HB0 := Lib.hid (((Below.refl w.heap.size w).alloc (Nat.le_refl _) (.cells #[va, vb, vc, vd, ve, .int .i64 bound, .int .i64 fin] 69)).alloc (by simp) (.cells #[.string ⟨tx.toArray⟩, .int .i64 ord, .int .i64 stl] 97))
  obtain ⟨w1, hw1⟩ : ∃ z, (w.alloc (.cells #[va, vb, vc, vd, ve, .int .i64 bound, .int .i64 fin] 69)).alloc (.cells #[.string ⟨tx.toArray⟩, .int .i64 ord, .int .i64 stl] 97) = z := ⟨_, rfl⟩
  obtain ⟨b0, hb0⟩ : ∃ z, w.heap.size = z := ⟨_, rfl⟩
  rw [hw1] at HX0 HS0 HB0 ⊢
  rw [hb0] at HX0 HS0 ⊢
  clear hw1 hb0
  have c5 := HX0.out.cell (i := 5) rfl
  have g1 := HS0.out.cell (i := 1) rfl
  have g2 := HS0.out.cell (i := 2) rfl
  have c6 := HX0.out.cell (i := 6) rfl
  refine wp_region_held_drew (S := (fun w' => w'.cell? ⟨b0, 5, none⟩ = some (.int .i64 bound) ∧ w'.cell? ⟨b0 + 1, 1, none⟩ = some (.int .i64 ord))) (by kernel_rfl) (by exact ⟨c5, g1⟩) (fun hHeld => ?_)
  refine Hd.tk 0 ?_
  try simp only [Act.put, List.setIfInBounds_toArray, List.set_cons_zero, List.set_cons_succ]
  refine Hd.tk 1 ?_
  try simp only [Act.put, List.setIfInBounds_toArray, List.set_cons_zero, List.set_cons_succ]
  refine Hd.tk 3 ?_
  try simp only [Act.put, List.setIfInBounds_toArray, List.set_cons_zero, List.set_cons_succ]
  refine Hd.tk 4 ?_
  try simp only [Act.put, List.setIfInBounds_toArray, List.set_cons_zero, List.set_cons_succ]
  refine wpAnyH_ready (rs := [2]) (by kernel_rfl) (by simp) (AllReadyH.cons (by simp only [List.getElem?_toArray, List.getElem?_cons_succ, List.getElem?_cons_zero]; rfl) (fun K hK => ?_) AllReadyH.nil)
  go_simp
  go_at_call 84
  refine (HC3.out _).mono ?_
  rintro e wq1 ⟨rfl, rfl⟩
  go_wp2_with fail
  refine hK.out _ _ (by exact ⟨c5, g1⟩) (fun hHe1 => ?_)
  clear hK K
  try simp only [Act.put, List.setIfInBounds_toArray, List.set_cons_zero, List.set_cons_succ]
  refine wpAnyH_ready (rs := [5]) (by kernel_rfl) (by simp) (AllReadyH.cons (by simp only [List.getElem?_toArray, List.getElem?_cons_succ, List.getElem?_cons_zero]; rfl) (fun K hK => ?_) AllReadyH.nil)
  go_simp
  go_at_call 84
  refine (HC1.out _).mono ?_
  rintro e wq2 ⟨rfl, rfl⟩
  go_wp2_with fail
  refine hK.out _ _ (by exact ⟨c5, g1⟩) (fun hHe2 => ?_)
  clear hK K
  try simp only [Act.put, List.setIfInBounds_toArray, List.set_cons_zero, List.set_cons_succ]
  refine Hd.tk 6 ?_
  try simp only [Act.put, List.setIfInBounds_toArray, List.set_cons_zero, List.set_cons_succ]
  refine Hd.tk 7 ?_
  try simp only [Act.put, List.setIfInBounds_toArray, List.set_cons_zero, List.set_cons_succ]
  refine wpAnyH_done (by kernel_rfl) ?_ _
  by_cases hs : stl < 0
  · have e1 : ¬ (0 : Int) ≤ stl := by omega
    have e2 : decide ((0 : Int) ≤ stl) = false := decide_eq_false e1
    by_cases hl : ls < fin
    · have hd : decide (ls < fin) = true := decide_eq_true hl
      go_wp2_with (go_at_call 84; refine (HC2.out _).mono ?_; rintro e w9 ⟨rfl, rfl⟩)
      go_ret
      exact ⟨rfl, HB0.out.drew⟩
    · have hd : decide (ls < fin) = false := decide_eq_false hl
      go_wp2_with (go_at_call 84; refine (HC2.out _).mono ?_; rintro e w9 ⟨rfl, rfl⟩)
      go_ret
      exact ⟨rfl, HB0.out.drew⟩
  · have e1 : (0 : Int) ≤ stl := by omega
    have e2 : decide ((0 : Int) ≤ stl) = true := decide_eq_true e1
    by_cases hl : ls < stl
    · have hd : decide (ls < stl) = true := decide_eq_true hl
      go_wp2_with (go_at_call 84; refine (HC4.out _).mono ?_; rintro e w9 ⟨rfl, rfl⟩)
      go_ret
      exact ⟨rfl, HB0.out.drew⟩
    · have hd : decide (ls < stl) = false := decide_eq_false hl
      go_wp2_with (go_at_call 84; refine (HC4.out _).mono ?_; rintro e w9 ⟨rfl, rfl⟩)
      go_ret
      exact ⟨rfl, HB0.out.drew⟩
theorem rsince_any (ps : List PubM) (va vb vc vd ve : Value) (bound fin : Int) (B : Nat) (edge sadr stag : Bs) (ten ask at_ frm til : Int) (ta : Option Addr) (tn tc : Nat) (qa : Option Addr) (qn qc : Nat) (ended : Bool) (f : Int) (hf : inB f) (w : World) (hp : RowsV pubR 5 w va ps) (hn : ps.length ≤ 1000) (hpa : ∀ p ∈ ps, PubAt w B p) (hin : ∀ p ∈ ps, inB p.at_) :
    Calls Tryz.prog 83 #[.agg #[va, vb, vc, vd, ve, .int .i64 bound, .int .i64 fin], .agg #[.string ⟨edge.toArray⟩, .string ⟨sadr.toArray⟩, .string ⟨stag.toArray⟩, .int .i64 ten, .int .i64 ask, .int .i64 at_, .int .i64 frm, .int .i64 til, .slice ta tn tc, .slice qa qn qc, .bool ended], .int .i64 f] w fun e w' => e = .returned (.bool (anyF (fun j p => isV p sadr stag && decide (max p.at_ f < endN ps j)) ps 0)) ∧ Below w.heap.size w w' := by
  obtain ⟨pa, pc, rfl, hpc⟩ := hp.form
  obtain ⟨n, hnn⟩ : ∃ z, ps.length = z := ⟨_, rfl⟩
  have HN := Lib.hid hnn
  have HP := Lib.hid hp
  have HPA := Lib.hid hpa
  have HIN := Lib.hid hin
  rw [hnn] at HP hn hpc ⊢
  clear hp hpa hin hnn
  have HFF := Lib.hid hf
  obtain ⟨kb, hkb⟩ : ∃ z, anyF (fun j p => isV p sadr stag && decide (max p.at_ f < endN ps j)) ps 0 = z := ⟨_, rfl⟩
  have HK0 := Lib.hid (show kb = anyF (fun j p => isV p sadr stag && decide (max p.at_ f < endN ps j)) (ps.drop 0) 0 from hkb.symm)
  rw [hkb]
  clear hkb
  go_enter Tryz.func83, Tryz.ntmps83
  go_upto_region 1 with fail
  have HX0 := Lib.hid (bx_allocH (Bx.new w 69 #[.slice pa n pc, vb, vc, vd, ve, .int .i64 bound, .int .i64 fin]) (.cells #[.string ⟨edge.toArray⟩, .string ⟨sadr.toArray⟩, .string ⟨stag.toArray⟩, .int .i64 ten, .int .i64 ask, .int .i64 at_, .int .i64 frm, .int .i64 til, .slice ta tn tc, .slice qa qn qc, .bool ended] 82))
  have HS0 := Lib.hid (bx_newH (w := w.alloc (.cells #[.slice pa n pc, vb, vc, vd, ve, .int .i64 bound, .int .i64 fin] 69)) (n := w.heap.size + 1) (T := 82) (cs := #[.string ⟨edge.toArray⟩, .string ⟨sadr.toArray⟩, .string ⟨stag.toArray⟩, .int .i64 ten, .int .i64 ask, .int .i64 at_, .int .i64 frm, .int .i64 til, .slice ta tn tc, .slice qa qn qc, .bool ended]) (by simp))
  have HB0 := Lib.hid (((Below.refl w.heap.size w).alloc (Nat.le_refl _) (.cells #[.slice pa n pc, vb, vc, vd, ve, .int .i64 bound, .int .i64 fin] 69)).alloc (by simp) (.cells #[.string ⟨edge.toArray⟩, .string ⟨sadr.toArray⟩, .string ⟨stag.toArray⟩, .int .i64 ten, .int .i64 ask, .int .i64 at_, .int .i64 frm, .int .i64 til, .slice ta tn tc, .slice qa qn qc, .bool ended] 82))
  obtain ⟨w1, hw1⟩ : ∃ z, (w.alloc (.cells #[.slice pa n pc, vb, vc, vd, ve, .int .i64 bound, .int .i64 fin] 69)).alloc (.cells #[.string ⟨edge.toArray⟩, .string ⟨sadr.toArray⟩, .string ⟨stag.toArray⟩, .int .i64 ten, .int .i64 ask, .int .i64 at_, .int .i64 frm, .int .i64 til, .slice ta tn tc, .slice qa qn qc, .bool ended] 82) = z := ⟨_, rfl⟩
  obtain ⟨b0, hb0⟩ : ∃ z, w.heap.size = z := ⟨_, rfl⟩
  rw [hw1] at HX0 HS0 HB0 ⊢
  rw [hb0] at HX0 HS0 ⊢
  clear hw1 hb0
  have c0 := HX0.out.cell (i := 0) rfl
  go_wp2_with fail
  go_loopg [11] n (fun gq iv wr => ∃ k : Nat, iv = .int .i64 k ∧ k ≤ n ∧ Hid (n ≤ gq + k) ∧ Hid (kb = anyF (fun j p => isV p sadr stag && decide (max p.at_ f < endN ps j)) (ps.drop k) k) ∧ Hid (Below w1.heap.size w1 wr))
  case atStart => exact ⟨0, rfl, Nat.zero_le _, Lib.hid (by omega), HK0, Lib.hid (Below.refl _ _)⟩
  case round =>
    obtain ⟨k, rfl, hk, HQ, HE, HB⟩ := hrel
    by_cases hlt : k < n
    · have HLT := Lib.hid hlt
      obtain ⟨p, hpk⟩ : ∃ p, ps[k]? = some p := ⟨_, List.getElem?_eq_getElem (by rw [HN.out]; exact hlt)⟩
      have HPK := Lib.hid hpk
      have hpp := HPA.out p (List.mem_of_getElem? hpk)
      have HPI := Lib.hid (HIN.out p (List.mem_of_getElem? hpk))
      obtain ⟨bp, op, e5, _, hbl, hrow⟩ := row_at (HP.out.below (HB0.out.trans (HB.out.mono HB0.out.size))) hpk
      cases e5
      obtain ⟨pat, plim, padr, ptag, pbv, pbody⟩ := p
      obtain ⟨_, _, hsrc, _⟩ := hpp
      obtain ⟨ba, bc, hbv⟩ := Sg.src_form hsrc
      simp only at hbv
      subst hbv
      have d0 := hrow 0 _ rfl
      have d1 := hrow 1 _ rfl
      have d2 := hrow 2 _ rfl
      have d3 := hrow 3 _ rfl
      have d4 := hrow 4 _ rfl
      rw [Nat.add_zero] at d0
      clear hrow hsrc hpk
      have q1 : (k : Int) < (n : Int) := by omega
      have q2 : (0 : Int) ≤ (k : Int) := by omega
      have q3 : IntKind.i64.wrap ((k : Int) + 1) = (k : Int) + 1 := IntWalk.i64_in _ (by omega)
      have HDR := Lib.hid (anyF_drop (c := fun j p => isV p sadr stag && decide (max p.at_ f < endN ps j)) HPK.out)
      have HBr := Lib.hid (HB0.out.trans (HB.out.mono HB0.out.size))
      have c0 := (HX0.out.older HB.out).cell (i := 0) rfl
      have c1 := (HX0.out.older HB.out).cell (i := 1) rfl
      have c2 := (HX0.out.older HB.out).cell (i := 2) rfl
      have c3 := (HX0.out.older HB.out).cell (i := 3) rfl
      have c4 := (HX0.out.older HB.out).cell (i := 4) rfl
      have c5 := (HX0.out.older HB.out).cell (i := 5) rfl
      have c6 := (HX0.out.older HB.out).cell (i := 6) rfl
      have s0 := (HS0.out.older HB.out).cell (i := 0) rfl
      have s1 := (HS0.out.older HB.out).cell (i := 1) rfl
      have s2 := (HS0.out.older HB.out).cell (i := 2) rfl
      have s3 := (HS0.out.older HB.out).cell (i := 3) rfl
      have s4 := (HS0.out.older HB.out).cell (i := 4) rfl
      have s5 := (HS0.out.older HB.out).cell (i := 5) rfl
      have s6 := (HS0.out.older HB.out).cell (i := 6) rfl
      have s7 := (HS0.out.older HB.out).cell (i := 7) rfl
      have s8 := (HS0.out.older HB.out).cell (i := 8) rfl
      have s9 := (HS0.out.older HB.out).cell (i := 9) rfl
      have s10 := (HS0.out.older HB.out).cell (i := 10) rfl
      skip
      have HCP := Lib.hid (fun w => time_in pat HPI.out w)
      have HCF := Lib.hid (fun w => time_in f HFF.out w)
      obtain ⟨mx, hmx⟩ : ∃ z, max pat f = z := ⟨_, rfl⟩
      obtain ⟨E, hE⟩ : ∃ z, endN ps k = z := ⟨_, rfl⟩
      have HEV := Lib.hid hE
      have HDR := Lib.hid (show anyF (fun j p => isV p sadr stag && decide (max p.at_ f < endN ps j)) (ps.drop k) k = (isV ⟨pat, plim, padr, ptag, .slice ba pbody.length bc, pbody⟩ sadr stag && decide (mx < E) || anyF (fun j p => isV p sadr stag && decide (max p.at_ f < endN ps j)) (ps.drop (k + 1)) (k + 1)) by rw [HDR.out]; simp only [hmx, hE])
      clear hE
      cases hv : (padr == sadr && ptag == stag) with
      | false =>
        go_upto_region 4 with fail
        refine wp_region_held_drew (S := (fun w' => w'.cell? ⟨b0, 0, none⟩ = some (.slice (some ⟨bp, op, none⟩) n pc) ∧ w'.cell? ⟨b0, 1, none⟩ = some (vb) ∧ w'.cell? ⟨b0, 2, none⟩ = some (vc) ∧ w'.cell? ⟨b0, 3, none⟩ = some (vd) ∧ w'.cell? ⟨b0, 4, none⟩ = some (ve) ∧ w'.cell? ⟨b0, 5, none⟩ = some (.int .i64 bound) ∧ w'.cell? ⟨b0, 6, none⟩ = some (.int .i64 fin) ∧ w'.cell? ⟨b0 + 1, 0, none⟩ = some (.string ⟨edge.toArray⟩) ∧ w'.cell? ⟨b0 + 1, 1, none⟩ = some (.string ⟨sadr.toArray⟩) ∧ w'.cell? ⟨b0 + 1, 2, none⟩ = some (.string ⟨stag.toArray⟩) ∧ w'.cell? ⟨b0 + 1, 3, none⟩ = some (.int .i64 ten) ∧ w'.cell? ⟨b0 + 1, 4, none⟩ = some (.int .i64 ask) ∧ w'.cell? ⟨b0 + 1, 5, none⟩ = some (.int .i64 at_) ∧ w'.cell? ⟨b0 + 1, 6, none⟩ = some (.int .i64 frm) ∧ w'.cell? ⟨b0 + 1, 7, none⟩ = some (.int .i64 til) ∧ w'.cell? ⟨b0 + 1, 8, none⟩ = some (.slice ta tn tc) ∧ w'.cell? ⟨b0 + 1, 9, none⟩ = some (.slice qa qn qc) ∧ w'.cell? ⟨b0 + 1, 10, none⟩ = some (.bool ended) ∧ w'.cell? ⟨bp, op + k * 5, none⟩ = some (.int .i64 pat) ∧ w'.cell? ⟨bp, op + k * 5 + 1, none⟩ = some (.int .i64 plim) ∧ w'.cell? ⟨bp, op + k * 5 + 2, none⟩ = some (.string ⟨padr.toArray⟩) ∧ w'.cell? ⟨bp, op + k * 5 + 3, none⟩ = some (.string ⟨ptag.toArray⟩) ∧ w'.cell? ⟨bp, op + k * 5 + 4, none⟩ = some (.slice ba pbody.length bc))) (by kernel_rfl) (by exact ⟨c0, c1, c2, c3, c4, c5, c6, s0, s1, s2, s3, s4, s5, s6, s7, s8, s9, s10, d0, d1, d2, d3, d4⟩) (fun hHeld => ?_)
        refine Hd.tk 0 ?_
        try simp only [Act.put, List.setIfInBounds_toArray, List.set_cons_zero, List.set_cons_succ]
        refine Hd.tk 1 ?_
        try simp only [Act.put, List.setIfInBounds_toArray, List.set_cons_zero, List.set_cons_succ]
        refine Hd.tk 2 ?_
        try simp only [Act.put, List.setIfInBounds_toArray, List.set_cons_zero, List.set_cons_succ]
        refine Hd.tk 3 ?_
        try simp only [Act.put, List.setIfInBounds_toArray, List.set_cons_zero, List.set_cons_succ]
        refine Hd.tk 4 ?_
        try simp only [Act.put, List.setIfInBounds_toArray, List.set_cons_zero, List.set_cons_succ]
        refine Hd.tk 5 ?_
        try simp only [Act.put, List.setIfInBounds_toArray, List.set_cons_zero, List.set_cons_succ]
        refine wpAnyH_ready (rs := [6]) (by kernel_rfl) (by simp) (AllReadyH.cons (by simp only [List.getElem?_toArray, List.getElem?_cons_succ, List.getElem?_cons_zero]; rfl) (fun K hK => ?_) AllReadyH.nil)
        go_simp
        go_at_call 85
        refine (isv_any pat plim padr ptag ba pbody.length bc edge sadr stag ten ask at_ frm til ta tn tc qa qn qc ended _).mono ?_
        rintro e wq1 ⟨rfl, hq1⟩
        have hqw1 : Below wr.heap.size wr wq1 := ((Below.refl _ _).drew).trans hq1
        rw [hv]
        go_wp2_with fail
        refine hK.out _ _ (by exact ⟨keepH hqw1 c0, keepH hqw1 c1, keepH hqw1 c2, keepH hqw1 c3, keepH hqw1 c4, keepH hqw1 c5, keepH hqw1 c6, keepH hqw1 s0, keepH hqw1 s1, keepH hqw1 s2, keepH hqw1 s3, keepH hqw1 s4, keepH hqw1 s5, keepH hqw1 s6, keepH hqw1 s7, keepH hqw1 s8, keepH hqw1 s9, keepH hqw1 s10, keepH hqw1 d0, keepH hqw1 d1, keepH hqw1 d2, keepH hqw1 d3, keepH hqw1 d4⟩) (fun hHe1 => ?_)
        clear hK K
        try simp only [Act.put, List.setIfInBounds_toArray, List.set_cons_zero, List.set_cons_succ]
        refine Hd.tk 7 ?_
        try simp only [Act.put, List.setIfInBounds_toArray, List.set_cons_zero, List.set_cons_succ]
        refine Hd.sk 8 ?_
        try simp only [Act.put, List.setIfInBounds_toArray, List.set_cons_zero, List.set_cons_succ]
        refine Hd.sk 9 ?_
        try simp only [Act.put, List.setIfInBounds_toArray, List.set_cons_zero, List.set_cons_succ]
        refine Hd.sk 10 ?_
        try simp only [Act.put, List.setIfInBounds_toArray, List.set_cons_zero, List.set_cons_succ]
        refine Hd.sk 11 ?_
        try simp only [Act.put, List.setIfInBounds_toArray, List.set_cons_zero, List.set_cons_succ]
        refine Hd.sk 12 ?_
        try simp only [Act.put, List.setIfInBounds_toArray, List.set_cons_zero, List.set_cons_succ]
        refine Hd.sk 13 ?_
        try simp only [Act.put, List.setIfInBounds_toArray, List.set_cons_zero, List.set_cons_succ]
        refine Hd.sk 14 ?_
        try simp only [Act.put, List.setIfInBounds_toArray, List.set_cons_zero, List.set_cons_succ]
        refine Hd.sk 15 ?_
        try simp only [Act.put, List.setIfInBounds_toArray, List.set_cons_zero, List.set_cons_succ]
        refine Hd.sk 16 ?_
        try simp only [Act.put, List.setIfInBounds_toArray, List.set_cons_zero, List.set_cons_succ]
        refine Hd.sk 17 ?_
        try simp only [Act.put, List.setIfInBounds_toArray, List.set_cons_zero, List.set_cons_succ]
        refine Hd.sk 18 ?_
        try simp only [Act.put, List.setIfInBounds_toArray, List.set_cons_zero, List.set_cons_succ]
        refine Hd.sk 19 ?_
        try simp only [Act.put, List.setIfInBounds_toArray, List.set_cons_zero, List.set_cons_succ]
        refine Hd.sk 20 ?_
        try simp only [Act.put, List.setIfInBounds_toArray, List.set_cons_zero, List.set_cons_succ]
        refine Hd.sk 21 ?_
        try simp only [Act.put, List.setIfInBounds_toArray, List.set_cons_zero, List.set_cons_succ]
        refine Hd.tk 22 ?_
        try simp only [Act.put, List.setIfInBounds_toArray, List.set_cons_zero, List.set_cons_succ]
        refine wpAnyH_done (by kernel_rfl) ?_ _
        have HF := Lib.hid (show kb = anyF (fun j p => isV p sadr stag && decide (max p.at_ f < endN ps j)) (ps.drop (k + 1)) (k + 1) by rw [HE.out, HDR.out]; unfold isV; simp [hv])
        go_wp2_with fail
        go_roundg (gk - 1)
        case rel => exact ⟨k + 1, by go_num, by have := HLT.out; omega, Lib.hid (by have := HQ.out; omega), HF, Lib.hid (HB.out.trans (hqw1.mono HB.out.size))⟩
        case measure => have := HQ.out; have := HLT.out; omega
      | true =>
        by_cases hl : mx < E
        · have hd : decide (mx < E) = true := decide_eq_true hl
          go_upto_region 4 with fail
          refine wp_region_held_drew (S := (fun w' => w'.cell? ⟨b0, 0, none⟩ = some (.slice (some ⟨bp, op, none⟩) n pc) ∧ w'.cell? ⟨b0, 1, none⟩ = some (vb) ∧ w'.cell? ⟨b0, 2, none⟩ = some (vc) ∧ w'.cell? ⟨b0, 3, none⟩ = some (vd) ∧ w'.cell? ⟨b0, 4, none⟩ = some (ve) ∧ w'.cell? ⟨b0, 5, none⟩ = some (.int .i64 bound) ∧ w'.cell? ⟨b0, 6, none⟩ = some (.int .i64 fin) ∧ w'.cell? ⟨b0 + 1, 0, none⟩ = some (.string ⟨edge.toArray⟩) ∧ w'.cell? ⟨b0 + 1, 1, none⟩ = some (.string ⟨sadr.toArray⟩) ∧ w'.cell? ⟨b0 + 1, 2, none⟩ = some (.string ⟨stag.toArray⟩) ∧ w'.cell? ⟨b0 + 1, 3, none⟩ = some (.int .i64 ten) ∧ w'.cell? ⟨b0 + 1, 4, none⟩ = some (.int .i64 ask) ∧ w'.cell? ⟨b0 + 1, 5, none⟩ = some (.int .i64 at_) ∧ w'.cell? ⟨b0 + 1, 6, none⟩ = some (.int .i64 frm) ∧ w'.cell? ⟨b0 + 1, 7, none⟩ = some (.int .i64 til) ∧ w'.cell? ⟨b0 + 1, 8, none⟩ = some (.slice ta tn tc) ∧ w'.cell? ⟨b0 + 1, 9, none⟩ = some (.slice qa qn qc) ∧ w'.cell? ⟨b0 + 1, 10, none⟩ = some (.bool ended) ∧ w'.cell? ⟨bp, op + k * 5, none⟩ = some (.int .i64 pat) ∧ w'.cell? ⟨bp, op + k * 5 + 1, none⟩ = some (.int .i64 plim) ∧ w'.cell? ⟨bp, op + k * 5 + 2, none⟩ = some (.string ⟨padr.toArray⟩) ∧ w'.cell? ⟨bp, op + k * 5 + 3, none⟩ = some (.string ⟨ptag.toArray⟩) ∧ w'.cell? ⟨bp, op + k * 5 + 4, none⟩ = some (.slice ba pbody.length bc))) (by kernel_rfl) (by exact ⟨c0, c1, c2, c3, c4, c5, c6, s0, s1, s2, s3, s4, s5, s6, s7, s8, s9, s10, d0, d1, d2, d3, d4⟩) (fun hHeld => ?_)
          refine Hd.tk 0 ?_
          try simp only [Act.put, List.setIfInBounds_toArray, List.set_cons_zero, List.set_cons_succ]
          refine Hd.tk 1 ?_
          try simp only [Act.put, List.setIfInBounds_toArray, List.set_cons_zero, List.set_cons_succ]
          refine Hd.tk 2 ?_
          try simp only [Act.put, List.setIfInBounds_toArray, List.set_cons_zero, List.set_cons_succ]
          refine Hd.tk 3 ?_
          try simp only [Act.put, List.setIfInBounds_toArray, List.set_cons_zero, List.set_cons_succ]
          refine Hd.tk 4 ?_
          try simp only [Act.put, List.setIfInBounds_toArray, List.set_cons_zero, List.set_cons_succ]
          refine Hd.tk 5 ?_
          try simp only [Act.put, List.setIfInBounds_toArray, List.set_cons_zero, List.set_cons_succ]
          refine wpAnyH_ready (rs := [6]) (by kernel_rfl) (by simp) (AllReadyH.cons (by simp only [List.getElem?_toArray, List.getElem?_cons_succ, List.getElem?_cons_zero]; rfl) (fun K hK => ?_) AllReadyH.nil)
          go_simp
          go_at_call 85
          refine (isv_any pat plim padr ptag ba pbody.length bc edge sadr stag ten ask at_ frm til ta tn tc qa qn qc ended _).mono ?_
          rintro e wq1 ⟨rfl, hq1⟩
          have hqw1 : Below wr.heap.size wr wq1 := ((Below.refl _ _).drew).trans hq1
          rw [hv]
          go_wp2_with fail
          refine hK.out _ _ (by exact ⟨keepH hqw1 c0, keepH hqw1 c1, keepH hqw1 c2, keepH hqw1 c3, keepH hqw1 c4, keepH hqw1 c5, keepH hqw1 c6, keepH hqw1 s0, keepH hqw1 s1, keepH hqw1 s2, keepH hqw1 s3, keepH hqw1 s4, keepH hqw1 s5, keepH hqw1 s6, keepH hqw1 s7, keepH hqw1 s8, keepH hqw1 s9, keepH hqw1 s10, keepH hqw1 d0, keepH hqw1 d1, keepH hqw1 d2, keepH hqw1 d3, keepH hqw1 d4⟩) (fun hHe1 => ?_)
          clear hK K
          try simp only [Act.put, List.setIfInBounds_toArray, List.set_cons_zero, List.set_cons_succ]
          refine Hd.tk 7 ?_
          try simp only [Act.put, List.setIfInBounds_toArray, List.set_cons_zero, List.set_cons_succ]
          refine Hd.tk 8 ?_
          try simp only [Act.put, List.setIfInBounds_toArray, List.set_cons_zero, List.set_cons_succ]
          refine Hd.tk 9 ?_
          try simp only [Act.put, List.setIfInBounds_toArray, List.set_cons_zero, List.set_cons_succ]
          refine Hd.tk 10 ?_
          try simp only [Act.put, List.setIfInBounds_toArray, List.set_cons_zero, List.set_cons_succ]
          refine Hd.tk 11 ?_
          try simp only [Act.put, List.setIfInBounds_toArray, List.set_cons_zero, List.set_cons_succ]
          refine Hd.tk 12 ?_
          try simp only [Act.put, List.setIfInBounds_toArray, List.set_cons_zero, List.set_cons_succ]
          refine Hd.tk 13 ?_
          try simp only [Act.put, List.setIfInBounds_toArray, List.set_cons_zero, List.set_cons_succ]
          refine Hd.tk 15 ?_
          try simp only [Act.put, List.setIfInBounds_toArray, List.set_cons_zero, List.set_cons_succ]
          refine Hd.tk 18 ?_
          try simp only [Act.put, List.setIfInBounds_toArray, List.set_cons_zero, List.set_cons_succ]
          refine Hd.tk 19 ?_
          try simp only [Act.put, List.setIfInBounds_toArray, List.set_cons_zero, List.set_cons_succ]
          refine wpAnyH_ready (rs := [14]) (by kernel_rfl) (by simp) (AllReadyH.cons (by simp only [List.getElem?_toArray, List.getElem?_cons_succ, List.getElem?_cons_zero]; rfl) (fun K hK => ?_) AllReadyH.nil)
          go_simp
          go_at_call 84
          refine (HCP.out _).mono ?_
          rintro e wq2 ⟨rfl, rfl⟩
          go_wp2_with fail
          refine hK.out _ _ (by exact ⟨keepH hqw1 c0, keepH hqw1 c1, keepH hqw1 c2, keepH hqw1 c3, keepH hqw1 c4, keepH hqw1 c5, keepH hqw1 c6, keepH hqw1 s0, keepH hqw1 s1, keepH hqw1 s2, keepH hqw1 s3, keepH hqw1 s4, keepH hqw1 s5, keepH hqw1 s6, keepH hqw1 s7, keepH hqw1 s8, keepH hqw1 s9, keepH hqw1 s10, keepH hqw1 d0, keepH hqw1 d1, keepH hqw1 d2, keepH hqw1 d3, keepH hqw1 d4⟩) (fun hHe2 => ?_)
          clear hK K
          try simp only [Act.put, List.setIfInBounds_toArray, List.set_cons_zero, List.set_cons_succ]
          refine wpAnyH_ready (rs := [16]) (by kernel_rfl) (by simp) (AllReadyH.cons (by simp only [List.getElem?_toArray, List.getElem?_cons_succ, List.getElem?_cons_zero]; rfl) (fun K hK => ?_) AllReadyH.nil)
          go_simp
          go_at_call 84
          refine (HCF.out _).mono ?_
          rintro e wq3 ⟨rfl, rfl⟩
          go_wp2_with fail
          refine hK.out _ _ (by exact ⟨keepH hqw1 c0, keepH hqw1 c1, keepH hqw1 c2, keepH hqw1 c3, keepH hqw1 c4, keepH hqw1 c5, keepH hqw1 c6, keepH hqw1 s0, keepH hqw1 s1, keepH hqw1 s2, keepH hqw1 s3, keepH hqw1 s4, keepH hqw1 s5, keepH hqw1 s6, keepH hqw1 s7, keepH hqw1 s8, keepH hqw1 s9, keepH hqw1 s10, keepH hqw1 d0, keepH hqw1 d1, keepH hqw1 d2, keepH hqw1 d3, keepH hqw1 d4⟩) (fun hHe3 => ?_)
          clear hK K
          try simp only [Act.put, List.setIfInBounds_toArray, List.set_cons_zero, List.set_cons_succ]
          refine Hd.tk 17 ?_
          try simp only [Act.put, List.setIfInBounds_toArray, List.set_cons_zero, List.set_cons_succ]
          refine wpAnyH_ready (rs := [20]) (by kernel_rfl) (by simp) (AllReadyH.cons (by simp only [List.getElem?_toArray, List.getElem?_cons_succ, List.getElem?_cons_zero]; rfl) (fun K hK => ?_) AllReadyH.nil)
          go_simp
          go_at_call 86
          refine (ended_any ps (.slice (some ⟨bp, op, none⟩) n pc) vb vc vd ve bound fin B k _ (HP.out.below (HBr.out.trans (hqw1.mono HBr.out.size))) (by rw [HN.out]; exact hn) (fun p hp => (HPA.out p hp).below (HBr.out.trans (hqw1.mono HBr.out.size))) HIN.out (by rw [HN.out]; exact hlt)).mono ?_
          rintro e wq4 ⟨rfl, hq4⟩
          have hqw4 : Below wr.heap.size wr wq4 := hqw1.trans (hq4.mono hqw1.size)
          rw [HEV.out]
          go_wp2_with fail
          refine hK.out _ _ (by exact ⟨keepH hqw4 c0, keepH hqw4 c1, keepH hqw4 c2, keepH hqw4 c3, keepH hqw4 c4, keepH hqw4 c5, keepH hqw4 c6, keepH hqw4 s0, keepH hqw4 s1, keepH hqw4 s2, keepH hqw4 s3, keepH hqw4 s4, keepH hqw4 s5, keepH hqw4 s6, keepH hqw4 s7, keepH hqw4 s8, keepH hqw4 s9, keepH hqw4 s10, keepH hqw4 d0, keepH hqw4 d1, keepH hqw4 d2, keepH hqw4 d3, keepH hqw4 d4⟩) (fun hHe4 => ?_)
          clear hK K
          try simp only [Act.put, List.setIfInBounds_toArray, List.set_cons_zero, List.set_cons_succ]
          refine Hd.tk 21 ?_
          try simp only [Act.put, List.setIfInBounds_toArray, List.set_cons_zero, List.set_cons_succ]
          refine Hd.tk 22 ?_
          try simp only [Act.put, List.setIfInBounds_toArray, List.set_cons_zero, List.set_cons_succ]
          refine wpAnyH_done (by kernel_rfl) ?_ _
          have HF := Lib.hid (show kb = true by rw [HE.out, HDR.out]; unfold isV; simp [hv, hd])
          go_wp2_with fail
          go_ret
          exact ⟨by rw [HF.out]; rfl, HBr.out.trans (hqw4.mono HBr.out.size)⟩
        · have hd : decide (mx < E) = false := decide_eq_false hl
          go_upto_region 4 with fail
          refine wp_region_held_drew (S := (fun w' => w'.cell? ⟨b0, 0, none⟩ = some (.slice (some ⟨bp, op, none⟩) n pc) ∧ w'.cell? ⟨b0, 1, none⟩ = some (vb) ∧ w'.cell? ⟨b0, 2, none⟩ = some (vc) ∧ w'.cell? ⟨b0, 3, none⟩ = some (vd) ∧ w'.cell? ⟨b0, 4, none⟩ = some (ve) ∧ w'.cell? ⟨b0, 5, none⟩ = some (.int .i64 bound) ∧ w'.cell? ⟨b0, 6, none⟩ = some (.int .i64 fin) ∧ w'.cell? ⟨b0 + 1, 0, none⟩ = some (.string ⟨edge.toArray⟩) ∧ w'.cell? ⟨b0 + 1, 1, none⟩ = some (.string ⟨sadr.toArray⟩) ∧ w'.cell? ⟨b0 + 1, 2, none⟩ = some (.string ⟨stag.toArray⟩) ∧ w'.cell? ⟨b0 + 1, 3, none⟩ = some (.int .i64 ten) ∧ w'.cell? ⟨b0 + 1, 4, none⟩ = some (.int .i64 ask) ∧ w'.cell? ⟨b0 + 1, 5, none⟩ = some (.int .i64 at_) ∧ w'.cell? ⟨b0 + 1, 6, none⟩ = some (.int .i64 frm) ∧ w'.cell? ⟨b0 + 1, 7, none⟩ = some (.int .i64 til) ∧ w'.cell? ⟨b0 + 1, 8, none⟩ = some (.slice ta tn tc) ∧ w'.cell? ⟨b0 + 1, 9, none⟩ = some (.slice qa qn qc) ∧ w'.cell? ⟨b0 + 1, 10, none⟩ = some (.bool ended) ∧ w'.cell? ⟨bp, op + k * 5, none⟩ = some (.int .i64 pat) ∧ w'.cell? ⟨bp, op + k * 5 + 1, none⟩ = some (.int .i64 plim) ∧ w'.cell? ⟨bp, op + k * 5 + 2, none⟩ = some (.string ⟨padr.toArray⟩) ∧ w'.cell? ⟨bp, op + k * 5 + 3, none⟩ = some (.string ⟨ptag.toArray⟩) ∧ w'.cell? ⟨bp, op + k * 5 + 4, none⟩ = some (.slice ba pbody.length bc))) (by kernel_rfl) (by exact ⟨c0, c1, c2, c3, c4, c5, c6, s0, s1, s2, s3, s4, s5, s6, s7, s8, s9, s10, d0, d1, d2, d3, d4⟩) (fun hHeld => ?_)
          refine Hd.tk 0 ?_
          try simp only [Act.put, List.setIfInBounds_toArray, List.set_cons_zero, List.set_cons_succ]
          refine Hd.tk 1 ?_
          try simp only [Act.put, List.setIfInBounds_toArray, List.set_cons_zero, List.set_cons_succ]
          refine Hd.tk 2 ?_
          try simp only [Act.put, List.setIfInBounds_toArray, List.set_cons_zero, List.set_cons_succ]
          refine Hd.tk 3 ?_
          try simp only [Act.put, List.setIfInBounds_toArray, List.set_cons_zero, List.set_cons_succ]
          refine Hd.tk 4 ?_
          try simp only [Act.put, List.setIfInBounds_toArray, List.set_cons_zero, List.set_cons_succ]
          refine Hd.tk 5 ?_
          try simp only [Act.put, List.setIfInBounds_toArray, List.set_cons_zero, List.set_cons_succ]
          refine wpAnyH_ready (rs := [6]) (by kernel_rfl) (by simp) (AllReadyH.cons (by simp only [List.getElem?_toArray, List.getElem?_cons_succ, List.getElem?_cons_zero]; rfl) (fun K hK => ?_) AllReadyH.nil)
          go_simp
          go_at_call 85
          refine (isv_any pat plim padr ptag ba pbody.length bc edge sadr stag ten ask at_ frm til ta tn tc qa qn qc ended _).mono ?_
          rintro e wq1 ⟨rfl, hq1⟩
          have hqw1 : Below wr.heap.size wr wq1 := ((Below.refl _ _).drew).trans hq1
          rw [hv]
          go_wp2_with fail
          refine hK.out _ _ (by exact ⟨keepH hqw1 c0, keepH hqw1 c1, keepH hqw1 c2, keepH hqw1 c3, keepH hqw1 c4, keepH hqw1 c5, keepH hqw1 c6, keepH hqw1 s0, keepH hqw1 s1, keepH hqw1 s2, keepH hqw1 s3, keepH hqw1 s4, keepH hqw1 s5, keepH hqw1 s6, keepH hqw1 s7, keepH hqw1 s8, keepH hqw1 s9, keepH hqw1 s10, keepH hqw1 d0, keepH hqw1 d1, keepH hqw1 d2, keepH hqw1 d3, keepH hqw1 d4⟩) (fun hHe1 => ?_)
          clear hK K
          try simp only [Act.put, List.setIfInBounds_toArray, List.set_cons_zero, List.set_cons_succ]
          refine Hd.tk 7 ?_
          try simp only [Act.put, List.setIfInBounds_toArray, List.set_cons_zero, List.set_cons_succ]
          refine Hd.tk 8 ?_
          try simp only [Act.put, List.setIfInBounds_toArray, List.set_cons_zero, List.set_cons_succ]
          refine Hd.tk 9 ?_
          try simp only [Act.put, List.setIfInBounds_toArray, List.set_cons_zero, List.set_cons_succ]
          refine Hd.tk 10 ?_
          try simp only [Act.put, List.setIfInBounds_toArray, List.set_cons_zero, List.set_cons_succ]
          refine Hd.tk 11 ?_
          try simp only [Act.put, List.setIfInBounds_toArray, List.set_cons_zero, List.set_cons_succ]
          refine Hd.tk 12 ?_
          try simp only [Act.put, List.setIfInBounds_toArray, List.set_cons_zero, List.set_cons_succ]
          refine Hd.tk 13 ?_
          try simp only [Act.put, List.setIfInBounds_toArray, List.set_cons_zero, List.set_cons_succ]
          refine Hd.tk 15 ?_
          try simp only [Act.put, List.setIfInBounds_toArray, List.set_cons_zero, List.set_cons_succ]
          refine Hd.tk 18 ?_
          try simp only [Act.put, List.setIfInBounds_toArray, List.set_cons_zero, List.set_cons_succ]
          refine Hd.tk 19 ?_
          try simp only [Act.put, List.setIfInBounds_toArray, List.set_cons_zero, List.set_cons_succ]
          refine wpAnyH_ready (rs := [14]) (by kernel_rfl) (by simp) (AllReadyH.cons (by simp only [List.getElem?_toArray, List.getElem?_cons_succ, List.getElem?_cons_zero]; rfl) (fun K hK => ?_) AllReadyH.nil)
          go_simp
          go_at_call 84
          refine (HCP.out _).mono ?_
          rintro e wq2 ⟨rfl, rfl⟩
          go_wp2_with fail
          refine hK.out _ _ (by exact ⟨keepH hqw1 c0, keepH hqw1 c1, keepH hqw1 c2, keepH hqw1 c3, keepH hqw1 c4, keepH hqw1 c5, keepH hqw1 c6, keepH hqw1 s0, keepH hqw1 s1, keepH hqw1 s2, keepH hqw1 s3, keepH hqw1 s4, keepH hqw1 s5, keepH hqw1 s6, keepH hqw1 s7, keepH hqw1 s8, keepH hqw1 s9, keepH hqw1 s10, keepH hqw1 d0, keepH hqw1 d1, keepH hqw1 d2, keepH hqw1 d3, keepH hqw1 d4⟩) (fun hHe2 => ?_)
          clear hK K
          try simp only [Act.put, List.setIfInBounds_toArray, List.set_cons_zero, List.set_cons_succ]
          refine wpAnyH_ready (rs := [16]) (by kernel_rfl) (by simp) (AllReadyH.cons (by simp only [List.getElem?_toArray, List.getElem?_cons_succ, List.getElem?_cons_zero]; rfl) (fun K hK => ?_) AllReadyH.nil)
          go_simp
          go_at_call 84
          refine (HCF.out _).mono ?_
          rintro e wq3 ⟨rfl, rfl⟩
          go_wp2_with fail
          refine hK.out _ _ (by exact ⟨keepH hqw1 c0, keepH hqw1 c1, keepH hqw1 c2, keepH hqw1 c3, keepH hqw1 c4, keepH hqw1 c5, keepH hqw1 c6, keepH hqw1 s0, keepH hqw1 s1, keepH hqw1 s2, keepH hqw1 s3, keepH hqw1 s4, keepH hqw1 s5, keepH hqw1 s6, keepH hqw1 s7, keepH hqw1 s8, keepH hqw1 s9, keepH hqw1 s10, keepH hqw1 d0, keepH hqw1 d1, keepH hqw1 d2, keepH hqw1 d3, keepH hqw1 d4⟩) (fun hHe3 => ?_)
          clear hK K
          try simp only [Act.put, List.setIfInBounds_toArray, List.set_cons_zero, List.set_cons_succ]
          refine Hd.tk 17 ?_
          try simp only [Act.put, List.setIfInBounds_toArray, List.set_cons_zero, List.set_cons_succ]
          refine wpAnyH_ready (rs := [20]) (by kernel_rfl) (by simp) (AllReadyH.cons (by simp only [List.getElem?_toArray, List.getElem?_cons_succ, List.getElem?_cons_zero]; rfl) (fun K hK => ?_) AllReadyH.nil)
          go_simp
          go_at_call 86
          refine (ended_any ps (.slice (some ⟨bp, op, none⟩) n pc) vb vc vd ve bound fin B k _ (HP.out.below (HBr.out.trans (hqw1.mono HBr.out.size))) (by rw [HN.out]; exact hn) (fun p hp => (HPA.out p hp).below (HBr.out.trans (hqw1.mono HBr.out.size))) HIN.out (by rw [HN.out]; exact hlt)).mono ?_
          rintro e wq4 ⟨rfl, hq4⟩
          have hqw4 : Below wr.heap.size wr wq4 := hqw1.trans (hq4.mono hqw1.size)
          rw [HEV.out]
          go_wp2_with fail
          refine hK.out _ _ (by exact ⟨keepH hqw4 c0, keepH hqw4 c1, keepH hqw4 c2, keepH hqw4 c3, keepH hqw4 c4, keepH hqw4 c5, keepH hqw4 c6, keepH hqw4 s0, keepH hqw4 s1, keepH hqw4 s2, keepH hqw4 s3, keepH hqw4 s4, keepH hqw4 s5, keepH hqw4 s6, keepH hqw4 s7, keepH hqw4 s8, keepH hqw4 s9, keepH hqw4 s10, keepH hqw4 d0, keepH hqw4 d1, keepH hqw4 d2, keepH hqw4 d3, keepH hqw4 d4⟩) (fun hHe4 => ?_)
          clear hK K
          try simp only [Act.put, List.setIfInBounds_toArray, List.set_cons_zero, List.set_cons_succ]
          refine Hd.tk 21 ?_
          try simp only [Act.put, List.setIfInBounds_toArray, List.set_cons_zero, List.set_cons_succ]
          refine Hd.tk 22 ?_
          try simp only [Act.put, List.setIfInBounds_toArray, List.set_cons_zero, List.set_cons_succ]
          refine wpAnyH_done (by kernel_rfl) ?_ _
          have HF := Lib.hid (show kb = anyF (fun j p => isV p sadr stag && decide (max p.at_ f < endN ps j)) (ps.drop (k + 1)) (k + 1) by rw [HE.out, HDR.out]; unfold isV; simp [hv, hd])
          go_wp2_with fail
          go_roundg (gk - 1)
          case rel => exact ⟨k + 1, by go_num, by have := HLT.out; omega, Lib.hid (by have := HQ.out; omega), HF, Lib.hid (HB.out.trans (hqw4.mono HB.out.size))⟩
          case measure => have := HQ.out; have := HLT.out; omega
    · have HF := Lib.hid (show kb = false by rw [HE.out, anyF_end (by rw [HN.out]; omega)])
      obtain rfl : n = k := by omega
      go_wp2_with fail
      go_ret
      exact ⟨by rw [HF.out]; rfl, HB0.out.trans (HB.out.mono HB0.out.size)⟩
end Hy
end Go.Proofs.YtjijijjkkhpjnaaGreatDoor
end

