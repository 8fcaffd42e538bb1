/- PROVED: SignedSecrets returns true for every input and leaves its arguments as they were. No condition beyond the statement's own (the listed variables read as the program's text lays them, which the card ties). -/
import Derived.Deep.RegionHeld3
import Derived.OrdersHeld
import Derived.Test.YtpmhkkjecapbeaaGreatDoorPkG
import Derived.Test.YtpmhkkjecapbeaaGreatDoorPkI
import Derived.Test.YtpmhkkjecapbeaaGreatDoorPkQ
import Derived.Test.YtpmhkkjecapbeaaGreatDoorPkU
import Derived.Test.YtpmhkkjecapbeaaGreatDoorPkW
namespace Go.Proofs.YtpmhkkjecapbeaaGreatDoor.lawSignedSecrets
open Go.ChangeShapes Go.WideShapes Go.ChangeAt Go.RowKit Pl Ad
open Go.ChangeMaps (open_string shut_string)
attribute [local go_sem] ba_get ba_append ba_extract_end ba_extract_zero ba_extract conv_one
set_option maxRecDepth 100000
set_option maxHeartbeats 4000000
set_option linter.unusedVariables false
set_option linter.unusedSimpArgs false
open Sg Dg Kr A1
attribute [local go_sem] guard_pa guard_ra guard_pt eql_ra eql_pt A1.conv_bytes
attribute [-go_sem] run_eql_struct run_eqGuard_agg
/-- The token of the statement. -/
def tk1 : TokM := ⟨[107], 1, 3⟩
theorem signed_len36 {a : Adr} {t : TokM} {s : Bs} (hs : s.length = 32) : (signed a t s).text.length = (Ad.begun a t).text.length + 36 ∧ (signed a t s).text.take (Ad.begun a t).text.length = (Ad.begun a t).text := by
  rw [signed_text]
  refine ⟨?_, List.take_left⟩
  rw [List.length_append, List.length_cons, List.length_append, hs]; rfl
theorem sig_same (x y T : Bs) : ((hmacM mixM x T).take 16 == (hmacM mixM y T).take 16) = decide (sigM mixM y T = sigM mixM x T) := by
  rw [Bool.eq_iff_iff, beq_iff_eq, decide_eq_true_eq]
  unfold sigM
  constructor
  · intro h; rw [h]
  · intro h; exact (hexL_inj h).symm
theorem walk (h p q : Bs) (b : Bool) (one : Bs) (v1 : Value) (two : Bs) (v2 : Value) (w : World) (hg : Sg.SgnAt w) (z0 : h.length ≤ 140737488351232) (z1 : p.length ≤ 140737488351232) (z2 : q.length ≤ 140737488351232) (hx1 : SrcAt w v1 one.length (bvals one)) (hl1 : one.length ≤ 140737488351232) (hx2 : SrcAt w v2 two.length (bvals two)) (hl2 : two.length ≤ 140737488351232) :
    Calls Tryz.prog 8 #[adV ⟨h, p, q, b⟩, v1, v2] w fun e w' => e = .returned (.bool true) ∧ Below w.heap.size w w' := by
  obtain ⟨sa, sc, rfl⟩ := src_form hx1
  obtain ⟨ta, tc, rfl⟩ := src_form hx2
  have HG := Lib.hid hg
  have HS1 := Lib.hid hx1
  have HS2 := Lib.hid hx2
  have HB0 := Lib.hid ((Below.refl w.heap.size w).alloc (Nat.le_refl _) (.cells #[.string ⟨h.toArray⟩, .string ⟨p.toArray⟩, .string ⟨q.toArray⟩, .bool b] 62))
  have HX0 := Lib.hid (Bx.new w 62 #[.string ⟨h.toArray⟩, .string ⟨p.toArray⟩, .string ⟨q.toArray⟩, .bool b])
  clear hg hx1 hx2
  go_enter Tryz.func8, Tryz.ntmps8
  go_wp2_with fail
  refine (awake49_any _ (HG.out.below HB0.out)).mono ?_
  rintro e w1 ⟨rfl, hb1⟩
  have HB1 := Lib.hid (HB0.out.trans (hb1.mono HB0.out.size))
  have HX1 := Lib.hid (HX0.out.older hb1)
  clear hb1
  have c0 := HX1.out.cell (i := 0) rfl; have c1 := HX1.out.cell (i := 1) rfl; have c2 := HX1.out.cell (i := 2) rfl; have c3 := HX1.out.cell (i := 3) rfl; have hz := HX1.out.lt
  by_cases hs : h.length + p.length + q.length + (one.length + two.length) ≤ 3000
  · go_wp2_with fail
    refine (short_yes ⟨h, p, q, b⟩ (some ⟨w1.heap.size, 0, none⟩) 2 [one.length, two.length] (w1.alloc (.cells #[.int .i64 (one.length : Int), .int .i64 (two.length : Int)] 3)) (nvals_src w1 [one.length, two.length] 2) (by simp) (fun n hn => by simp at hn; omega) (by simp only; omega) (by simp only; omega) (by simp only; omega) (by simp only [List.sum_cons, List.sum_nil, Nat.add_zero]; exact hs)).mono ?_
    rintro e w2 ⟨rfl, hb2⟩
    have HB2 := Lib.hid ((HB1.out.alloc HB1.out.size (.cells #[.int .i64 (one.length : Int), .int .i64 (two.length : Int)] 3)).trans (hb2.mono (by have := HB1.out.size; simp; omega)))
    have HX2 := Lib.hid ((HX1.out.older ((Below.refl _ _).alloc (Nat.le_refl _) (.cells #[.int .i64 (one.length : Int), .int .i64 (two.length : Int)] 3))).older hb2)
    clear hb2 c0 c1 c2 c3 hz
    have c0 := HX2.out.cell (i := 0) rfl; have c1 := HX2.out.cell (i := 1) rfl; have c2 := HX2.out.cell (i := 2) rfl; have c3 := HX2.out.cell (i := 3) rfl; have hz := HX2.out.lt
    go_wp2_with fail
    refine (of_any ⟨h, p, q, b⟩ _).mono ?_
    rintro e w3 ⟨rfl, hb3⟩
    have HB3 := Lib.hid (HB2.out.trans (hb3.mono HB2.out.size))
    clear hb3 c0 c1 c2 c3 hz
    have HSG0 := fun wz hz hv => sign_any ⟨h, p, q, b⟩ tk1 sa sc one wz hz hv (by simp only; omega) (by simp only; omega) (by simp only; omega) (by decide) (by omega)
    by_cases hck : checkS ⟨h, p, q, b⟩ tk1 = 0
    · have hsa : signA ⟨h, p, q, b⟩ tk1 one = signed ⟨h, p, q, b⟩ tk1 (sigM mixM one (Ad.begun ⟨h, p, q, b⟩ tk1).text) := if_pos hck
      rw [Sg.errC_ok hck, hsa] at HSG0
      have hvd := signed_valid hck (sigM_hex mixM one (Ad.begun ⟨h, p, q, b⟩ tk1).text)
      have hrd := signed_read (sec := one) hck
      have hln := signed_len36 (a := ⟨h, p, q, b⟩) (t := tk1) (sigM_len mixM one (Ad.begun ⟨h, p, q, b⟩ tk1).text)
      have hvc := verC_some (sec := two) (k := true) (n := 2) hrd
      simp only at hvc
      generalize hT : (Ad.begun ⟨h, p, q, b⟩ tk1).text = T at *
      generalize signed ⟨h, p, q, b⟩ tk1 (sigM mixM one T) = sd at *
      have hlv := valid_lens hvd
      have hvl := valid_len hvd
      obtain ⟨tx, htx⟩ : ∃ z, sd.text = z := ⟨_, rfl⟩
      rw [htx] at hln hvl
      obtain ⟨n, hn⟩ : ∃ z, T.length = z := ⟨_, rfl⟩
      rw [hn] at hln
      obtain ⟨htl, htk⟩ := hln
      have HFMT : Hid (∀ wz, SgnAt wz → Calls Tryz.prog 25 #[adV sd] wz fun e w' => e = .returned (.tuple #[.string ⟨tx.toArray⟩, .nilIface]) ∧ Below wz.heap.size wz w') := Lib.hid (fun wz hz => by have h9 := format_yes sd wz hz.rdy (by omega) (by omega) (by omega) hvd; rw [htx] at h9; exact h9)
      have HVER0 := fun wz hz hv => verify_any sd ta tc two true 2 wz hz hv (by omega) (by omega) (by omega) (by omega)
      obtain ⟨va, hva⟩ : ∃ z, verA sd two true 2 = z := ⟨_, rfl⟩
      rw [hva] at HVER0
      have HSAME := Lib.hid (sig_same one two T)
      have HM1 : Hid (∀ (ua : Option Addr) (uc : Nat) wz, SrcAt wz (.slice sa one.length sc) one.length (bvals one) → SrcAt wz (.slice ua n uc) n (bvals T) → SgnAt wz → Calls Tryz.prog 28 #[.slice sa one.length sc, .slice ua n uc] wz fun e w' => ∃ xa xc, e = .returned (.slice xa 32 xc) ∧ OwnWin w' wz.heap.size 5 1 (.slice xa 32 xc) 32 (bvals (hmacM mixM one T)) ∧ Below wz.heap.size wz w') := Lib.hid (fun ua uc wz h1 h2 h3 => by have h9 := hmac_any sa sc one ua uc T wz h1 (by rw [hn]; exact h2) h3.con (by omega) (by omega); rw [hn] at h9; exact h9)
      have HM2 : Hid (∀ (ua : Option Addr) (uc : Nat) wz, SrcAt wz (.slice ta two.length tc) two.length (bvals two) → SrcAt wz (.slice ua n uc) n (bvals T) → SgnAt wz → Calls Tryz.prog 28 #[.slice ta two.length tc, .slice ua n uc] wz fun e w' => ∃ xa xc, e = .returned (.slice xa 32 xc) ∧ OwnWin w' wz.heap.size 5 1 (.slice xa 32 xc) 32 (bvals (hmacM mixM two T)) ∧ Below wz.heap.size wz w') := Lib.hid (fun ua uc wz h1 h2 h3 => by have h9 := hmac_any ta tc two ua uc T wz h1 (by rw [hn]; exact h2) h3.con (by omega) (by omega); rw [hn] at h9; exact h9)
      have HL1 := Lib.hid (show ((hmacM mixM one T).take 16).length = 16 by rw [List.length_take, hmacM_len]; rfl)
      have HL2 := Lib.hid (show ((hmacM mixM two T).take 16).length = 16 by rw [List.length_take, hmacM_len]; rfl)
      obtain ⟨sh, sp, sq, sb⟩ := sd
      obtain ⟨vh, vp, vq, vb⟩ := va
      have HSGN := Lib.hid HSG0
      have HVER := Lib.hid HVER0
      have HTK := Lib.hid htk
      have HTL := Lib.hid hn
      have HVC := Lib.hid hvc
      clear HSG0 HVER0 hck hsa hvd hrd hvc hT hlv htx htk hn hva z0 z1 z2 hl1 hl2
      go_wp2_with fail
      refine (HSGN.out _ (HG.out.below HB3.out) (HS1.out.older HB3.out)).mono ?_
      rintro e w4 ⟨rfl, hb4⟩
      have HB4 := Lib.hid ((HB3.out.trans (hb4.mono HB3.out.size)).alloc (by have := HB3.out.size; have := hb4.size; omega) (.cells #[.string ⟨sh.toArray⟩, .string ⟨sp.toArray⟩, .string ⟨sq.toArray⟩, .bool sb] 27))
      have HX4 := Lib.hid (Bx.new w4 27 #[.string ⟨sh.toArray⟩, .string ⟨sp.toArray⟩, .string ⟨sq.toArray⟩, .bool sb])
      clear hb4
      go_wp2_with fail
      refine (HFMT.out _ (HG.out.below HB4.out)).mono ?_
      rintro e w5 ⟨rfl, hb5⟩
      have HB5 := Lib.hid (HB4.out.trans (hb5.mono HB4.out.size))
      have HX5 := Lib.hid (HX4.out.older hb5)
      have hnn : n ≤ n + 36 := by omega
      have hni : ¬ ((n : Int) + 36 < 36) := by omega
      clear hb5
      have HTX0 : SrcAt (A1.bworld w5 (tx.take n)) (.slice (some ⟨w5.heap.size, 0, none⟩) n (A1.bcap w5 (tx.take n))) n (bvals T) := by
        have h9 := bytesSrc (c := A1.bcap w5 (tx.take n)) (A1.bytesAt_new w5 (tx.take n))
        have e9 : (tx.take n).length = n := by rw [HTK.out, HTL.out]
        rw [e9] at h9
        rw [show bvals (tx.take n) = bvals T by rw [HTK.out]] at h9
        exact h9
      have HTX := Lib.hid HTX0
      have HB6 := Lib.hid (HB5.out.trans ((A1.bworld_below w5 (tx.take n)).mono HB5.out.size))
      have HX6 := Lib.hid (HX5.out.older (A1.bworld_below w5 (tx.take n)))
      clear HTX0
      go_upto_region 10 with fail
      obtain ⟨w6, hw6⟩ : ∃ z, A1.bworld w5 (tx.take n) = z := ⟨_, rfl⟩
      obtain ⟨cc, hcc⟩ : ∃ z, A1.bcap w5 (tx.take n) = z := ⟨_, rfl⟩
      rw [hw6] at HTX HB6 HX6 ⊢
      rw [hcc] at HTX ⊢
      clear hw6 hcc
      have HB7 := Lib.hid (HB6.out.trans ((Below.refl w6.heap.size w6).drew.mono HB6.out.size))
      have HX7 := Lib.hid (HX6.out.older ((Below.refl _ _).drew))
      have HTX7 := Lib.hid (HTX.out.older ((Below.refl _ _).drew))
      have HBY : Hid (∀ (g1 o1 c1 g2 o2 c2 : Nat) wz, SrcAt wz (.slice (some ⟨g1, o1, none⟩) 16 c1) 16 (bvals ((hmacM mixM one T).take 16)) → SrcAt wz (.slice (some ⟨g2, o2, none⟩) 16 c2) 16 (bvals ((hmacM mixM two T).take 16)) → Calls Tryz.prog 40 #[.slice (some ⟨g1, o1, none⟩) 16 c1, .slice (some ⟨g2, o2, none⟩) 16 c2] wz fun e w' => e = .returned (.bool (decide (sigM mixM two T = sigM mixM one T))) ∧ wz = w') := Lib.hid (fun g1 o1 c1 g2 o2 c2 wz h1 h2 => by have h9 := bytes_any (some ⟨g1, o1, none⟩) (some ⟨g2, o2, none⟩) c1 c2 ((hmacM mixM one T).take 16) ((hmacM mixM two T).take 16) wz (by rw [HL1.out]; exact h1) (by rw [HL2.out]; exact h2); rw [HL1.out, HL2.out, HSAME.out] at h9; exact h9)
      by_cases hsq : sigM mixM two T = sigM mixM one T
      · have hsm : decide (sigM mixM two T = sigM mixM one T) = true := decide_eq_true hsq
        have hvc : verC ⟨sh, sp, sq, sb⟩ two true 2 = 0 := by rw [HVC.out, if_neg (by decide), if_neg (fun hn => hn hsq)]; exact if_neg (by unfold tk1; simp)
        have HVR : Hid (∀ wz, SgnAt wz → SrcAt wz (.slice ta two.length tc) two.length (bvals two) → Calls Tryz.prog 38 #[adV ⟨sh, sp, sq, sb⟩, .slice ta two.length tc, .bool true, .int .i64 2] wz fun e w' => e = .returned (.tuple #[adV ⟨vh, vp, vq, vb⟩, .nilIface]) ∧ Below wz.heap.size wz w') := Lib.hid (fun wz h1 h2 => by have h9 := HVER.out wz h1 h2; rw [errC_zero hvc] at h9; exact h9)
        rw [hsm] at HBY
        clear hsq hsm hvc HVC
        refine wp_region_held_drew (S := fun _ => True) (by kernel_rfl) (by exact trivial) (fun hHeld => ?_)
        obtain ⟨wd, hwd⟩ : ∃ z, w6.drew = z := ⟨_, rfl⟩
        rw [hwd] at HB7 HX7 HTX7 ⊢
        clear hwd
        refine wpAnyH_take (i := 0) (v := ?_) (by simp only [List.getElem?_toArray, List.getElem?_cons_succ, List.getElem?_cons_zero]; rfl) (by kernel_rfl) (by kernel_rfl) (by kernel_rfl) (by intro _ _ _ h; exact h) (Or.inl ⟨by rfl, ?_⟩) (by assumption) ?_
        rotate_left
        focus (intro wT hT; (try dsimp only at hT); go_simp; try with_reducible rfl)
        try simp only [Act.put, List.setIfInBounds_toArray, List.set_cons_zero, List.set_cons_succ]
        refine wpAnyH_take (i := 1) (v := ?_) (by simp only [List.getElem?_toArray, List.getElem?_cons_succ, List.getElem?_cons_zero]; rfl) (by kernel_rfl) (by kernel_rfl) (by kernel_rfl) (by intro _ _ _ h; exact h) (Or.inl ⟨by rfl, ?_⟩) (by assumption) ?_
        rotate_left
        focus (intro wT hT; (try dsimp only at hT); go_simp; try with_reducible rfl)
        try simp only [Act.put, List.setIfInBounds_toArray, List.set_cons_zero, List.set_cons_succ]
        refine wpAnyH_take (i := 4) (v := ?_) (by simp only [List.getElem?_toArray, List.getElem?_cons_succ, List.getElem?_cons_zero]; rfl) (by kernel_rfl) (by kernel_rfl) (by kernel_rfl) (by intro _ _ _ h; exact h) (Or.inl ⟨by rfl, ?_⟩) (by assumption) ?_
        rotate_left
        focus (intro wT hT; (try dsimp only at hT); go_simp; try with_reducible rfl)
        try simp only [Act.put, List.setIfInBounds_toArray, List.set_cons_zero, List.set_cons_succ]
        refine wpAnyH_take (i := 5) (v := ?_) (by simp only [List.getElem?_toArray, List.getElem?_cons_succ, List.getElem?_cons_zero]; rfl) (by kernel_rfl) (by kernel_rfl) (by kernel_rfl) (by intro _ _ _ h; exact h) (Or.inl ⟨by rfl, ?_⟩) (by assumption) ?_
        rotate_left
        focus (intro wT hT; (try dsimp only at hT); go_simp; try with_reducible rfl)
        try simp only [Act.put, List.setIfInBounds_toArray, List.set_cons_zero, List.set_cons_succ]
        refine wpAnyH_ready (rs := [2]) (by kernel_rfl) (by simp) (AllReadyH.cons (by simp only [List.getElem?_toArray, List.getElem?_cons_succ, List.getElem?_cons_zero]; rfl) (fun K hK => ?_) AllReadyH.nil)
        go_simp
        go_at_call 28
        refine (HM1.out _ _ _ (HS1.out.older HB7.out) HTX7.out (HG.out.below HB7.out)).mono ?_
        rintro e y1 ⟨xa1, xc1, rfl, ho1, hy1⟩
        obtain ⟨g1, o1, rfl, hc1⟩ := own32 ho1
        have HB11 := Lib.hid (HB7.out.trans (hy1.mono HB7.out.size))
        have HX11 := Lib.hid (HX7.out.older hy1)
        have HT11 := Lib.hid (HTX7.out.older hy1)
        have HO1 := Lib.hid (show SrcAt y1 (.slice (some ⟨g1, o1, none⟩) 16 xc1) 16 (bvals ((hmacM mixM one T).take 16)) from srcTake (SrcAt.of ho1))
        have h161 : (16 : Int) ≤ (xc1 : Int) := (by omega)
        have h16n1 : 16 ≤ xc1 := (by omega)
        clear ho1
        go_wp2_with fail
        refine hK.out _ _ trivial (fun hHh1 => ?_)
        clear hK K
        try simp only [Act.put, List.setIfInBounds_toArray, List.set_cons_zero, List.set_cons_succ]
        refine wpAnyH_take (i := 3) (v := ?_) (by simp only [List.getElem?_toArray, List.getElem?_cons_succ, List.getElem?_cons_zero]; rfl) (by kernel_rfl) (by kernel_rfl) (by kernel_rfl) (by intro _ _ _ h; exact h) (Or.inl ⟨by rfl, ?_⟩) (by assumption) ?_
        rotate_left
        focus (intro wT hT; (try dsimp only at hT); go_simp; try with_reducible rfl)
        try simp only [Act.put, List.setIfInBounds_toArray, List.set_cons_zero, List.set_cons_succ]
        refine wpAnyH_ready (rs := [6]) (by kernel_rfl) (by simp) (AllReadyH.cons (by simp only [List.getElem?_toArray, List.getElem?_cons_succ, List.getElem?_cons_zero]; rfl) (fun K hK => ?_) AllReadyH.nil)
        go_simp
        go_at_call 28
        refine (HM2.out _ _ _ (HS2.out.older HB11.out) HT11.out (HG.out.below HB11.out)).mono ?_
        rintro e y2 ⟨xa2, xc2, rfl, ho2, hy2⟩
        obtain ⟨g2, o2, rfl, hc2⟩ := own32 ho2
        have HB12 := Lib.hid (HB11.out.trans (hy2.mono HB11.out.size))
        have HX12 := Lib.hid (HX11.out.older hy2)
        have HT12 := Lib.hid (HT11.out.older hy2)
        have HO2 := Lib.hid (show SrcAt y2 (.slice (some ⟨g2, o2, none⟩) 16 xc2) 16 (bvals ((hmacM mixM two T).take 16)) from srcTake (SrcAt.of ho2))
        have h162 : (16 : Int) ≤ (xc2 : Int) := (by omega)
        have h16n2 : 16 ≤ xc2 := (by omega)
        clear ho2
        go_wp2_with fail
        refine hK.out _ _ trivial (fun hHh2 => ?_)
        clear hK K
        try simp only [Act.put, List.setIfInBounds_toArray, List.set_cons_zero, List.set_cons_succ]
        have HO12 := Lib.hid (HO1.out.older hy2)
        refine wpAnyH_take (i := 7) (v := ?_) (by simp only [List.getElem?_toArray, List.getElem?_cons_succ, List.getElem?_cons_zero]; rfl) (by kernel_rfl) (by kernel_rfl) (by kernel_rfl) (by intro _ _ _ h; exact h) (Or.inl ⟨by rfl, ?_⟩) (by assumption) ?_
        rotate_left
        focus (intro wT hT; (try dsimp only at hT); go_simp; try with_reducible rfl)
        try simp only [Act.put, List.setIfInBounds_toArray, List.set_cons_zero, List.set_cons_succ]
        refine wpAnyH_ready (rs := [8]) (by kernel_rfl) (by simp) (AllReadyH.cons (by simp only [List.getElem?_toArray, List.getElem?_cons_succ, List.getElem?_cons_zero]; rfl) (fun K hK => ?_) AllReadyH.nil)
        go_simp
        go_at_call 40
        refine (HBY.out _ _ _ _ _ _ _ HO12.out HO2.out).mono ?_
        rintro e y3 ⟨rfl, rfl⟩
        go_wp2_with fail
        refine hK.out _ _ trivial (fun hHi => ?_)
        clear hK K
        try simp only [Act.put, List.setIfInBounds_toArray, List.set_cons_zero, List.set_cons_succ]
        refine wpAnyH_take (i := 9) (v := ?_) (by simp only [List.getElem?_toArray, List.getElem?_cons_succ, List.getElem?_cons_zero]; rfl) (by kernel_rfl) (by kernel_rfl) (by kernel_rfl) (by intro _ _ _ h; exact h) (Or.inl ⟨by rfl, ?_⟩) (by assumption) ?_
        rotate_left
        focus (intro wT hT; (try dsimp only at hT); go_simp; try with_reducible rfl)
        try simp only [Act.put, List.setIfInBounds_toArray, List.set_cons_zero, List.set_cons_succ]
        refine wpAnyH_done (by kernel_rfl) ?_ _
        have x0 := HX12.out.cell (i := 0) rfl
        have x1 := HX12.out.cell (i := 1) rfl
        have x2 := HX12.out.cell (i := 2) rfl
        have x3 := HX12.out.cell (i := 3) rfl
        have hxz := HX12.out.lt
        go_wp2_with fail
        refine (HVR.out _ (HG.out.below HB12.out) (HS2.out.older HB12.out)).mono ?_
        rintro e w8 ⟨rfl, hb8⟩
        have HB8 := Lib.hid (HB12.out.trans (hb8.mono HB12.out.size))
        clear hb8 x0 x1 x2 x3 hxz
        go_wp2_with fail
        go_ret
        exact ⟨rfl, HB8.out.alloc HB8.out.size _⟩
      · have hsm : decide (sigM mixM two T = sigM mixM one T) = false := decide_eq_false hsq
        have hvc : verC ⟨sh, sp, sq, sb⟩ two true 2 = 14 := by rw [HVC.out, if_neg (by decide), if_pos hsq]
        have HVR : Hid (∀ wz, SgnAt wz → SrcAt wz (.slice ta two.length tc) two.length (bvals two) → Calls Tryz.prog 38 #[adV ⟨sh, sp, sq, sb⟩, .slice ta two.length tc, .bool true, .int .i64 2] wz fun e w' => e = .returned (.tuple #[adV ⟨vh, vp, vq, vb⟩, errV 14]) ∧ Below wz.heap.size wz w') := Lib.hid (fun wz h1 h2 => by have h9 := HVER.out wz h1 h2; rw [errC_at hvc (by decide)] at h9; exact h9)
        rw [hsm] at HBY
        clear hsq hsm hvc HVC
        refine wp_region_held_drew (S := fun _ => True) (by kernel_rfl) (by exact trivial) (fun hHeld => ?_)
        obtain ⟨wd, hwd⟩ : ∃ z, w6.drew = z := ⟨_, rfl⟩
        rw [hwd] at HB7 HX7 HTX7 ⊢
        clear hwd
        refine wpAnyH_take (i := 0) (v := ?_) (by simp only [List.getElem?_toArray, List.getElem?_cons_succ, List.getElem?_cons_zero]; rfl) (by kernel_rfl) (by kernel_rfl) (by kernel_rfl) (by intro _ _ _ h; exact h) (Or.inl ⟨by rfl, ?_⟩) (by assumption) ?_
        rotate_left
        focus (intro wT hT; (try dsimp only at hT); go_simp; try with_reducible rfl)
        try simp only [Act.put, List.setIfInBounds_toArray, List.set_cons_zero, List.set_cons_succ]
        refine wpAnyH_take (i := 1) (v := ?_) (by simp only [List.getElem?_toArray, List.getElem?_cons_succ, List.getElem?_cons_zero]; rfl) (by kernel_rfl) (by kernel_rfl) (by kernel_rfl) (by intro _ _ _ h; exact h) (Or.inl ⟨by rfl, ?_⟩) (by assumption) ?_
        rotate_left
        focus (intro wT hT; (try dsimp only at hT); go_simp; try with_reducible rfl)
        try simp only [Act.put, List.setIfInBounds_toArray, List.set_cons_zero, List.set_cons_succ]
        refine wpAnyH_take (i := 4) (v := ?_) (by simp only [List.getElem?_toArray, List.getElem?_cons_succ, List.getElem?_cons_zero]; rfl) (by kernel_rfl) (by kernel_rfl) (by kernel_rfl) (by intro _ _ _ h; exact h) (Or.inl ⟨by rfl, ?_⟩) (by assumption) ?_
        rotate_left
        focus (intro wT hT; (try dsimp only at hT); go_simp; try with_reducible rfl)
        try simp only [Act.put, List.setIfInBounds_toArray, List.set_cons_zero, List.set_cons_succ]
        refine wpAnyH_take (i := 5) (v := ?_) (by simp only [List.getElem?_toArray, List.getElem?_cons_succ, List.getElem?_cons_zero]; rfl) (by kernel_rfl) (by kernel_rfl) (by kernel_rfl) (by intro _ _ _ h; exact h) (Or.inl ⟨by rfl, ?_⟩) (by assumption) ?_
        rotate_left
        focus (intro wT hT; (try dsimp only at hT); go_simp; try with_reducible rfl)
        try simp only [Act.put, List.setIfInBounds_toArray, List.set_cons_zero, List.set_cons_succ]
        refine wpAnyH_ready (rs := [2]) (by kernel_rfl) (by simp) (AllReadyH.cons (by simp only [List.getElem?_toArray, List.getElem?_cons_succ, List.getElem?_cons_zero]; rfl) (fun K hK => ?_) AllReadyH.nil)
        go_simp
        go_at_call 28
        refine (HM1.out _ _ _ (HS1.out.older HB7.out) HTX7.out (HG.out.below HB7.out)).mono ?_
        rintro e y1 ⟨xa1, xc1, rfl, ho1, hy1⟩
        obtain ⟨g1, o1, rfl, hc1⟩ := own32 ho1
        have HB11 := Lib.hid (HB7.out.trans (hy1.mono HB7.out.size))
        have HX11 := Lib.hid (HX7.out.older hy1)
        have HT11 := Lib.hid (HTX7.out.older hy1)
        have HO1 := Lib.hid (show SrcAt y1 (.slice (some ⟨g1, o1, none⟩) 16 xc1) 16 (bvals ((hmacM mixM one T).take 16)) from srcTake (SrcAt.of ho1))
        have h161 : (16 : Int) ≤ (xc1 : Int) := (by omega)
        have h16n1 : 16 ≤ xc1 := (by omega)
        clear ho1
        go_wp2_with fail
        refine hK.out _ _ trivial (fun hHh1 => ?_)
        clear hK K
        try simp only [Act.put, List.setIfInBounds_toArray, List.set_cons_zero, List.set_cons_succ]
        refine wpAnyH_take (i := 3) (v := ?_) (by simp only [List.getElem?_toArray, List.getElem?_cons_succ, List.getElem?_cons_zero]; rfl) (by kernel_rfl) (by kernel_rfl) (by kernel_rfl) (by intro _ _ _ h; exact h) (Or.inl ⟨by rfl, ?_⟩) (by assumption) ?_
        rotate_left
        focus (intro wT hT; (try dsimp only at hT); go_simp; try with_reducible rfl)
        try simp only [Act.put, List.setIfInBounds_toArray, List.set_cons_zero, List.set_cons_succ]
        refine wpAnyH_ready (rs := [6]) (by kernel_rfl) (by simp) (AllReadyH.cons (by simp only [List.getElem?_toArray, List.getElem?_cons_succ, List.getElem?_cons_zero]; rfl) (fun K hK => ?_) AllReadyH.nil)
        go_simp
        go_at_call 28
        refine (HM2.out _ _ _ (HS2.out.older HB11.out) HT11.out (HG.out.below HB11.out)).mono ?_
        rintro e y2 ⟨xa2, xc2, rfl, ho2, hy2⟩
        obtain ⟨g2, o2, rfl, hc2⟩ := own32 ho2
        have HB12 := Lib.hid (HB11.out.trans (hy2.mono HB11.out.size))
        have HX12 := Lib.hid (HX11.out.older hy2)
        have HT12 := Lib.hid (HT11.out.older hy2)
        have HO2 := Lib.hid (show SrcAt y2 (.slice (some ⟨g2, o2, none⟩) 16 xc2) 16 (bvals ((hmacM mixM two T).take 16)) from srcTake (SrcAt.of ho2))
        have h162 : (16 : Int) ≤ (xc2 : Int) := (by omega)
        have h16n2 : 16 ≤ xc2 := (by omega)
        clear ho2
        go_wp2_with fail
        refine hK.out _ _ trivial (fun hHh2 => ?_)
        clear hK K
        try simp only [Act.put, List.setIfInBounds_toArray, List.set_cons_zero, List.set_cons_succ]
        have HO12 := Lib.hid (HO1.out.older hy2)
        refine wpAnyH_take (i := 7) (v := ?_) (by simp only [List.getElem?_toArray, List.getElem?_cons_succ, List.getElem?_cons_zero]; rfl) (by kernel_rfl) (by kernel_rfl) (by kernel_rfl) (by intro _ _ _ h; exact h) (Or.inl ⟨by rfl, ?_⟩) (by assumption) ?_
        rotate_left
        focus (intro wT hT; (try dsimp only at hT); go_simp; try with_reducible rfl)
        try simp only [Act.put, List.setIfInBounds_toArray, List.set_cons_zero, List.set_cons_succ]
        refine wpAnyH_ready (rs := [8]) (by kernel_rfl) (by simp) (AllReadyH.cons (by simp only [List.getElem?_toArray, List.getElem?_cons_succ, List.getElem?_cons_zero]; rfl) (fun K hK => ?_) AllReadyH.nil)
        go_simp
        go_at_call 40
        refine (HBY.out _ _ _ _ _ _ _ HO12.out HO2.out).mono ?_
        rintro e y3 ⟨rfl, rfl⟩
        go_wp2_with fail
        refine hK.out _ _ trivial (fun hHi => ?_)
        clear hK K
        try simp only [Act.put, List.setIfInBounds_toArray, List.set_cons_zero, List.set_cons_succ]
        refine wpAnyH_take (i := 9) (v := ?_) (by simp only [List.getElem?_toArray, List.getElem?_cons_succ, List.getElem?_cons_zero]; rfl) (by kernel_rfl) (by kernel_rfl) (by kernel_rfl) (by intro _ _ _ h; exact h) (Or.inl ⟨by rfl, ?_⟩) (by assumption) ?_
        rotate_left
        focus (intro wT hT; (try dsimp only at hT); go_simp; try with_reducible rfl)
        try simp only [Act.put, List.setIfInBounds_toArray, List.set_cons_zero, List.set_cons_succ]
        refine wpAnyH_done (by kernel_rfl) ?_ _
        have x0 := HX12.out.cell (i := 0) rfl
        have x1 := HX12.out.cell (i := 1) rfl
        have x2 := HX12.out.cell (i := 2) rfl
        have x3 := HX12.out.cell (i := 3) rfl
        have hxz := HX12.out.lt
        go_wp2_with fail
        refine (HVR.out _ (HG.out.below HB12.out) (HS2.out.older HB12.out)).mono ?_
        rintro e w8 ⟨rfl, hb8⟩
        have HB8 := Lib.hid (HB12.out.trans (hb8.mono HB12.out.size))
        clear hb8 x0 x1 x2 x3 hxz
        go_wp2_with (go_at_call 18; refine (is_err 14 _ (by decide)).mono ?_; rintro e w' ⟨rfl, rfl⟩)
        go_ret
        exact ⟨rfl, HB8.out.alloc HB8.out.size _⟩
    · obtain ⟨n, hn⟩ : ∃ z, checkS ⟨h, p, q, b⟩ tk1 = z := ⟨_, rfl⟩
      rw [show signA ⟨h, p, q, b⟩ tk1 one = ⟨[], [], [], false⟩ from if_neg hck, show Sg.errC (checkS ⟨h, p, q, b⟩ tk1) = errV n from by rw [hn]; exact if_neg (by rw [← hn]; exact hck)] at HSG0
      have HSGN := Lib.hid HSG0
      clear HSG0 hck hn
      go_wp2_with fail
      refine (HSGN.out _ (HG.out.below HB3.out) (HS1.out.older HB3.out)).mono ?_
      rintro e w4 ⟨rfl, hb4⟩
      have HB4 := Lib.hid ((HB3.out.trans (hb4.mono HB3.out.size)).alloc (by have := HB3.out.size; have := hb4.size; omega) (.cells #[.string ⟨#[]⟩, .string ⟨#[]⟩, .string ⟨#[]⟩, .bool false] 27))
      clear hb4
      go_wp2_with fail
      go_ret
      exact ⟨rfl, HB4.out⟩
  · go_wp2_with fail
    refine (short_no ⟨h, p, q, b⟩ (some ⟨w1.heap.size, 0, none⟩) 2 [one.length, two.length] (w1.alloc (.cells #[.int .i64 (one.length : Int), .int .i64 (two.length : Int)] 3)) (nvals_src w1 [one.length, two.length] 2) (by simp) (fun n hn => by simp at hn; omega) (by simp only; omega) (by simp only; omega) (by simp only; omega) (by simp only [List.sum_cons, List.sum_nil, Nat.add_zero]; exact hs)).mono ?_
    rintro e w2 ⟨rfl, hb2⟩
    have HB2 := Lib.hid ((HB1.out.alloc HB1.out.size (.cells #[.int .i64 (one.length : Int), .int .i64 (two.length : Int)] 3)).trans (hb2.mono (by have := HB1.out.size; simp; omega)))
    clear hb2 c0 c1 c2 c3 hz
    go_wp2_with fail
    refine (awake49_any _ (HG.out.below HB2.out)).mono ?_
    rintro e w3 ⟨rfl, hb3⟩
    have HB3 := Lib.hid (HB2.out.trans (hb3.mono HB2.out.size))
    clear hb3
    go_wp2_with fail
    go_ret
    exact ⟨rfl, HB3.out⟩

/-- What the walk gives, for every argument. -/
theorem contract (H : Type) (enc : TypeId × Value → H) (W : World) (base : Nat) (args : Array Value) (ds gs : List (DataW H)) (before : List MemPlace)
    (hval : ∀ (j : Nat) t v, Tryz.f8.params[j]? = some t → args[j]? = some v → Value.okWide Tryz.prog W .any base t v)
    (hW : DataW.Whole enc Tryz.prog Tryz.f8.params.toList Rows.signedSecretsSpec.vars false W args.toList ds gs before) (hsz : (DataW.weightsEach Tryz.prog Tryz.f8.params.toList (ds ++ gs)).all (· ≤ reachBytes) = true) (hr : Sg.SgnAt W) :
    Calls Tryz.prog 8 args W fun e W' => ∃ v, e = .returned v ∧ Rows.signedSecretsSpec.post enc Tryz.prog Tryz.f8 false true false false W args v W' := by
  have hW' := hW
  have hlt := fun p hp => hW.lt p hp
  obtain ⟨p, q, hA0, hV, rfl, hfz, hnd⟩ := hW
  have hA : DataW.TrodAll enc Tryz.prog W 0 (fun _ => true) true Tryz.f8.params.toList args.toList ds p := hA0
  have hA1 := hA
  obtain ⟨rfl, rfl⟩ := trodVars_none hV
  rw [Tryz.params8] at hA hval
  obtain ⟨v0, vs0, d0, ds0, p0, q0, hargs, rfl, rfl, h0, r0⟩ := trodAll_cons hA
  obtain ⟨v1, vs1, d1, ds1, p1, q1, rfl, rfl, rfl, h1, r1⟩ := trodAll_cons r0
  obtain ⟨v2, vs2, d2, ds2, p2, q2, rfl, rfl, rfl, h2, r2⟩ := trodAll_cons r1
  obtain ⟨rfl, rfl, rfl⟩ := trodAll_nil r2
  obtain rfl : args = #[v0, v1, v2] := by cases args; simp_all
  have fin : ∀ W', Below W.heap.size W W' → Rows.signedSecretsSpec.post enc Tryz.prog Tryz.f8 false true false false W #[v0, v1, v2] (.bool true) W' := fun W' hb => by
    simp only [List.append_nil] at hA1 hW' hlt
    exact ⟨_, _, _, [], _, [], hW', trodAll_cons_mk (shut_bool Tryz.underlying4 _) trodAll_mk0, Fr.trodAll_below (by kernel_rfl) _ (by kernel_rfl) hA1 hb hlt, rfl, hb.frame _, fun h => by cases h⟩
  clear hW' hA0 hA1 hlt
  rw [Tryz.params8, List.append_nil] at hsz
  obtain ⟨c0, c1, c2, c3, y0, y1, y2, y3, m, rfl, rfl, rfl, hy0, hy1, hy2, hy3⟩ := Go.Joins.open_agg4 Tryz.underlying62 (by kernel_rfl) (show Tryz.prog.cellsOf 62 = 4 by kernel_rfl) (hval 0 62 v0 rfl rfl) h0
  obtain ⟨s0_0, e0, rfl, hs0_0⟩ := DataW.trod_string Tryz.underlying9 hy0
  obtain ⟨s0_1, e1, rfl, hs0_1⟩ := DataW.trod_string Tryz.underlying9 hy1
  obtain ⟨s0_2, e2, rfl, hs0_2⟩ := DataW.trod_string Tryz.underlying9 hy2
  obtain ⟨b0, e3, rfl⟩ := DataW.trod_bool Tryz.underlying4 hy3
  simp only [List.cons.injEq, and_true] at e0 e1 e2 e3
  subst e0 e1 e2 e3
  obtain ⟨⟨l0_0⟩⟩ := s0_0
  obtain ⟨⟨l0_1⟩⟩ := s0_1
  obtain ⟨⟨l0_2⟩⟩ := s0_2
  have z0 : l0_0.length ≤ 140737488351232 ∧ l0_1.length ≤ 140737488351232 ∧ l0_2.length ≤ 140737488351232 := Fr.sized_adr hsz (j := 0) rfl rfl Tryz.underlying62
  obtain ⟨ua1, ul1, uc1, rfl⟩ := okWide_slice Tryz.underlying45 (hval 1 45 v1 rfl rfl)
  obtain ⟨fu1, hf1⟩ := h1
  obtain ⟨xs1, hx1, hd1⟩ := Sg.open_bytes hf1
  have hl1 : xs1.length ≤ 140737488351232 := Sg.bytes_len hsz (j := 1) rfl rfl hd1
  obtain ⟨ua2, ul2, uc2, rfl⟩ := okWide_slice Tryz.underlying45 (hval 2 45 v2 rfl rfl)
  obtain ⟨fu2, hf2⟩ := h2
  obtain ⟨xs2, hx2, hd2⟩ := Sg.open_bytes hf2
  have hl2 : xs2.length ≤ 140737488351232 := Sg.bytes_len hsz (j := 2) rfl rfl hd2
  refine (walk l0_0 l0_1 l0_2 b0 xs1 (.slice ua1 ul1 uc1) xs2 (.slice ua2 ul2 uc2) W hr z0.1 z0.2.1 z0.2.2 hx1 hl1 hx2 hl2).mono fun e W' ⟨he, hb⟩ => ?_
  subst he
  exact ⟨_, rfl, fin W' hb⟩

theorem laid_met (os : Os) : laidMet Tryz.prog Rows.signedSecretsRow.laid ((Fr.laidE Rows.signedSecretsRow.laid os).forCall (fun _ _ => 0) ⟨#[], #[.agg #[.string ⟨#[]⟩, .string ⟨#[]⟩, .string ⟨#[]⟩, .bool false], .slice none 0 0, .slice none 0 0], []⟩).memory :=
  laidMet_of_run' 8 (by kernel_rfl) (by kernel_rfl)
theorem reads (os : Os) {H : Type} (enc : TypeId × Value → H) : ∃ places, DataW.whole enc Tryz.prog ((Fr.laidE Rows.signedSecretsRow.laid os).forCall (fun _ _ => 0) ⟨#[], #[.agg #[.string ⟨#[]⟩, .string ⟨#[]⟩, .string ⟨#[]⟩, .bool false], .slice none 0 0, .slice none 0 0], []⟩).memory Tryz.f8.params.toList Rows.signedSecretsSpec.vars false (#[.agg #[.string ⟨#[]⟩, .string ⟨#[]⟩, .string ⟨#[]⟩, .bool false], .slice none 0 0, .slice none 0 0] : Array Value).toList 8 = some ([.agg [.lit (.string []), .lit (.string []), .lit (.string []), .lit (.bool false)], .nil, .nil], [], places) :=
  ⟨[], by kernel_rfl⟩

theorem lifted (os : Os) (started : os.Started) (H : Type) (enc : TypeId × Value → H) (F : Stop.Interp) :
    ReturnsInHanded {} Tryz.checked os 8 .any ((OpenSpec.ofChange Rows.signedSecretsSpec).preRow enc Tryz.prog Tryz.f8 Rows.signedSecretsRow.domain false Rows.signedSecretsRow.laid) (((OpenSpec.ofChange Rows.signedSecretsSpec).at F).post enc Tryz.prog Tryz.f8 false true false false) := by
  obtain ⟨places, hx⟩ := reads os enc
  refine returnsInHanded_of_row (C := Tryz.checked) (s := OpenSpec.ofChange Rows.signedSecretsSpec) Fr.own started (by kernel_rfl) Tryz.func8
    (witness_row_at (enc := enc) (C := Tryz.checked) false (Fr.laidE Rows.signedSecretsRow.laid os) #[.agg #[.string ⟨#[]⟩, .string ⟨#[]⟩, .string ⟨#[]⟩, .bool false], .slice none 0 0, .slice none 0 0] rfl (by kernel_rfl) (by kernel_rfl) (by kernel_rfl)
      (OpenSpec.preRow_of_cond 8 hx (by kernel_rfl) (fun k hk => by cases hk) (by kernel_rfl) (laid_met os))) ?_
  intro W base args ds gs before hval hW _ hcond hsz hlaid hsh _
  exact contract H enc W base args ds gs before hval hW (by have h9 : (DataW.weightsEach Tryz.prog (Tryz.f8.params.toList ++ []) (ds ++ gs)).all (· ≤ reachBytes) = true := hsz; rw [List.append_nil] at h9; exact h9) (Fr.sgn_laid hsh hlaid (by kernel_rfl) (by repeat first | exact List.mem_cons_self .. | apply List.mem_cons_of_mem) (by repeat first | exact List.mem_cons_self .. | apply List.mem_cons_of_mem) (by repeat first | exact List.mem_cons_self .. | apply List.mem_cons_of_mem) (by repeat first | exact List.mem_cons_self .. | apply List.mem_cons_of_mem))

theorem k_0 : Rows.signedSecretsRow.wf (OpenSpec.ofChange (OpenSpec.ofChange Rows.signedSecretsSpec).bare) = true := by kernel_rfl
theorem k_1 : laidOutB Tryz.prog = true := Fr.sf_laidOut
theorem k_2 : mapsRowed Tryz.prog = true := Fr.sf_mapsRowed
theorem k_3 : Tryz.f8.params.all (Tryz.prog.readableRec ·) = true := by kernel_rfl
theorem k_4 : namedTie Tryz.prog Rows.signedSecretsRow.named (OpenSpec.ofChange Rows.signedSecretsSpec).bare.vars = true := by kernel_rfl
theorem k_5 : (Rows.signedSecretsRow.stops == []) = true := by kernel_rfl
theorem k_6 : (Tryz.prog.stops == []) = true := Fr.sf_stops
theorem k_7 : (Rows.signedSecretsRow.knobs == []) = true := by kernel_rfl
theorem k_8 : (Tryz.prog.stopKnobs == []) = true := Fr.sf_stopKnobs
theorem k_9 : (Rows.signedSecretsRow.inPlace == Tryz.prog.inPlace 8) = true := by kernel_rfl
theorem k_10 : (Rows.signedSecretsRow.unfollowed == Tryz.prog.unfollowed 8) = true := by kernel_rfl
theorem k_11 : (Rows.signedSecretsRow.recurses == Tryz.prog.recurses 8) = true := by kernel_rfl
theorem k_12 : (Rows.signedSecretsRow.named == Tryz.prog.varsNamed 8) = true := by kernel_rfl
theorem k_13 : (Rows.signedSecretsRow.maps == (Tryz.f8.params.toList ++ (OpenSpec.ofChange Rows.signedSecretsSpec).bare.plain.varTypes Tryz.prog).any (Tryz.prog.mapsRec ·)) = true := by kernel_rfl
theorem k_14 : (Rows.signedSecretsRow.ifaces == (Tryz.f8.params.toList ++ (OpenSpec.ofChange Rows.signedSecretsSpec).bare.plain.varTypes Tryz.prog).any (Tryz.prog.ifacesRec ·)) = true := by kernel_rfl
theorem k_15 : (Rows.signedSecretsRow.mapsOut == Tryz.prog.mapsAmong Tryz.f8.resultTypes.toList) = true := by kernel_rfl
theorem k_16 : (Rows.signedSecretsRow.loops == (Tryz.f8.params.toList ++ (OpenSpec.ofChange Rows.signedSecretsSpec).bare.plain.varTypes Tryz.prog).any (Tryz.prog.loopsFrom ·)) = true := by kernel_rfl
theorem k_17 : (Rows.signedSecretsRow.wideKeys == (Tryz.f8.params.toList ++ (OpenSpec.ofChange Rows.signedSecretsSpec).bare.plain.varTypes Tryz.prog ++ Tryz.f8.resultTypes.toList).any (Tryz.prog.wideKeysFrom ·)) = true := by kernel_rfl
theorem k_18 : (OpenSpec.ofChange Rows.signedSecretsSpec).bare.vars.all (Tryz.prog.varReadable ·) = true := by kernel_rfl
theorem k_19 : Tryz.f8.resultTypes.all (fun t => Tryz.prog.readableRec t && decide (t < Tryz.prog.types.size)) = true := by kernel_rfl
theorem k_20 : (Rows.signedSecretsRow.ifacesOut == Tryz.f8.resultTypes.toList.any (Tryz.prog.ifacesRec ·)) = true := by kernel_rfl
theorem k_21 : (Rows.signedSecretsRow.loopsOut == Tryz.f8.resultTypes.toList.any (Tryz.prog.loopsFrom ·)) = true := by kernel_rfl
theorem k_22 : (Rows.signedSecretsRow.plainKeys == Tryz.prog.plainKeys) = true := Fr.sf_plainKeys
theorem k_23 : Rows.signedSecretsRow.shortTexts.isNone = true := by kernel_rfl
theorem k_24 : Tryz.prog.stopsHeard = true := Fr.sf_heard
theorem k_25 : Tryz.prog.mayEnter = true := Fr.sf_mayEnter
theorem k_26 : (Rows.signedSecretsRow.lifted == Tryz.prog.liftsFinal) = true := Fr.sf_lifted
theorem k_27 : (Tryz.prog.make == some Rows.signedSecretsRow.make) = true := Fr.sf_make
theorem k_28 : (Rows.signedSecretsRow.kinds == (if Rows.signedSecretsRow.domain.isEmpty then [] else Tryz.f8.params.toList.map fun t => match Tryz.prog.underlying t with | some (.int k) => some k | _ => none)) = true := by kernel_rfl
theorem k_29 : (Rows.signedSecretsRow.pinned == Rows.signedSecretsRow.pinnedBy) = true := by kernel_rfl
theorem k_30 : (Rows.signedSecretsRow.veiled == (Tryz.f8.params.toList ++ (OpenSpec.ofChange Rows.signedSecretsSpec).bare.plain.varTypes Tryz.prog ++ Tryz.f8.resultTypes.toList).any (Tryz.prog.veiledRec ·)) = true := by kernel_rfl
theorem k_31 : Rows.signedSecretsRow.veiledFits Tryz.prog Tryz.f8.params.toList (Tryz.f8.params.toList ++ (OpenSpec.ofChange Rows.signedSecretsSpec).bare.plain.varTypes Tryz.prog ++ Tryz.f8.resultTypes.toList) = true := by kernel_rfl
theorem closed : joinedFacts Tryz.prog 8 Tryz.f8 (OpenSpec.ofChange Rows.signedSecretsSpec).bare Rows.signedSecretsRow = true := Op.andT (Op.andT (Op.andT (Op.andT (Op.andT (Op.andT (Op.andT (Op.andT (Op.andT (Op.andT (Op.andT (Op.andT (Op.andT (Op.andT (Op.andT (Op.andT (Op.andT (Op.andT (Op.andT (Op.andT (Op.andT (Op.andT (Op.andT (Op.andT (Op.andT (Op.andT (Op.andT (Op.andT (Op.andT (Op.andT (Op.andT (k_0) k_1) k_2) k_3) k_4) k_5) k_6) k_7) k_8) k_9) k_10) k_11) k_12) k_13) k_14) k_15) k_16) k_17) k_18) k_19) k_20) k_21) k_22) k_23) k_24) k_25) k_26) k_27) k_28) k_29) k_30) k_31

theorem said : Rows.SignedSecretsSaid :=
  OpenClaim.holds_of_cond 8 Tryz.f8 rfl rfl rfl rfl rfl rfl rfl ⟨rfl, rfl, rfl, rfl, rfl⟩ rfl rfl rfl rfl rfl (by kernel_rfl) Tryz.func8 closed
    (of_decide_eq_true (by kernel_rfl)) (by unfold Func.isWrapper; first | (rw [if_pos (by decide +kernel)]; kernel_rfl) | (rw [if_neg (by decide +kernel)]; exact ⟨rfl, rfl⟩))
    (fun os started H enc _ F => by rw [OpenClaim.pre_eq_preRow]; exact lifted os started H enc F)

theorem plain (b : Bool) (hb : b = Tryz.pinned.checked.prog.looks []) (f : FuncId) (fn : Func) (hf : Tryz.pinned.checked.prog.funcNamed "quayside/quaysidelaw49.SignedSecrets" = some f) (hfn : Tryz.pinned.checked.prog.funcs[f]? = some fn) :
    b = Tryz.pinned.checked.prog.looks [] ∧ ∀ (j : Nat) t, fn.params[j]? = some t → Tryz.pinned.checked.prog.wantsStandIn t = false := by
  obtain rfl : f = 8 := Option.some.inj ((show Tryz.prog.funcNamed "quayside/quaysidelaw49.SignedSecrets" = some 8 by kernel_rfl).symm.trans hf) |>.symm
  obtain rfl : fn = Tryz.f8 := (Option.some.inj (Tryz.func8.symm.trans hfn)).symm
  refine ⟨hb, fun j t ht => ?_⟩
  rw [Tryz.params8] at ht
  have hm : t ∈ [62, 45] := by simpa using Array.mem_of_getElem? ht
  have hall : ([62, 45].all fun u => !Tryz.prog.wantsStandIn u) = true := by kernel_rfl
  exact (show Tryz.prog.wantsStandIn t = false by simpa using List.all_eq_true.1 hall t hm)

theorem proved : Rows.SignedSecretsCardSaid :=
  Claim7.holds_tied_plain_at .later [] _ _ _ _ said (fun _ h => by cases h) (by kernel_rfl) (fun _ h => by cases h) signedSecrets_row_tie rfl ⟨rfl, rfl⟩ (by kernel_rfl) rfl (plain _ (by kernel_rfl)) (by kernel_rfl)
#print axioms proved
end Go.Proofs.YtpmhkkjecapbeaaGreatDoor.lawSignedSecrets
