/- PROVED: SignedForgeries returns true for every input and leaves its arguments as they were. No condition beyond the statement's own (the listed variables read as the program's text lays them, which the card ties). -/
import Derived.Deep.RegionHeld3
import Derived.OrdersHeld
import Derived.Test.YtpmhkkjecapbeaaGreatDoorPkG
import Derived.Test.YtpmhkkjecapbeaaGreatDoorPkI
import Derived.Test.YtpmhkkjecapbeaaGreatDoorPkQ
import Derived.Test.YtpmhkkjecapbeaaGreatDoorPkU
import Derived.Test.YtpmhkkjecapbeaaGreatDoorPkW
import Derived.Test.YtpmhkkjecapbeaaGreatDoorPkY
namespace Go.Proofs.YtpmhkkjecapbeaaGreatDoor.lawSignedForgeries
open Go.ChangeShapes Go.WideShapes Go.ChangeAt Go.RowKit Pl Ad
open Go.ChangeMaps (open_string shut_string)
attribute [local go_sem] ba_get ba_append ba_extract_end ba_extract_zero ba_extract conv_one
set_option maxRecDepth 100000
set_option maxHeartbeats 4000000
set_option linter.unusedVariables false
set_option linter.unusedSimpArgs false
open Sg Dg Kr A1
attribute [local go_sem] guard_pa guard_ra guard_pt eql_ra eql_pt A1.conv_bytes conv_lit
attribute [-go_sem] run_eql_struct run_eqGuard_agg
/-- The token and the secret of the statement. -/
def tk2 : TokM := ⟨[107, 101, 121, 49], 1000, 900000⟩
def sec2 : Bs := [97, 110, 111, 116, 104, 101, 114, 32, 115, 101, 99, 114, 101, 116, 32, 111, 102, 32, 50, 54, 32, 98, 121, 116, 101, 115]
theorem signed_len52 {a : Adr} {s : Bs} (hv : valid a = true) (hs : s.length = 32) : 44 ≤ (signed a tk2 s).text.length := by
  rw [signed_text, List.length_append, List.length_cons, List.length_append, hs, begun_text_len _ _ (valid_has hv)]
  show 44 ≤ a.text.length + 12 + 4 + _ + _ + _
  omega
theorem walk (h p q : Bs) (b : Bool) (at_ tob : Int) (w : World) (hg : Sg.SgnAt w) (z0 : h.length ≤ 140737488351232) (z1 : p.length ≤ 140737488351232) (z2 : q.length ≤ 140737488351232) (ha : 0 ≤ at_ ∧ at_ < 65536) (ht : 0 ≤ tob ∧ tob < 256) :
    Calls Tryz.prog 9 #[adV ⟨h, p, q, b⟩, .int .u16 at_, .int .u8 tob] w fun e w' => e = .returned (.bool true) ∧ Below w.heap.size w w' := by
  obtain ⟨ha0, ha1⟩ := ha
  obtain ⟨ht0, ht1⟩ := ht
  have HG := Lib.hid hg
  have HB0 := Lib.hid ((Below.refl w.heap.size w).alloc (Nat.le_refl _) (.cells #[.string ⟨h.toArray⟩, .string ⟨p.toArray⟩, .string ⟨q.toArray⟩, .bool b] 62))
  have HX0 := Lib.hid (Bx.new w 62 #[.string ⟨h.toArray⟩, .string ⟨p.toArray⟩, .string ⟨q.toArray⟩, .bool b])
  clear hg
  go_enter Tryz.func9, Tryz.ntmps9
  go_wp2_with fail
  refine (awake49_any _ (HG.out.below HB0.out)).mono ?_
  rintro e w1 ⟨rfl, hb1⟩
  have HB1 := Lib.hid (HB0.out.trans (hb1.mono HB0.out.size))
  have HX1 := Lib.hid (HX0.out.older hb1)
  clear hb1
  have c0 := HX1.out.cell (i := 0) rfl; have c1 := HX1.out.cell (i := 1) rfl; have c2 := HX1.out.cell (i := 2) rfl; have c3 := HX1.out.cell (i := 3) rfl; have cz := HX1.out.lt
  by_cases hs : h.length + p.length + q.length ≤ 3000
  · go_wp2_with fail
    refine (short_yes ⟨h, p, q, b⟩ none 0 [] _ (.inl ⟨rfl, rfl, rfl⟩) (by decide) (fun n hn => by cases hn) (by simp only; omega) (by simp only; omega) (by simp only; omega) (by simp only [List.sum_nil, Nat.add_zero]; exact hs)).mono ?_
    rintro e w2 ⟨rfl, hb2⟩
    have HB2 := Lib.hid (HB1.out.trans (hb2.mono HB1.out.size))
    have HX2 := Lib.hid (HX1.out.older hb2)
    clear hb2 c0 c1 c2 c3 cz
    have HBL := Lib.hid (HB2.out.alloc HB2.out.size (.cells #[.int .u8 97, .int .u8 110, .int .u8 111, .int .u8 116, .int .u8 104, .int .u8 101, .int .u8 114, .int .u8 32, .int .u8 115, .int .u8 101, .int .u8 99, .int .u8 114, .int .u8 101, .int .u8 116, .int .u8 32, .int .u8 111, .int .u8 102, .int .u8 32, .int .u8 50, .int .u8 54, .int .u8 32, .int .u8 98, .int .u8 121, .int .u8 116, .int .u8 101, .int .u8 115] 5 (26, 27)))
    have HXL := Lib.hid (HX2.out.older ((Below.refl _ _).alloc (Nat.le_refl _) (.cells #[.int .u8 97, .int .u8 110, .int .u8 111, .int .u8 116, .int .u8 104, .int .u8 101, .int .u8 114, .int .u8 32, .int .u8 115, .int .u8 101, .int .u8 99, .int .u8 114, .int .u8 101, .int .u8 116, .int .u8 32, .int .u8 111, .int .u8 102, .int .u8 32, .int .u8 50, .int .u8 54, .int .u8 32, .int .u8 98, .int .u8 121, .int .u8 116, .int .u8 101, .int .u8 115] 5 (26, 27))))
    have HSL := Lib.hid (show SrcAt (w2.alloc (.cells #[.int .u8 97, .int .u8 110, .int .u8 111, .int .u8 116, .int .u8 104, .int .u8 101, .int .u8 114, .int .u8 32, .int .u8 115, .int .u8 101, .int .u8 99, .int .u8 114, .int .u8 101, .int .u8 116, .int .u8 32, .int .u8 111, .int .u8 102, .int .u8 32, .int .u8 50, .int .u8 54, .int .u8 32, .int .u8 98, .int .u8 121, .int .u8 116, .int .u8 101, .int .u8 115] 5 (26, 27))) (.slice (some ⟨w2.heap.size, 0, none⟩) 26 26) 26 (bvals sec2) from src_lit w2 sec2 26 (26, 27))
    have c0 := HXL.out.cell (i := 0) rfl; have c1 := HXL.out.cell (i := 1) rfl; have c2 := HXL.out.cell (i := 2) rfl; have c3 := HXL.out.cell (i := 3) rfl; have cz := HXL.out.lt
    go_wp2_with fail
    obtain ⟨wl, hwl⟩ : ∃ z, w2.alloc (.cells #[.int .u8 97, .int .u8 110, .int .u8 111, .int .u8 116, .int .u8 104, .int .u8 101, .int .u8 114, .int .u8 32, .int .u8 115, .int .u8 101, .int .u8 99, .int .u8 114, .int .u8 101, .int .u8 116, .int .u8 32, .int .u8 111, .int .u8 102, .int .u8 32, .int .u8 50, .int .u8 54, .int .u8 32, .int .u8 98, .int .u8 121, .int .u8 116, .int .u8 101, .int .u8 115] 5 (26, 27)) = z := ⟨_, rfl⟩
    obtain ⟨gs, hgs⟩ : ∃ z, w2.heap.size = z := ⟨_, rfl⟩
    rw [hwl] at HBL HXL HSL ⊢
    rw [hgs] at HSL ⊢
    clear hwl hgs c0 c1 c2 c3 cz
    refine (of_any ⟨h, p, q, b⟩ _).mono ?_
    rintro e w3 ⟨rfl, hb3⟩
    have HB3 := Lib.hid (HBL.out.trans (hb3.mono HBL.out.size))
    have HS3 := Lib.hid (HSL.out.older hb3)
    clear hb3
    have HSG0 := fun wz hz hv => sign_any ⟨h, p, q, b⟩ tk2 (some ⟨gs, 0, none⟩) 26 sec2 wz hz hv (by simp only; omega) (by simp only; omega) (by simp only; omega) (by decide) (by decide)
    rw [show sec2.length = 26 from rfl] at HSG0
    by_cases hck : checkS ⟨h, p, q, b⟩ tk2 = 0
    · have hsa : signA ⟨h, p, q, b⟩ tk2 sec2 = signed ⟨h, p, q, b⟩ tk2 (sigM mixM sec2 (Ad.begun ⟨h, p, q, b⟩ tk2).text) := if_pos hck
      rw [Sg.errC_ok hck, hsa] at HSG0
      have hvd := signed_valid hck (sigM_hex mixM sec2 (Ad.begun ⟨h, p, q, b⟩ tk2).text)
      have hln := signed_len52 (checkS_ok.1 hck).1 (sigM_len mixM sec2 (Ad.begun ⟨h, p, q, b⟩ tk2).text)
      generalize signed ⟨h, p, q, b⟩ tk2 (sigM mixM sec2 (Ad.begun ⟨h, p, q, b⟩ tk2).text) = sd at *
      have hlv := valid_lens hvd
      have hvl := valid_len hvd
      have HFMT0 := fun wz (hz : SgnAt wz) => format_yes sd wz hz.rdy (by omega) (by omega) (by omega) hvd
      obtain ⟨tx, htx⟩ : ∃ z, sd.text = z := ⟨_, rfl⟩
      rw [htx] at hln hvl HFMT0
      obtain ⟨sh, sp, sq, sb⟩ := sd
      have HSGN := Lib.hid HSG0
      have HFMT := Lib.hid HFMT0
      clear HSG0 HFMT0 hck hsa hvd hlv htx
      go_wp2_with fail
      refine (HSGN.out _ (HG.out.below HB3.out) HS3.out).mono ?_
      rintro e w4 ⟨rfl, hb4⟩
      have HB4 := Lib.hid ((HB3.out.trans (hb4.mono HB3.out.size)).alloc (by have := HB3.out.size; have := hb4.size; omega) (.cells #[.string ⟨sh.toArray⟩, .string ⟨sp.toArray⟩, .string ⟨sq.toArray⟩, .bool sb] 27))
      have HX4 := Lib.hid (Bx.new w4 27 #[.string ⟨sh.toArray⟩, .string ⟨sp.toArray⟩, .string ⟨sq.toArray⟩, .bool sb])
      have HS4 := Lib.hid ((HS3.out.older hb4).older ((Below.refl _ _).alloc (Nat.le_refl _) (.cells #[.string ⟨sh.toArray⟩, .string ⟨sp.toArray⟩, .string ⟨sq.toArray⟩, .bool sb] 27)))
      clear hb4
      go_wp2_with fail
      refine (HFMT.out _ (HG.out.below HB4.out)).mono ?_
      rintro e w5 ⟨rfl, hb5⟩
      have HB5 := Lib.hid (HB4.out.trans (hb5.mono HB4.out.size))
      have HS5 := Lib.hid (HS4.out.older hb5)
      clear hb5
      obtain ⟨a, haa⟩ : ∃ a : Nat, at_ = (a : Int) := ⟨at_.toNat, by omega⟩
      obtain ⟨t, htt⟩ : ∃ t : UInt8, ((t.toNat : Nat) : Int) = tob := ⟨UInt8.ofNat tob.toNat, by rw [UInt8.toNat_ofNat', Nat.mod_eq_of_lt (by omega)]; omega⟩
      subst haa
      obtain ⟨n, hn⟩ : ∃ n, tx.length = n + 44 := ⟨tx.length - 44, by omega⟩
      obtain ⟨k, hk⟩ : ∃ z, a % (n + 44) = z := ⟨_, rfl⟩
      have hkt : k < n + 44 := by rw [← hk]; exact Nat.mod_lt _ (by omega)
      have HKI := Lib.hid (show (a : Int) % ((n : Int) + 44) = (k : Int) by rw [← hk]; simp)
      have HYB := Lib.hid (A1.bytesAt_new w5 tx)
      have hni : ¬ ((n : Int) + 44 < 44) := by omega
      have HTT := Lib.hid htt
      have HKT := Lib.hid hkt
      have HLN := Lib.hid hln
      have HVL := Lib.hid hvl
      have hn9 : n ≤ 1024 := by omega
      have HN9 := Lib.hid hn9
      have hwr : wrap64 (a : Int) = (a : Int) := by unfold wrap64; omega
      have htm : Int.tmod (a : Int) ((n : Int) + 44) = (k : Int) := by rw [Int.tmod_eq_emod_of_nonneg (by omega)]; exact HKI.out
      clear htt hk hln hvl hkt ht0 ht1 ha0 ha1 hn9
      go_upto_region 12 with fail
      have HB6 := Lib.hid (HB5.out.trans ((A1.bworld_below w5 tx).mono HB5.out.size))
      have HBW := Lib.hid (A1.bworld_below w5 tx)
      obtain ⟨w6, hw6⟩ : ∃ z, A1.bworld w5 tx = z := ⟨_, rfl⟩
      obtain ⟨cp, hcp⟩ : ∃ z, A1.bcap w5 tx = z := ⟨_, rfl⟩
      have hcg : tx.length ≤ A1.bcap w5 tx := grownCap_ge w5 tx.length 0 5
      rw [hw6] at HYB HB6 HBW ⊢
      rw [hcp] at hcg ⊢
      rw [hn] at hcg
      clear hw6 hcp
      have HCP := Lib.hid (show k < tx.length by rw [hn]; exact HKT.out)
      have hcb := HYB.out.cell k HCP.out
      have hcf := HYB.out.frozen k HCP.out
      have hgz := World.block_lt_of_cell? w6 _ hcb
      have hkn : k < n + 44 := HKT.out
      by_cases hct : tx[k]'(HCP.out) = t
      · rw [hct, HTT.out] at hcb
        clear hct
        go_wp2_with fail
        go_ret
        exact ⟨rfl, HB6.out⟩
      · have hne : (((tx[k]'(HCP.out)).toNat : Int) == tob) = false := beq_eq_false_iff_ne.2 (fun h9 => hct (by rw [← HTT.out] at h9; exact UInt8.toNat_inj.1 (by omega)))
        generalize (tx[k]'(HCP.out)).toNat = cn at hcb hne
        have hy7 := HYB.out.set k HCP.out t tob HTT.out
        have hlt : (tx.set k t).length = n + 44 := by rw [List.length_set, hn]
        have hcv := hy7.conv cp
        obtain ⟨ty, hty⟩ : ∃ z, tx.set k t = z := ⟨_, rfl⟩
        rw [hty] at hy7 hlt hcv
        rw [hlt] at hcv
        have HB7 := Lib.hid (HB6.out.setCell (p := ⟨w5.heap.size, k, none⟩) HB5.out.size (.int .u8 tob))
        have HBX := Lib.hid (HBW.out.setCell (p := ⟨w5.heap.size, k, none⟩) (Nat.le_refl _) (.int .u8 tob))
        have HS7 := Lib.hid (HS5.out.older HBX.out)
        have HY7 := Lib.hid hy7
        clear hy7 hct hty
        go_wp2_with fail
        obtain ⟨w7, hw7⟩ : ∃ z, w6.setCell ⟨w5.heap.size, k, none⟩ (.int .u8 tob) = z := ⟨_, rfl⟩
        rw [hw7] at HB7 HS7 HY7 ⊢
        clear hw7 hcv hcb hcf hne
        obtain ⟨gb, hgb⟩ : ∃ z, w5.heap.size = z := ⟨_, rfl⟩
        rw [hgb] at HY7 ⊢
        clear hgb
        have hty9 : ty.length ≤ 2048 := by rw [hlt]; have := HN9.out; omega
        cases hrl : readL ty with
        | none =>
          refine (read_no ty _ (HG.out.below HB7.out).rdy (by omega) hrl).mono ?_
          rintro e w8 ⟨rfl, hb8⟩
          have HB8 := Lib.hid (HB7.out.trans (hb8.mono HB7.out.size))
          clear hb8 hrl
          go_wp2_with fail
          go_ret
          exact ⟨rfl, HB8.out.alloc HB8.out.size _⟩
        | some x =>
          have hxv := read_valid hrl
          have hxt := (readL_some hrl).2
          have hxl := valid_lens hxv
          refine (read_yes ty x _ (HG.out.below HB7.out).rdy (by omega) hrl).mono ?_
          rintro e w8 ⟨rfl, hb8⟩
          have HVE0 := fun wz hz hv => verify_any x (some ⟨gs, 0, none⟩) 26 sec2 true 5000 wz hz hv (by omega) (by omega) (by omega) (by decide)
          rw [show sec2.length = 26 from rfl] at HVE0
          have HRD0 := fun wz hz => read_any x wz hz (by omega) (by omega) (by omega)
          obtain ⟨va, hva⟩ : ∃ z, verA x sec2 true 5000 = z := ⟨_, rfl⟩
          rw [hva] at HVE0
          obtain ⟨vh, vp, vq, vb⟩ := va
          have HB8 := Lib.hid ((HB7.out.trans (hb8.mono HB7.out.size)).alloc (by have := HB7.out.size; have := hb8.size; omega) (.cells #[.string ⟨x.host.toArray⟩, .string ⟨x.path.toArray⟩, .string ⟨x.query.toArray⟩, .bool x.has] 27))
          have HX8 := Lib.hid (Bx.new w8 27 #[.string ⟨x.host.toArray⟩, .string ⟨x.path.toArray⟩, .string ⟨x.query.toArray⟩, .bool x.has])
          have HS8 := Lib.hid ((HS7.out.older hb8).older ((Below.refl _ _).alloc (Nat.le_refl _) (.cells #[.string ⟨x.host.toArray⟩, .string ⟨x.path.toArray⟩, .string ⟨x.query.toArray⟩, .bool x.has] 27)))
          have HT7 := Lib.hid (show SrcAt w7 (.slice (some ⟨gb, 0, none⟩) (n + 8) cp) (n + 8) (bvals (ty.take (n + 8))) from srcTake (n := ty.length) (bytesSrc HY7.out))
          have HT8 := Lib.hid ((HT7.out.older hb8).older ((Below.refl _ _).alloc (Nat.le_refl _) (.cells #[.string ⟨x.host.toArray⟩, .string ⟨x.path.toArray⟩, .string ⟨x.query.toArray⟩, .bool x.has] 27)))
          clear hb8 hrl hxv hxl hva
          cases hrs : readS x with
          | none =>
            have hvc := (verC_none (sec := sec2) (k := true) (n := 5000) hrs).1
            rw [hrs] at HRD0
            have HRD : Hid (∀ wz, SgnAt wz → Calls Tryz.prog 27 #[adV x] wz fun e w' => e = .returned (.tuple #[adZ, tkZ, .string ⟨#[]⟩, errV 2]) ∧ Below wz.heap.size wz w') := Lib.hid HRD0
            rw [hvc] at HVE0
            have HVE := Lib.hid HVE0
            clear HVE0 HRD0 hvc hrs hxt
            obtain ⟨xh, xp, xq, xb⟩ := x
            go_wp2_with fail
            refine (HVE.out _ (HG.out.below HB8.out) HS8.out).mono ?_
            rintro e w9 ⟨rfl, hb9⟩
            have HB9 := Lib.hid (HB8.out.trans (hb9.mono HB8.out.size))
            have HX9 := Lib.hid (HX8.out.older hb9)
            clear hb9
            have HB9A := Lib.hid (HB9.out.alloc HB9.out.size (.cells #[.string ⟨vh.toArray⟩, .string ⟨vp.toArray⟩, .string ⟨vq.toArray⟩, .bool vb] 27))
            have c0 := HX9.out.cell (i := 0) rfl; have c1 := HX9.out.cell (i := 1) rfl; have c2 := HX9.out.cell (i := 2) rfl; have c3 := HX9.out.cell (i := 3) rfl; have cz := HX9.out.lt
            go_wp2_with fail
            refine (HRD.out _ (HG.out.below HB9A.out)).mono ?_
            rintro e w10 ⟨rfl, hb10⟩
            have HB10 := Lib.hid (HB9A.out.trans (hb10.mono HB9A.out.size))
            clear hb10 c0 c1 c2 c3 cz
            go_wp2_with (go_at_call 18; refine (is_err 2 _ (by decide)).mono ?_; rintro e w' ⟨rfl, rfl⟩)
            go_ret
            exact ⟨rfl, (HB10.out.alloc HB10.out.size _).alloc (by have := HB10.out.size; simp; omega) _⟩
          | some r =>
            obtain ⟨ra, ⟨id, frm, til⟩, sg⟩ := r
            have hit := isSig_text (readS_is hrs)
            simp only at hit
            rw [hxt, hlt, show n + 44 - 36 = n + 8 by omega] at hit
            have hvc := verC_some (sec := sec2) (k := true) (n := 5000) hrs
            simp only at hvc
            rw [hrs] at HRD0
            have HRD : Hid (∀ wz, SgnAt wz → Calls Tryz.prog 27 #[adV x] wz fun e w' => e = .returned (.tuple #[adV ra, tkV ⟨id, frm, til⟩, .string ⟨sg.toArray⟩, .nilIface]) ∧ Below wz.heap.size wz w') := Lib.hid HRD0
            rw [← hit] at hvc
            obtain ⟨T, hT⟩ : ∃ z, ty.take (n + 8) = z := ⟨_, rfl⟩
            rw [hT] at hvc HT8
            have hTl : T.length = n + 8 := by rw [← hT, List.length_take, hlt]; omega
            obtain ⟨sx, hsx⟩ : ∃ z, sigM mixM sec2 T = z := ⟨_, rfl⟩
            rw [hsx] at hvc
            have HL16 := Lib.hid (show ((hmacM mixM sec2 T).take 16).length = 16 by rw [List.length_take, hmacM_len]; rfl)
            have HMAC : Hid (∀ wz, SrcAt wz (.slice (some ⟨gs, 0, none⟩) 26 26) 26 (bvals sec2) → SrcAt wz (.slice (some ⟨gb, 0, none⟩) (n + 8) cp) (n + 8) (bvals T) → SgnAt wz → Calls Tryz.prog 28 #[.slice (some ⟨gs, 0, none⟩) 26 26, .slice (some ⟨gb, 0, none⟩) (n + 8) cp] wz fun e w' => ∃ xa xc, e = .returned (.slice xa 32 xc) ∧ OwnWin w' wz.heap.size 5 1 (.slice xa 32 xc) 32 (bvals (hmacM mixM sec2 T)) ∧ Below wz.heap.size wz w') := Lib.hid (fun wz h1 h2 h3 => by have h9 := hmac_any (some ⟨gs, 0, none⟩) 26 sec2 (some ⟨gb, 0, none⟩) cp T wz h1 (by rw [hTl]; exact h2) h3.con (by decide) (by have := HN9.out; omega); rw [hTl] at h9; exact h9)
            have HHX : Hid (∀ (g o c : Nat) wz, SrcAt wz (.slice (some ⟨g, o, none⟩) 16 c) 16 (bvals ((hmacM mixM sec2 T).take 16)) → Calls Tryz.prog 29 #[.slice (some ⟨g, o, none⟩) 16 c] wz fun e w' => e = .returned (.string ⟨sx.toArray⟩) ∧ Below wz.heap.size wz w') := Lib.hid (fun g o c wz h1 => by have h9 := hex_any (some ⟨g, o, none⟩) c ((hmacM mixM sec2 T).take 16) wz (by rw [HL16.out]; exact h1) (by have := HL16.out; omega); rw [HL16.out, show hexL ((hmacM mixM sec2 T).take 16) = sx from hsx] at h9; exact h9)
            obtain ⟨vc, hvcc⟩ : ∃ z, verC x sec2 true 5000 = z := ⟨_, rfl⟩
            rw [hvcc] at hvc HVE0
            have HVC := Lib.hid hvc
            have HN8 := Lib.hid (show (n : Int) + 44 - 36 = ((n + 8 : Nat) : Int) by omega)
            obtain ⟨xh, xp, xq, xb⟩ := x
            obtain ⟨rh, rp, rq, rb⟩ := ra
            clear HRD0 hvc hvcc hit hrs hxt hT hTl hsx
            by_cases hsq : sx = sg
            · by_cases hti : (5000 : Int) < frm ∨ til ≤ 5000
              · have hvv : vc = 15 := by rw [HVC.out, if_neg (by decide), if_neg (fun h9 => h9 hsq), if_pos hti]
                have hse : (sg == sx) = true := beq_iff_eq.2 hsq.symm
                have hse2 : (sx == sg) = true := beq_iff_eq.2 hsq
                subst hvv
                have HVE : Hid (∀ wz, SgnAt wz → SrcAt wz (.slice (some ⟨gs, 0, none⟩) 26 26) 26 (bvals sec2) → Calls Tryz.prog 38 #[adV ⟨xh, xp, xq, xb⟩, .slice (some ⟨gs, 0, none⟩) 26 26, .bool true, .int .i64 5000] wz fun e w' => e = .returned (.tuple #[adV ⟨vh, vp, vq, vb⟩, errV 15]) ∧ Below wz.heap.size wz w') := Lib.hid HVE0
                clear HVE0 hsq HVC hti
                go_wp2_with fail
                refine (HVE.out _ (HG.out.below HB8.out) HS8.out).mono ?_
                rintro e w9 ⟨rfl, hb9⟩
                have HB9 := Lib.hid (HB8.out.trans (hb9.mono HB8.out.size))
                have HX9 := Lib.hid (HX8.out.older hb9)
                have HS9 := Lib.hid ((HS8.out.older hb9).older ((Below.refl _ _).alloc (Nat.le_refl _) (.cells #[.string ⟨vh.toArray⟩, .string ⟨vp.toArray⟩, .string ⟨vq.toArray⟩, .bool vb] 27)))
                have HT9 := Lib.hid ((HT8.out.older hb9).older ((Below.refl _ _).alloc (Nat.le_refl _) (.cells #[.string ⟨vh.toArray⟩, .string ⟨vp.toArray⟩, .string ⟨vq.toArray⟩, .bool vb] 27)))
                clear hb9
                have HB9A := Lib.hid (HB9.out.alloc HB9.out.size (.cells #[.string ⟨vh.toArray⟩, .string ⟨vp.toArray⟩, .string ⟨vq.toArray⟩, .bool vb] 27))
                have c0 := HX9.out.cell (i := 0) rfl; have c1 := HX9.out.cell (i := 1) rfl; have c2 := HX9.out.cell (i := 2) rfl; have c3 := HX9.out.cell (i := 3) rfl; have cz := HX9.out.lt
                go_wp2_with fail
                refine (HRD.out _ (HG.out.below HB9A.out)).mono ?_
                rintro e w10 ⟨rfl, hb10⟩
                have HB10 := Lib.hid (HB9A.out.trans (hb10.mono HB9A.out.size))
                have HB11 := Lib.hid ((HB10.out.alloc HB10.out.size (.cells #[.string ⟨rh.toArray⟩, .string ⟨rp.toArray⟩, .string ⟨rq.toArray⟩, .bool rb] 27)).alloc (by have := HB10.out.size; simp; omega) (.cells #[.string ⟨id.toArray⟩, .int .i64 frm, .int .i64 til] 51))
                have HS11 := Lib.hid ((HS9.out.older hb10).older (((Below.refl w10.heap.size w10).alloc (Nat.le_refl _) (.cells #[.string ⟨rh.toArray⟩, .string ⟨rp.toArray⟩, .string ⟨rq.toArray⟩, .bool rb] 27)).alloc (by simp) (.cells #[.string ⟨id.toArray⟩, .int .i64 frm, .int .i64 til] 51)))
                have HT11 := Lib.hid ((HT9.out.older hb10).older (((Below.refl w10.heap.size w10).alloc (Nat.le_refl _) (.cells #[.string ⟨rh.toArray⟩, .string ⟨rp.toArray⟩, .string ⟨rq.toArray⟩, .bool rb] 27)).alloc (by simp) (.cells #[.string ⟨id.toArray⟩, .int .i64 frm, .int .i64 til] 51)))
                clear hb10 c0 c1 c2 c3 cz
                have hn8 : (n : Int) + 44 - 36 = (n : Int) + 8 := by omega
                have hn8n : n + 8 ≤ n + 44 := by omega
                have hn8c : n + 8 ≤ cp := by omega
                have hn8m : ¬ ((n : Int) + 8 < 0) := by omega
                go_wp2_with fail
                refine (HMAC.out _ HS11.out HT11.out (HG.out.below HB11.out)).mono ?_
                rintro e w12 ⟨xa, xc, rfl, ho, hb12⟩
                obtain ⟨g9, o9, rfl, hc9⟩ := own32 ho
                have HB12 := Lib.hid (HB11.out.trans (hb12.mono HB11.out.size))
                have HO := Lib.hid (show SrcAt w12 (.slice (some ⟨g9, o9, none⟩) 16 xc) 16 (bvals ((hmacM mixM sec2 T).take 16)) from srcTake (SrcAt.of ho))
                have h16 : (16 : Int) ≤ (xc : Int) := by omega
                have h16n : 16 ≤ xc := by omega
                clear ho hb12
                go_wp2_with fail
                refine (HHX.out _ _ _ _ HO.out).mono ?_
                rintro e w13 ⟨rfl, hb13⟩
                have HB13 := Lib.hid (HB12.out.trans (hb13.mono HB12.out.size))
                clear hb13
                go_wp2_with (go_at_call 18; refine (is_err 15 _ (by decide)).mono ?_; rintro e w' ⟨rfl, rfl⟩)
                go_ret
                exact ⟨rfl, HB13.out⟩
              · have hvv : vc = 0 := by rw [HVC.out, if_neg (by decide), if_neg (fun h9 => h9 hsq), if_neg hti]
                have hse : (sg == sx) = true := beq_iff_eq.2 hsq.symm
                have hse2 : (sx == sg) = true := beq_iff_eq.2 hsq
                subst hvv
                have HVE : Hid (∀ wz, SgnAt wz → SrcAt wz (.slice (some ⟨gs, 0, none⟩) 26 26) 26 (bvals sec2) → Calls Tryz.prog 38 #[adV ⟨xh, xp, xq, xb⟩, .slice (some ⟨gs, 0, none⟩) 26 26, .bool true, .int .i64 5000] wz fun e w' => e = .returned (.tuple #[adV ⟨vh, vp, vq, vb⟩, .nilIface]) ∧ Below wz.heap.size wz w') := Lib.hid HVE0
                clear HVE0 hsq HVC hti
                go_wp2_with fail
                refine (HVE.out _ (HG.out.below HB8.out) HS8.out).mono ?_
                rintro e w9 ⟨rfl, hb9⟩
                have HB9 := Lib.hid (HB8.out.trans (hb9.mono HB8.out.size))
                have HX9 := Lib.hid (HX8.out.older hb9)
                have HS9 := Lib.hid ((HS8.out.older hb9).older ((Below.refl _ _).alloc (Nat.le_refl _) (.cells #[.string ⟨vh.toArray⟩, .string ⟨vp.toArray⟩, .string ⟨vq.toArray⟩, .bool vb] 27)))
                have HT9 := Lib.hid ((HT8.out.older hb9).older ((Below.refl _ _).alloc (Nat.le_refl _) (.cells #[.string ⟨vh.toArray⟩, .string ⟨vp.toArray⟩, .string ⟨vq.toArray⟩, .bool vb] 27)))
                clear hb9
                have HB9A := Lib.hid (HB9.out.alloc HB9.out.size (.cells #[.string ⟨vh.toArray⟩, .string ⟨vp.toArray⟩, .string ⟨vq.toArray⟩, .bool vb] 27))
                have c0 := HX9.out.cell (i := 0) rfl; have c1 := HX9.out.cell (i := 1) rfl; have c2 := HX9.out.cell (i := 2) rfl; have c3 := HX9.out.cell (i := 3) rfl; have cz := HX9.out.lt
                go_wp2_with fail
                refine (HRD.out _ (HG.out.below HB9A.out)).mono ?_
                rintro e w10 ⟨rfl, hb10⟩
                have HB10 := Lib.hid (HB9A.out.trans (hb10.mono HB9A.out.size))
                have HB11 := Lib.hid ((HB10.out.alloc HB10.out.size (.cells #[.string ⟨rh.toArray⟩, .string ⟨rp.toArray⟩, .string ⟨rq.toArray⟩, .bool rb] 27)).alloc (by have := HB10.out.size; simp; omega) (.cells #[.string ⟨id.toArray⟩, .int .i64 frm, .int .i64 til] 51))
                have HS11 := Lib.hid ((HS9.out.older hb10).older (((Below.refl w10.heap.size w10).alloc (Nat.le_refl _) (.cells #[.string ⟨rh.toArray⟩, .string ⟨rp.toArray⟩, .string ⟨rq.toArray⟩, .bool rb] 27)).alloc (by simp) (.cells #[.string ⟨id.toArray⟩, .int .i64 frm, .int .i64 til] 51)))
                have HT11 := Lib.hid ((HT9.out.older hb10).older (((Below.refl w10.heap.size w10).alloc (Nat.le_refl _) (.cells #[.string ⟨rh.toArray⟩, .string ⟨rp.toArray⟩, .string ⟨rq.toArray⟩, .bool rb] 27)).alloc (by simp) (.cells #[.string ⟨id.toArray⟩, .int .i64 frm, .int .i64 til] 51)))
                clear hb10 c0 c1 c2 c3 cz
                have hn8 : (n : Int) + 44 - 36 = (n : Int) + 8 := by omega
                have hn8n : n + 8 ≤ n + 44 := by omega
                have hn8c : n + 8 ≤ cp := by omega
                have hn8m : ¬ ((n : Int) + 8 < 0) := by omega
                go_wp2_with fail
                refine (HMAC.out _ HS11.out HT11.out (HG.out.below HB11.out)).mono ?_
                rintro e w12 ⟨xa, xc, rfl, ho, hb12⟩
                obtain ⟨g9, o9, rfl, hc9⟩ := own32 ho
                have HB12 := Lib.hid (HB11.out.trans (hb12.mono HB11.out.size))
                have HO := Lib.hid (show SrcAt w12 (.slice (some ⟨g9, o9, none⟩) 16 xc) 16 (bvals ((hmacM mixM sec2 T).take 16)) from srcTake (SrcAt.of ho))
                have h16 : (16 : Int) ≤ (xc : Int) := by omega
                have h16n : 16 ≤ xc := by omega
                clear ho hb12
                go_wp2_with fail
                refine (HHX.out _ _ _ _ HO.out).mono ?_
                rintro e w13 ⟨rfl, hb13⟩
                have HB13 := Lib.hid (HB12.out.trans (hb13.mono HB12.out.size))
                clear hb13
                go_wp2_with fail
                go_ret
                exact ⟨rfl, HB13.out⟩
            · have hvv : vc = 14 := by rw [HVC.out, if_neg (by decide), if_pos hsq]
              have hse : (sg == sx) = false := beq_eq_false_iff_ne.2 (fun h9 => hsq h9.symm)
              have hse2 : (sx == sg) = false := beq_eq_false_iff_ne.2 hsq
              subst hvv
              have HVE : Hid (∀ wz, SgnAt wz → SrcAt wz (.slice (some ⟨gs, 0, none⟩) 26 26) 26 (bvals sec2) → Calls Tryz.prog 38 #[adV ⟨xh, xp, xq, xb⟩, .slice (some ⟨gs, 0, none⟩) 26 26, .bool true, .int .i64 5000] wz fun e w' => e = .returned (.tuple #[adV ⟨vh, vp, vq, vb⟩, errV 14]) ∧ Below wz.heap.size wz w') := Lib.hid HVE0
              clear HVE0 hsq HVC
              go_wp2_with fail
              refine (HVE.out _ (HG.out.below HB8.out) HS8.out).mono ?_
              rintro e w9 ⟨rfl, hb9⟩
              have HB9 := Lib.hid (HB8.out.trans (hb9.mono HB8.out.size))
              have HX9 := Lib.hid (HX8.out.older hb9)
              have HS9 := Lib.hid ((HS8.out.older hb9).older ((Below.refl _ _).alloc (Nat.le_refl _) (.cells #[.string ⟨vh.toArray⟩, .string ⟨vp.toArray⟩, .string ⟨vq.toArray⟩, .bool vb] 27)))
              have HT9 := Lib.hid ((HT8.out.older hb9).older ((Below.refl _ _).alloc (Nat.le_refl _) (.cells #[.string ⟨vh.toArray⟩, .string ⟨vp.toArray⟩, .string ⟨vq.toArray⟩, .bool vb] 27)))
              clear hb9
              have HB9A := Lib.hid (HB9.out.alloc HB9.out.size (.cells #[.string ⟨vh.toArray⟩, .string ⟨vp.toArray⟩, .string ⟨vq.toArray⟩, .bool vb] 27))
              have c0 := HX9.out.cell (i := 0) rfl; have c1 := HX9.out.cell (i := 1) rfl; have c2 := HX9.out.cell (i := 2) rfl; have c3 := HX9.out.cell (i := 3) rfl; have cz := HX9.out.lt
              go_wp2_with fail
              refine (HRD.out _ (HG.out.below HB9A.out)).mono ?_
              rintro e w10 ⟨rfl, hb10⟩
              have HB10 := Lib.hid (HB9A.out.trans (hb10.mono HB9A.out.size))
              have HB11 := Lib.hid ((HB10.out.alloc HB10.out.size (.cells #[.string ⟨rh.toArray⟩, .string ⟨rp.toArray⟩, .string ⟨rq.toArray⟩, .bool rb] 27)).alloc (by have := HB10.out.size; simp; omega) (.cells #[.string ⟨id.toArray⟩, .int .i64 frm, .int .i64 til] 51))
              have HS11 := Lib.hid ((HS9.out.older hb10).older (((Below.refl w10.heap.size w10).alloc (Nat.le_refl _) (.cells #[.string ⟨rh.toArray⟩, .string ⟨rp.toArray⟩, .string ⟨rq.toArray⟩, .bool rb] 27)).alloc (by simp) (.cells #[.string ⟨id.toArray⟩, .int .i64 frm, .int .i64 til] 51)))
              have HT11 := Lib.hid ((HT9.out.older hb10).older (((Below.refl w10.heap.size w10).alloc (Nat.le_refl _) (.cells #[.string ⟨rh.toArray⟩, .string ⟨rp.toArray⟩, .string ⟨rq.toArray⟩, .bool rb] 27)).alloc (by simp) (.cells #[.string ⟨id.toArray⟩, .int .i64 frm, .int .i64 til] 51)))
              clear hb10 c0 c1 c2 c3 cz
              have hn8 : (n : Int) + 44 - 36 = (n : Int) + 8 := by omega
              have hn8n : n + 8 ≤ n + 44 := by omega
              have hn8c : n + 8 ≤ cp := by omega
              have hn8m : ¬ ((n : Int) + 8 < 0) := by omega
              go_wp2_with fail
              refine (HMAC.out _ HS11.out HT11.out (HG.out.below HB11.out)).mono ?_
              rintro e w12 ⟨xa, xc, rfl, ho, hb12⟩
              obtain ⟨g9, o9, rfl, hc9⟩ := own32 ho
              have HB12 := Lib.hid (HB11.out.trans (hb12.mono HB11.out.size))
              have HO := Lib.hid (show SrcAt w12 (.slice (some ⟨g9, o9, none⟩) 16 xc) 16 (bvals ((hmacM mixM sec2 T).take 16)) from srcTake (SrcAt.of ho))
              have h16 : (16 : Int) ≤ (xc : Int) := by omega
              have h16n : 16 ≤ xc := by omega
              clear ho hb12
              go_wp2_with fail
              refine (HHX.out _ _ _ _ HO.out).mono ?_
              rintro e w13 ⟨rfl, hb13⟩
              have HB13 := Lib.hid (HB12.out.trans (hb13.mono HB12.out.size))
              clear hb13
              have HIS : Hid (∀ wz, Calls Tryz.prog 18 #[errV 14, .int .i64 15] wz fun e w' => e = .returned (.bool false) ∧ wz = w') := Lib.hid (fun wz => Sg.is_any 14 15 wz (by decide))
              go_wp2_with (go_at_call 18; refine (HIS.out _).mono ?_; rintro e w' ⟨rfl, rfl⟩)
              go_ret
              exact ⟨rfl, HB13.out⟩
    · obtain ⟨n, hn⟩ : ∃ z, checkS ⟨h, p, q, b⟩ tk2 = z := ⟨_, rfl⟩
      rw [show signA ⟨h, p, q, b⟩ tk2 sec2 = ⟨[], [], [], false⟩ from if_neg hck, show Sg.errC (checkS ⟨h, p, q, b⟩ tk2) = errV n from by rw [hn]; exact if_neg (by rw [← hn]; exact hck)] at HSG0
      have HSGN := Lib.hid HSG0
      clear HSG0 hck hn
      go_wp2_with fail
      refine (HSGN.out _ (HG.out.below HB3.out) HS3.out).mono ?_
      rintro e w4 ⟨rfl, hb4⟩
      have HB4 := Lib.hid ((HB3.out.trans (hb4.mono HB3.out.size)).alloc (by have := HB3.out.size; have := hb4.size; omega) (.cells #[.string ⟨#[]⟩, .string ⟨#[]⟩, .string ⟨#[]⟩, .bool false] 27))
      clear hb4
      go_wp2_with fail
      go_ret
      exact ⟨rfl, HB4.out⟩
  · go_wp2_with fail
    refine (short_no ⟨h, p, q, b⟩ none 0 [] _ (.inl ⟨rfl, rfl, rfl⟩) (by decide) (fun n hn => by cases hn) (by simp only; omega) (by simp only; omega) (by simp only; omega) (by simp only [List.sum_nil, Nat.add_zero]; exact hs)).mono ?_
    rintro e w2 ⟨rfl, hb2⟩
    have HB2 := Lib.hid (HB1.out.trans (hb2.mono HB1.out.size))
    clear hb2 c0 c1 c2 c3 cz
    go_wp2_with fail
    refine (awake49_any _ (HG.out.below HB2.out)).mono ?_
    rintro e w3 ⟨rfl, hb3⟩
    have HB3 := Lib.hid (HB2.out.trans (hb3.mono HB2.out.size))
    clear hb3
    go_wp2_with fail
    go_ret
    exact ⟨rfl, HB3.out⟩

/-- What the walk gives, for every argument. -/
theorem contract (H : Type) (enc : TypeId × Value → H) (W : World) (base : Nat) (args : Array Value) (ds gs : List (DataW H)) (before : List MemPlace)
    (hval : ∀ (j : Nat) t v, Tryz.f9.params[j]? = some t → args[j]? = some v → Value.okWide Tryz.prog W .any base t v)
    (hW : DataW.Whole enc Tryz.prog Tryz.f9.params.toList Rows.signedForgeriesSpec.vars false W args.toList ds gs before) (hsz : (DataW.weightsEach Tryz.prog Tryz.f9.params.toList (ds ++ gs)).all (· ≤ reachBytes) = true) (hr : Sg.SgnAt W) :
    Calls Tryz.prog 9 args W fun e W' => ∃ v, e = .returned v ∧ Rows.signedForgeriesSpec.post enc Tryz.prog Tryz.f9 false true false false W args v W' := by
  have hW' := hW
  have hlt := fun p hp => hW.lt p hp
  obtain ⟨p, q, hA0, hV, rfl, hfz, hnd⟩ := hW
  have hA : DataW.TrodAll enc Tryz.prog W 0 (fun _ => true) true Tryz.f9.params.toList args.toList ds p := hA0
  have hA1 := hA
  obtain ⟨rfl, rfl⟩ := trodVars_none hV
  rw [Tryz.params9] at hA hval
  obtain ⟨v0, vs0, d0, ds0, p0, q0, hargs, rfl, rfl, h0, r0⟩ := trodAll_cons hA
  obtain ⟨v1, vs1, d1, ds1, p1, q1, rfl, rfl, rfl, h1, r1⟩ := trodAll_cons r0
  obtain ⟨v2, vs2, d2, ds2, p2, q2, rfl, rfl, rfl, h2, r2⟩ := trodAll_cons r1
  obtain ⟨rfl, rfl, rfl⟩ := trodAll_nil r2
  obtain rfl : args = #[v0, v1, v2] := by cases args; simp_all
  have fin : ∀ W', Below W.heap.size W W' → Rows.signedForgeriesSpec.post enc Tryz.prog Tryz.f9 false true false false W #[v0, v1, v2] (.bool true) W' := fun W' hb => by
    simp only [List.append_nil] at hA1 hW' hlt
    exact ⟨_, _, _, [], _, [], hW', trodAll_cons_mk (shut_bool Tryz.underlying4 _) trodAll_mk0, Fr.trodAll_below (by kernel_rfl) _ (by kernel_rfl) hA1 hb hlt, rfl, hb.frame _, fun h => by cases h⟩
  clear hW' hA0 hA1 hlt
  rw [Tryz.params9, List.append_nil] at hsz
  obtain ⟨c0, c1, c2, c3, y0, y1, y2, y3, m, rfl, rfl, rfl, hy0, hy1, hy2, hy3⟩ := Go.Joins.open_agg4 Tryz.underlying62 (by kernel_rfl) (show Tryz.prog.cellsOf 62 = 4 by kernel_rfl) (hval 0 62 v0 rfl rfl) h0
  obtain ⟨s0_0, e0, rfl, hs0_0⟩ := DataW.trod_string Tryz.underlying9 hy0
  obtain ⟨s0_1, e1, rfl, hs0_1⟩ := DataW.trod_string Tryz.underlying9 hy1
  obtain ⟨s0_2, e2, rfl, hs0_2⟩ := DataW.trod_string Tryz.underlying9 hy2
  obtain ⟨b0, e3, rfl⟩ := DataW.trod_bool Tryz.underlying4 hy3
  simp only [List.cons.injEq, and_true] at e0 e1 e2 e3
  subst e0 e1 e2 e3
  obtain ⟨⟨l0_0⟩⟩ := s0_0
  obtain ⟨⟨l0_1⟩⟩ := s0_1
  obtain ⟨⟨l0_2⟩⟩ := s0_2
  have z0 : l0_0.length ≤ 140737488351232 ∧ l0_1.length ≤ 140737488351232 ∧ l0_2.length ≤ 140737488351232 := Fr.sized_adr hsz (j := 0) rfl rfl Tryz.underlying62
  obtain ⟨n1, rfl, rfl, rfl, wf1⟩ := open_int Tryz.underlying24 (hval 1 24 v1 rfl rfl) h1
  have m1 := Sg.u16_range wf1
  obtain ⟨n2, rfl, rfl, rfl, wf2⟩ := open_int Tryz.underlying5 (hval 2 5 v2 rfl rfl) h2
  have m2 := Sg.u8_range wf2
  refine (walk l0_0 l0_1 l0_2 b0 n1 n2 W hr z0.1 z0.2.1 z0.2.2 m1 m2).mono fun e W' ⟨he, hb⟩ => ?_
  subst he
  exact ⟨_, rfl, fin W' hb⟩

theorem laid_met (os : Os) : laidMet Tryz.prog Rows.signedForgeriesRow.laid ((Fr.laidE Rows.signedForgeriesRow.laid os).forCall (fun _ _ => 0) ⟨#[], #[.agg #[.string ⟨#[]⟩, .string ⟨#[]⟩, .string ⟨#[]⟩, .bool false], .int .u16 0, .int .u8 0], []⟩).memory :=
  laidMet_of_run' 8 (by kernel_rfl) (by kernel_rfl)
theorem reads (os : Os) {H : Type} (enc : TypeId × Value → H) : ∃ places, DataW.whole enc Tryz.prog ((Fr.laidE Rows.signedForgeriesRow.laid os).forCall (fun _ _ => 0) ⟨#[], #[.agg #[.string ⟨#[]⟩, .string ⟨#[]⟩, .string ⟨#[]⟩, .bool false], .int .u16 0, .int .u8 0], []⟩).memory Tryz.f9.params.toList Rows.signedForgeriesSpec.vars false (#[.agg #[.string ⟨#[]⟩, .string ⟨#[]⟩, .string ⟨#[]⟩, .bool false], .int .u16 0, .int .u8 0] : Array Value).toList 8 = some ([.agg [.lit (.string []), .lit (.string []), .lit (.string []), .lit (.bool false)], .lit (.int .u16 0), .lit (.int .u8 0)], [], places) :=
  ⟨[], by kernel_rfl⟩

theorem lifted (os : Os) (started : os.Started) (H : Type) (enc : TypeId × Value → H) (F : Stop.Interp) :
    ReturnsInHanded {} Tryz.checked os 9 .any ((OpenSpec.ofChange Rows.signedForgeriesSpec).preRow enc Tryz.prog Tryz.f9 Rows.signedForgeriesRow.domain false Rows.signedForgeriesRow.laid) (((OpenSpec.ofChange Rows.signedForgeriesSpec).at F).post enc Tryz.prog Tryz.f9 false true false false) := by
  obtain ⟨places, hx⟩ := reads os enc
  refine returnsInHanded_of_row (C := Tryz.checked) (s := OpenSpec.ofChange Rows.signedForgeriesSpec) Fr.own started (by kernel_rfl) Tryz.func9
    (witness_row_at (enc := enc) (C := Tryz.checked) false (Fr.laidE Rows.signedForgeriesRow.laid os) #[.agg #[.string ⟨#[]⟩, .string ⟨#[]⟩, .string ⟨#[]⟩, .bool false], .int .u16 0, .int .u8 0] rfl (by kernel_rfl) (by kernel_rfl) (by kernel_rfl)
      (OpenSpec.preRow_of_cond 8 hx (by kernel_rfl) (fun k hk => by cases hk) (by kernel_rfl) (laid_met os))) ?_
  intro W base args ds gs before hval hW _ hcond hsz hlaid hsh _
  exact contract H enc W base args ds gs before hval hW (by have h9 : (DataW.weightsEach Tryz.prog (Tryz.f9.params.toList ++ []) (ds ++ gs)).all (· ≤ reachBytes) = true := hsz; rw [List.append_nil] at h9; exact h9) (Fr.sgn_laid hsh hlaid (by kernel_rfl) (by repeat first | exact List.mem_cons_self .. | apply List.mem_cons_of_mem) (by repeat first | exact List.mem_cons_self .. | apply List.mem_cons_of_mem) (by repeat first | exact List.mem_cons_self .. | apply List.mem_cons_of_mem) (by repeat first | exact List.mem_cons_self .. | apply List.mem_cons_of_mem))

theorem k_0 : Rows.signedForgeriesRow.wf (OpenSpec.ofChange (OpenSpec.ofChange Rows.signedForgeriesSpec).bare) = true := by kernel_rfl
theorem k_1 : laidOutB Tryz.prog = true := Fr.sf_laidOut
theorem k_2 : mapsRowed Tryz.prog = true := Fr.sf_mapsRowed
theorem k_3 : Tryz.f9.params.all (Tryz.prog.readableRec ·) = true := by kernel_rfl
theorem k_4 : namedTie Tryz.prog Rows.signedForgeriesRow.named (OpenSpec.ofChange Rows.signedForgeriesSpec).bare.vars = true := by kernel_rfl
theorem k_5 : (Rows.signedForgeriesRow.stops == []) = true := by kernel_rfl
theorem k_6 : (Tryz.prog.stops == []) = true := Fr.sf_stops
theorem k_7 : (Rows.signedForgeriesRow.knobs == []) = true := by kernel_rfl
theorem k_8 : (Tryz.prog.stopKnobs == []) = true := Fr.sf_stopKnobs
theorem k_9 : (Rows.signedForgeriesRow.inPlace == Tryz.prog.inPlace 9) = true := by kernel_rfl
theorem k_10 : (Rows.signedForgeriesRow.unfollowed == Tryz.prog.unfollowed 9) = true := by kernel_rfl
theorem k_11 : (Rows.signedForgeriesRow.recurses == Tryz.prog.recurses 9) = true := by kernel_rfl
theorem k_12 : (Rows.signedForgeriesRow.named == Tryz.prog.varsNamed 9) = true := by kernel_rfl
theorem k_13 : (Rows.signedForgeriesRow.maps == (Tryz.f9.params.toList ++ (OpenSpec.ofChange Rows.signedForgeriesSpec).bare.plain.varTypes Tryz.prog).any (Tryz.prog.mapsRec ·)) = true := by kernel_rfl
theorem k_14 : (Rows.signedForgeriesRow.ifaces == (Tryz.f9.params.toList ++ (OpenSpec.ofChange Rows.signedForgeriesSpec).bare.plain.varTypes Tryz.prog).any (Tryz.prog.ifacesRec ·)) = true := by kernel_rfl
theorem k_15 : (Rows.signedForgeriesRow.mapsOut == Tryz.prog.mapsAmong Tryz.f9.resultTypes.toList) = true := by kernel_rfl
theorem k_16 : (Rows.signedForgeriesRow.loops == (Tryz.f9.params.toList ++ (OpenSpec.ofChange Rows.signedForgeriesSpec).bare.plain.varTypes Tryz.prog).any (Tryz.prog.loopsFrom ·)) = true := by kernel_rfl
theorem k_17 : (Rows.signedForgeriesRow.wideKeys == (Tryz.f9.params.toList ++ (OpenSpec.ofChange Rows.signedForgeriesSpec).bare.plain.varTypes Tryz.prog ++ Tryz.f9.resultTypes.toList).any (Tryz.prog.wideKeysFrom ·)) = true := by kernel_rfl
theorem k_18 : (OpenSpec.ofChange Rows.signedForgeriesSpec).bare.vars.all (Tryz.prog.varReadable ·) = true := by kernel_rfl
theorem k_19 : Tryz.f9.resultTypes.all (fun t => Tryz.prog.readableRec t && decide (t < Tryz.prog.types.size)) = true := by kernel_rfl
theorem k_20 : (Rows.signedForgeriesRow.ifacesOut == Tryz.f9.resultTypes.toList.any (Tryz.prog.ifacesRec ·)) = true := by kernel_rfl
theorem k_21 : (Rows.signedForgeriesRow.loopsOut == Tryz.f9.resultTypes.toList.any (Tryz.prog.loopsFrom ·)) = true := by kernel_rfl
theorem k_22 : (Rows.signedForgeriesRow.plainKeys == Tryz.prog.plainKeys) = true := Fr.sf_plainKeys
theorem k_23 : Rows.signedForgeriesRow.shortTexts.isNone = true := by kernel_rfl
theorem k_24 : Tryz.prog.stopsHeard = true := Fr.sf_heard
theorem k_25 : Tryz.prog.mayEnter = true := Fr.sf_mayEnter
theorem k_26 : (Rows.signedForgeriesRow.lifted == Tryz.prog.liftsFinal) = true := Fr.sf_lifted
theorem k_27 : (Tryz.prog.make == some Rows.signedForgeriesRow.make) = true := Fr.sf_make
theorem k_28 : (Rows.signedForgeriesRow.kinds == (if Rows.signedForgeriesRow.domain.isEmpty then [] else Tryz.f9.params.toList.map fun t => match Tryz.prog.underlying t with | some (.int k) => some k | _ => none)) = true := by kernel_rfl
theorem k_29 : (Rows.signedForgeriesRow.pinned == Rows.signedForgeriesRow.pinnedBy) = true := by kernel_rfl
theorem k_30 : (Rows.signedForgeriesRow.veiled == (Tryz.f9.params.toList ++ (OpenSpec.ofChange Rows.signedForgeriesSpec).bare.plain.varTypes Tryz.prog ++ Tryz.f9.resultTypes.toList).any (Tryz.prog.veiledRec ·)) = true := by kernel_rfl
theorem k_31 : Rows.signedForgeriesRow.veiledFits Tryz.prog Tryz.f9.params.toList (Tryz.f9.params.toList ++ (OpenSpec.ofChange Rows.signedForgeriesSpec).bare.plain.varTypes Tryz.prog ++ Tryz.f9.resultTypes.toList) = true := by kernel_rfl
theorem closed : joinedFacts Tryz.prog 9 Tryz.f9 (OpenSpec.ofChange Rows.signedForgeriesSpec).bare Rows.signedForgeriesRow = true := Op.andT (Op.andT (Op.andT (Op.andT (Op.andT (Op.andT (Op.andT (Op.andT (Op.andT (Op.andT (Op.andT (Op.andT (Op.andT (Op.andT (Op.andT (Op.andT (Op.andT (Op.andT (Op.andT (Op.andT (Op.andT (Op.andT (Op.andT (Op.andT (Op.andT (Op.andT (Op.andT (Op.andT (Op.andT (Op.andT (Op.andT (k_0) k_1) k_2) k_3) k_4) k_5) k_6) k_7) k_8) k_9) k_10) k_11) k_12) k_13) k_14) k_15) k_16) k_17) k_18) k_19) k_20) k_21) k_22) k_23) k_24) k_25) k_26) k_27) k_28) k_29) k_30) k_31

theorem said : Rows.SignedForgeriesSaid :=
  OpenClaim.holds_of_cond 9 Tryz.f9 rfl rfl rfl rfl rfl rfl rfl ⟨rfl, rfl, rfl, rfl, rfl⟩ rfl rfl rfl rfl rfl (by kernel_rfl) Tryz.func9 closed
    (of_decide_eq_true (by kernel_rfl)) (by unfold Func.isWrapper; first | (rw [if_pos (by decide +kernel)]; kernel_rfl) | (rw [if_neg (by decide +kernel)]; exact ⟨rfl, rfl⟩))
    (fun os started H enc _ F => by rw [OpenClaim.pre_eq_preRow]; exact lifted os started H enc F)

theorem plain (b : Bool) (hb : b = Tryz.pinned.checked.prog.looks []) (f : FuncId) (fn : Func) (hf : Tryz.pinned.checked.prog.funcNamed "quayside/quaysidelaw49.SignedForgeries" = some f) (hfn : Tryz.pinned.checked.prog.funcs[f]? = some fn) :
    b = Tryz.pinned.checked.prog.looks [] ∧ ∀ (j : Nat) t, fn.params[j]? = some t → Tryz.pinned.checked.prog.wantsStandIn t = false := by
  obtain rfl : f = 9 := Option.some.inj ((show Tryz.prog.funcNamed "quayside/quaysidelaw49.SignedForgeries" = some 9 by kernel_rfl).symm.trans hf) |>.symm
  obtain rfl : fn = Tryz.f9 := (Option.some.inj (Tryz.func9.symm.trans hfn)).symm
  refine ⟨hb, fun j t ht => ?_⟩
  rw [Tryz.params9] at ht
  have hm : t ∈ [62, 24, 5] := by simpa using Array.mem_of_getElem? ht
  have hall : ([62, 24, 5].all fun u => !Tryz.prog.wantsStandIn u) = true := by kernel_rfl
  exact (show Tryz.prog.wantsStandIn t = false by simpa using List.all_eq_true.1 hall t hm)

theorem proved : Rows.SignedForgeriesCardSaid :=
  Claim7.holds_tied_plain_at .later [] _ _ _ _ said (fun _ h => by cases h) (by kernel_rfl) (fun _ h => by cases h) signedForgeries_row_tie rfl ⟨rfl, rfl⟩ (by kernel_rfl) rfl (plain _ (by kernel_rfl)) (by kernel_rfl)
#print axioms proved
end Go.Proofs.YtpmhkkjecapbeaaGreatDoor.lawSignedForgeries
