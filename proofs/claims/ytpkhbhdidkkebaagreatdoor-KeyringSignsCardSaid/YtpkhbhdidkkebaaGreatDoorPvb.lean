/- Contracts and plain facts that the statement's proof leans on (texts joined). No condition beyond those that each names. -/
import Derived.Test.YtpkhbhdidkkebaaGreatDoorPvM
import Derived.Test.YtpkhbhdidkkebaaGreatDoorPvU
import Derived.Test.YtpkhbhdidkkebaaGreatDoorPvV
import Derived.Test.YtpkhbhdidkkebaaGreatDoorPvW
import Derived.Test.YtpkhbhdidkkebaaGreatDoorPvX
import Derived.Test.YtpkhbhdidkkebaaGreatDoorPva
section
namespace Go.Proofs.YtpkhbhdidkkebaaGreatDoor
open Go.RowKit Pl Ad
set_option maxRecDepth 100000
set_option maxHeartbeats 4000000
set_option linter.unusedVariables false
set_option linter.unusedSimpArgs false
namespace Dg
open Kr
/-- The first k bytes of a padded key, changed. -/
def padI (P : Bs) (x : UInt8) (k : Nat) : Bs := (P.map (· ^^^ x)).take k
theorem padI_next {P : Bs} {x y : UInt8} {k : Nat} (h : P[k]? = some y) : padI P x (k + 1) = padI P x k ++ [y ^^^ x] := by
 obtain ⟨hk, rfl⟩ := List.getElem?_eq_some_iff.1 h
 unfold padI
 rw [take_snoc (show k < (P.map (· ^^^ x)).length by rw [List.length_map]; exact hk)]
 simp
theorem padI_all {P : Bs} {x : UInt8} (h : P.length = 64) : padI P x 64 = P.map (· ^^^ x) := by
 unfold padI; rw [List.take_of_length_le (by rw [List.length_map]; omega)]
/-- The two pads while they are made. -/
structure TwoP (w0 w : World) (a b : Value) (P : Bs) (k : Nat) : Prop where
 bel : Below w0.heap.size w0 w
 oa : OwnWin w w0.heap.size 5 1 a k (bvals (padI P 54 k))
 ob : OwnWin w w0.heap.size 5 1 b k (bvals (padI P 92 k))
 sep : ∀ q, a.ownBlock = some q → ¬ b.ownBlock = some q
theorem TwoP.older {w0 w w' : World} {a b : Value} {P : Bs} {k : Nat} (h : TwoP w0 w a b P k) (hb : Below w.heap.size w w') : TwoP w0 w' a b P k :=
 ⟨h.bel.trans (hb.mono h.bel.size), h.oa.older hb, h.ob.older hb, h.sep⟩
theorem rhmac_short (ka : Option Addr) (kc : Nat) (key : Bs) (ta : Option Addr) (tc : Nat) (t : Bs) (w : World) (hk : SrcAt w (.slice ka key.length kc) key.length (bvals key)) (ht : SrcAt w (.slice ta t.length tc) t.length (bvals t)) (hkl : key.length ≤ 536870912) (htl : t.length ≤ 536870912) (hs : key.length ≤ 64) :
 Calls Tryz.prog 100 #[.slice ka key.length kc, .slice ta t.length tc] w fun e w' => ∃ ua uc, e = .returned (.slice ua 32 uc) ∧ OwnWin w' w.heap.size 5 1 (.slice ua 32 uc) 32 (bvals (hmacM mixM key t)) ∧ Below w.heap.size w w' := by
 have HS := Lib.hid hk
 have HT := Lib.hid ht
 have HKEY := Lib.hid (show keyM mixM key = key by unfold keyM; rw [if_neg (by omega)])
 have HKL := Lib.hid hs
 have HB := Lib.hid (Below.refl w.heap.size w)
 have HBK : Hid (∀ {wz : World}, Below w.heap.size w wz → Below w.heap.size w wz) := Lib.hid (fun h => h)
 have HBT : Hid (∀ {wz : World}, Below w.heap.size w wz → Below w.heap.size w wz) := Lib.hid (fun h => h)
 have hsi : ¬ (64 : Int) < (key.length : Int) := by omega
 clear hk ht
 go_enter Tryz.func100, Tryz.ntmps100
 obtain ⟨P, hP⟩ : ∃ P, key ++ List.replicate (64 - key.length) 0 = P := ⟨_, rfl⟩
 have hPl : P.length = 64 := by rw [← hP, List.length_append, List.length_replicate]; have := HKL.out; omega
 have HPA : Hid (∀ x, P.map (· ^^^ x) = padK (keyM mixM key) x) := Lib.hid (fun x => by rw [← hP, HKEY.out]; rfl)
 have HPK : Hid (∀ (k : Nat) (y : UInt8), key[k]? = some y → P[k]? = some y) := Lib.hid (fun k y hy => by rw [← hP, List.getElem?_append_left (List.getElem?_eq_some_iff.1 hy).1]; exact hy)
 have HPZ : Hid (∀ k : Nat, key.length ≤ k → k < 64 → P[k]? = some 0) := Lib.hid (fun k h1 h2 => by rw [← hP, List.getElem?_append_right h1, List.getElem?_replicate, if_pos (by omega)])
 have HPL := Lib.hid hPl
 clear hP hPl
 have HM0 := Lib.hid (show TwoP w w (.slice none 0 0) (.slice none 0 0) P 0 from ⟨HB.out, OwnWin.nil _ _ _ _, OwnWin.nil _ _ _ _, fun q h => by cases h⟩)
 go_wp2_with fail
 go_loopg [14, 7, 8, 5, 6] 64 (fun gq iv s7 s8 s5 s6 wr => ∃ (k N : Nat) (a b : Option Addr) (c d : Nat), iv = .int .i64 k ∧ k ≤ 64 ∧ Hid (64 ≤ gq + k) ∧ Hid (N = k) ∧ s5 = .slice a N c ∧ s6 = .slice b N d ∧ TwoP w wr (.slice a N c) (.slice b N d) P k)
 case atStart => exact ⟨0, 0, none, none, 0, 0, rfl, Nat.zero_le _, Lib.hid (by omega), Lib.hid rfl, rfl, rfl, HM0.out⟩
 case round =>
  obtain ⟨k, N, a5, b5, c5, d5, rfl, hk, HQ, HN, rfl, rfl, hm⟩ := hrel
  clear HM0
  have HM := Lib.hid hm
  have HSK := Lib.hid (HS.out.older (HBK.out HM.out.bel))
  have hNk : N = k := HN.out
  subst hNk
  clear hm
  by_cases hlt : N < 64
  ·have hk0 : (0 : Int) ≤ (N : Int) := by omega
   have hk1 : (N : Int) < 64 := by omega
   by_cases hin : N < key.length
   ·obtain ⟨y, hy⟩ : ∃ y, key[N]? = some y := ⟨_, List.getElem?_eq_getElem hin⟩
    have HY := Lib.hid (HPK.out N y hy)
    have hini : (N : Int) < (key.length : Int) := by have := hin;  omega
    obtain ⟨ad, had, hcell⟩ := srcPos HSK.out (show 0 < (bvals key).length by rw [bvals_len]; omega)
    have hc9 := hcell N (.int .u8 (y.toNat : Int)) (by simp [bvals, hy])
    subst had
    have hz9 := World.block_lt_of_cell? wr _ hc9
    clear hcell hy
    have HXA := Lib.hid (show bits .xor .u8 (y.toNat : Int) 54 = ((y ^^^ 54).toNat : Int) from xorI 54 (.inl rfl) y)
    have HXB := Lib.hid (show bits .xor .u8 (y.toNat : Int) 92 = ((y ^^^ 92).toNat : Int) from xorI 92 (.inr rfl) y)
    have hb1 := (Below.refl wr.heap.size wr).alloc (Nat.le_refl _) (.cells #[.int .u8 (bits .xor .u8 (y.toNat : Int) 54)] 5)
    have HM1 := Lib.hid (HM.out.older hb1)
    go_wp2_with (first
     | (at_builtin; refine wpList_appw tyBytes (by rfl) _ _ (by rfl) w.heap.size (.slice a5 N c5) N _ (by rfl) HM1.out.oa HM1.out.bel.size (.slice (some ⟨wr.heap.size, 0, none⟩) 1 1) 1 [.int .u8 (bits .xor .u8 (y.toNat : Int) 54)] (by rfl) (srcMany (heap_alloc_new wr _)) (by rfl) (by simp [Value.oneCell']) (by omega) ?_; intro v1 w1 hown1 hgrow1 hlies1; obtain ⟨a1, c1, rfl, hc1⟩ := hown1.form; have ht1 := Touch.of_grown (S := fun q => (Value.slice a5 N c5).ownBlock = some q) hgrow1 (fun k hk => hk); have HB1 := Lib.hid (belowK_grown HM1.out.bel hgrow1 HM1.out.bel.size (fun q hq => (HM1.out.oa.lt q hq).1)); have hb2 := (Below.refl w1.heap.size w1).alloc (Nat.le_refl _) (.cells #[.int .u8 (bits .xor .u8 (y.toNat : Int) 92)] 5); have HA1 := Lib.hid (hown1.older hb2); have HO1 := Lib.hid ((HM1.out.ob.touch ht1 (fun q hq hq2 => HM1.out.sep q hq2 hq)).older hb2); have HSP := Lib.hid (show ∀ q, (Value.slice a1 (N + 1) c1).ownBlock = some q → ¬ (Value.slice b5 N d5).ownBlock = some q from fun q hq hq2 => by
      rcases hlies1 with h1 | h1
      ·exact HM1.out.sep q (by rw [← h1]; exact hq) hq2
      ·have h3 := (HM1.out.ob.lt q hq2).2
       rw [h1] at hq
       have := Option.some.inj hq
       omega); have HBB := Lib.hid (HB1.out.alloc HB1.out.size (.cells #[.int .u8 (bits .xor .u8 (y.toNat : Int) 92)] 5)); have HZA := Lib.hid (show w1.heap.size ≤ (w1.alloc (.cells #[.int .u8 (bits .xor .u8 (y.toNat : Int) 92)] 5)).heap.size by simp); clear hown1 hgrow1 hlies1 ht1 hb2)
     | (at_builtin; refine wpList_appw tyBytes (by rfl) _ _ (by rfl) w.heap.size (.slice b5 N d5) N _ (by rfl) HO1.out HBB.out.size (.slice (some ⟨w1.heap.size, 0, none⟩) 1 1) 1 [.int .u8 (bits .xor .u8 (y.toNat : Int) 92)] (by rfl) (srcMany (heap_alloc_new w1 _)) (by rfl) (by simp [Value.oneCell']) (by omega) ?_; intro v2 w2 hown2 hgrow2 hlies2; obtain ⟨b1, d1, rfl, hd1⟩ := hown2.form; have ht2 := Touch.of_grown (S := fun q => (Value.slice b5 N d5).ownBlock = some q) hgrow2 (fun k hk => hk); have HB2 := Lib.hid (belowK_grown HBB.out hgrow2 HBB.out.size (fun q hq => (HO1.out.lt q hq).1)); have HA2 := Lib.hid (HA1.out.touch ht2 (fun q hq hq2 => HSP.out q hq hq2)); have HO2 := Lib.hid hown2; have HSP2 := Lib.hid (show ∀ q, (Value.slice a1 (N + 1) c1).ownBlock = some q → ¬ (Value.slice b1 (N + 1) d1).ownBlock = some q from fun q hq hq2 => by
      rcases hlies2 with h1 | h1
      ·exact HSP.out q hq (by rw [← h1]; exact hq2)
      ·have h3 := (HA1.out.lt q hq).2
       rw [h1] at hq2
       have := Option.some.inj hq2
       omega); clear hown2 hgrow2 hlies2 ht2))
    have HMN := Lib.hid (show TwoP w w2 (.slice a1 (N + 1) c1) (.slice b1 (N + 1) d1) P (N + 1) from ⟨HB2.out, by rw [padI_next HY.out, ← bvals_append]; have h9 := HA2.out; rw [HXA.out] at h9; exact h9, by rw [padI_next HY.out, ← bvals_append]; have h9 := HO2.out; rw [HXB.out] at h9; exact h9, HSP2.out⟩)
    go_roundg (gk - 1)
    case rel => exact ⟨N + 1, N + 1, a1, b1, c1, d1, by go_num, by omega, Lib.hid (by have := HQ.out; omega), Lib.hid rfl, rfl, rfl, HMN.out⟩
    case measure => have := HQ.out; omega
   ·have hini : ¬ (N : Int) < (key.length : Int) := by have := hin;  omega
    have HY := Lib.hid (HPZ.out N (by omega) hlt)
    have HXA := Lib.hid (show bits .xor .u8 0 54 = (((0 : UInt8) ^^^ 54).toNat : Int) from xorI 54 (.inl rfl) 0)
    have HXB := Lib.hid (show bits .xor .u8 0 92 = (((0 : UInt8) ^^^ 92).toNat : Int) from xorI 92 (.inr rfl) 0)
    have hb1 := (Below.refl wr.heap.size wr).alloc (Nat.le_refl _) (.cells #[.int .u8 (bits .xor .u8 0 54)] 5)
    have HM1 := Lib.hid (HM.out.older hb1)
    go_wp2_with (first
     | (at_builtin; refine wpList_appw tyBytes (by rfl) _ _ (by rfl) w.heap.size (.slice a5 N c5) N _ (by rfl) HM1.out.oa HM1.out.bel.size (.slice (some ⟨wr.heap.size, 0, none⟩) 1 1) 1 [.int .u8 (bits .xor .u8 0 54)] (by rfl) (srcMany (heap_alloc_new wr _)) (by rfl) (by simp [Value.oneCell']) (by omega) ?_; intro v1 w1 hown1 hgrow1 hlies1; obtain ⟨a1, c1, rfl, hc1⟩ := hown1.form; have ht1 := Touch.of_grown (S := fun q => (Value.slice a5 N c5).ownBlock = some q) hgrow1 (fun k hk => hk); have HB1 := Lib.hid (belowK_grown HM1.out.bel hgrow1 HM1.out.bel.size (fun q hq => (HM1.out.oa.lt q hq).1)); have hb2 := (Below.refl w1.heap.size w1).alloc (Nat.le_refl _) (.cells #[.int .u8 (bits .xor .u8 0 92)] 5); have HA1 := Lib.hid (hown1.older hb2); have HO1 := Lib.hid ((HM1.out.ob.touch ht1 (fun q hq hq2 => HM1.out.sep q hq2 hq)).older hb2); have HSP := Lib.hid (show ∀ q, (Value.slice a1 (N + 1) c1).ownBlock = some q → ¬ (Value.slice b5 N d5).ownBlock = some q from fun q hq hq2 => by
      rcases hlies1 with h1 | h1
      ·exact HM1.out.sep q (by rw [← h1]; exact hq) hq2
      ·have h3 := (HM1.out.ob.lt q hq2).2
       rw [h1] at hq
       have := Option.some.inj hq
       omega); have HBB := Lib.hid (HB1.out.alloc HB1.out.size (.cells #[.int .u8 (bits .xor .u8 0 92)] 5)); have HZA := Lib.hid (show w1.heap.size ≤ (w1.alloc (.cells #[.int .u8 (bits .xor .u8 0 92)] 5)).heap.size by simp); clear hown1 hgrow1 hlies1 ht1 hb2)
     | (at_builtin; refine wpList_appw tyBytes (by rfl) _ _ (by rfl) w.heap.size (.slice b5 N d5) N _ (by rfl) HO1.out HBB.out.size (.slice (some ⟨w1.heap.size, 0, none⟩) 1 1) 1 [.int .u8 (bits .xor .u8 0 92)] (by rfl) (srcMany (heap_alloc_new w1 _)) (by rfl) (by simp [Value.oneCell']) (by omega) ?_; intro v2 w2 hown2 hgrow2 hlies2; obtain ⟨b1, d1, rfl, hd1⟩ := hown2.form; have ht2 := Touch.of_grown (S := fun q => (Value.slice b5 N d5).ownBlock = some q) hgrow2 (fun k hk => hk); have HB2 := Lib.hid (belowK_grown HBB.out hgrow2 HBB.out.size (fun q hq => (HO1.out.lt q hq).1)); have HA2 := Lib.hid (HA1.out.touch ht2 (fun q hq hq2 => HSP.out q hq hq2)); have HO2 := Lib.hid hown2; have HSP2 := Lib.hid (show ∀ q, (Value.slice a1 (N + 1) c1).ownBlock = some q → ¬ (Value.slice b1 (N + 1) d1).ownBlock = some q from fun q hq hq2 => by
      rcases hlies2 with h1 | h1
      ·exact HSP.out q hq (by rw [← h1]; exact hq2)
      ·have h3 := (HA1.out.lt q hq).2
       rw [h1] at hq2
       have := Option.some.inj hq2
       omega); clear hown2 hgrow2 hlies2 ht2))
    have HMN := Lib.hid (show TwoP w w2 (.slice a1 (N + 1) c1) (.slice b1 (N + 1) d1) P (N + 1) from ⟨HB2.out, by rw [padI_next HY.out, ← bvals_append]; have h9 := HA2.out; rw [HXA.out] at h9; exact h9, by rw [padI_next HY.out, ← bvals_append]; have h9 := HO2.out; rw [HXB.out] at h9; exact h9, HSP2.out⟩)
    go_roundg (gk - 1)
    case rel => exact ⟨N + 1, N + 1, a1, b1, c1, d1, by go_num, by omega, Lib.hid (by have := HQ.out; omega), Lib.hid rfl, rfl, rfl, HMN.out⟩
    case measure => have := HQ.out; omega
  ·obtain rfl : N = 64 := by omega
   have HI := Lib.hid (show OwnWin wr w.heap.size 5 1 (.slice a5 64 c5) 64 (bvals (padK (keyM mixM key) 54)) by rw [← HPA.out, ← padI_all HPL.out]; exact HM.out.oa)
   have HO := Lib.hid (show OwnWin wr w.heap.size 5 1 (.slice b5 64 d5) 64 (bvals (padK (keyM mixM key) 92)) by rw [← HPA.out, ← padI_all HPL.out]; exact HM.out.ob)
   have HSEP := Lib.hid HM.out.sep
   have HBW := Lib.hid HM.out.bel
   obtain ⟨ki, hki⟩ : ∃ x, padK (keyM mixM key) 54 = x := ⟨_, rfl⟩
   obtain ⟨ko, hko⟩ : ∃ x, padK (keyM mixM key) 92 = x := ⟨_, rfl⟩
   rw [hki] at HI
   rw [hko] at HO
   have hkil : ki.length = 64 := by have h9 := HI.out.1; rw [bvals_len] at h9; omega
   have hkol : ko.length = 64 := by have h9 := HO.out.1; rw [bvals_len] at h9; omega
   obtain ⟨sm, hsm⟩ : ∃ x, sumM mixM (ki ++ t) = x := ⟨_, rfl⟩
   have hsml : sm.length = 32 := by rw [← hsm, sumM_len]
   have HSM := Lib.hid hsm
   have HFIN := Lib.hid (show sumM mixM (ko ++ sm) = hmacM mixM key t by unfold hmacM; rw [hki, hko, hsm])
   have HKI := Lib.hid hkil
   have HKO := Lib.hid hkol
   have HSL := Lib.hid hsml
   have HTW := Lib.hid (HT.out.older (HBT.out HBW.out))
   have HTL := Lib.hid (show (bvals t).length = t.length * 1 by rw [bvals_len]; omega)
   have HTN := Lib.hid (show 64 + t.length ≤ 1099511627776 by omega)
   have HLA := Lib.hid (show (ki ++ t).length = 64 + t.length by rw [List.length_append, hkil])
   have HLB := Lib.hid (show (ko ++ sm).length = 96 by rw [List.length_append, hkol, hsml])
   have HLS := Lib.hid (show (bvals sm).length = 32 * 1 by rw [bvals_len, hsml])
   clear hki hko hkil hkol hsm hsml
   have HF1 : True := trivial
   have HF2 : True := trivial
   clear HM HSK HPA HPK HPZ
   go_wp2_with (first
    | (at_builtin; clear HF1; refine wpList_appw tyBytes rfl _ _ rfl w.heap.size (.slice a5 64 c5) 64 (bvals ki) rfl HI.out HBW.out.size (.slice ta t.length tc) t.length (bvals t) rfl HTW.out HTL.out (bvals_one _) HTN.out ?_; intro v1 w1 hown1 hgrow1 hlies1; rw [bvals_append] at hown1; obtain ⟨a1, c1, rfl, hc1⟩ := hown1.form; have HA1 := Lib.hid hown1; have ht1 := Touch.of_grown (S := fun q => (Value.slice a5 64 c5).ownBlock = some q) hgrow1 (fun k hk => hk); have HO1 := Lib.hid (HO.out.touch ht1 (fun q hq hq2 => HSEP.out q hq2 hq)); have HB1 := Lib.hid (belowK_grown HBW.out hgrow1 HBW.out.size (fun q hq => (HI.out.lt q hq).1)); have HS1 := Lib.hid (show SrcAt w1 (.slice a1 (ki ++ t).length c1) (ki ++ t).length (bvals (ki ++ t)) by rw [HLA.out]; exact SrcAt.of HA1.out); clear hown1 hgrow1 hlies1 ht1)
    | (go_at_call 138; clear HF2; have h9 := rsum_any a1 c1 (ki ++ t) w1 HS1.out (by rw [HLA.out]; omega); rw [HLA.out, HSM.out] at h9; refine h9.mono ?_; rintro e w2 ⟨a2, c2, rfl, hu2, hb2⟩; have HU2 := Lib.hid (SrcAt.of hu2); have HO2 := Lib.hid (HO1.out.older hb2); have HB2 := Lib.hid (HB1.out.trans (hb2.mono HB1.out.size)); clear hu2 hb2 h9)
    | (at_builtin; refine wpList_appw tyBytes rfl _ _ rfl w.heap.size (.slice b5 64 d5) 64 (bvals ko) rfl HO2.out HB2.out.size (.slice a2 32 c2) 32 (bvals sm) rfl HU2.out HLS.out (bvals_one _) (by omega) ?_; intro v3 w3 hown3 hgrow3 hlies3; rw [bvals_append] at hown3; obtain ⟨a3, c3, rfl, hc3⟩ := hown3.form; have HA3 := Lib.hid hown3; have HB3 := Lib.hid (belowK_grown HB2.out hgrow3 HB2.out.size (fun q hq => (HO2.out.lt q hq).1)); have HS3 := Lib.hid (show SrcAt w3 (.slice a3 (ko ++ sm).length c3) (ko ++ sm).length (bvals (ko ++ sm)) by rw [HLB.out]; exact SrcAt.of HA3.out); clear hown3 hgrow3 hlies3)
    | (go_at_call 138; have h9 := rsum_any a3 c3 (ko ++ sm) w3 HS3.out (by rw [HLB.out]; omega); rw [HLB.out, HFIN.out] at h9; refine h9.mono ?_; rintro e w4 ⟨ua, uc, rfl, hu4, hb4⟩; have HU4 := Lib.hid hu4; have HB4 := Lib.hid (HB3.out.trans (hb4.mono HB3.out.size)); clear hu4 hb4 h9))
   go_ret
   exact ⟨ua, uc, rfl, HU4.out.mono (fun k hk => by have := (HU4.out.lt k hk).1; have := (HBT.out HB3.out).size; omega), HBT.out HB4.out⟩
theorem rhmac_long (ka : Option Addr) (kc : Nat) (key : Bs) (ta : Option Addr) (tc : Nat) (t : Bs) (w : World) (hk : SrcAt w (.slice ka key.length kc) key.length (bvals key)) (ht : SrcAt w (.slice ta t.length tc) t.length (bvals t)) (hkl : key.length ≤ 536870912) (htl : t.length ≤ 536870912) (hs : 64 < key.length) :
 Calls Tryz.prog 100 #[.slice ka key.length kc, .slice ta t.length tc] w fun e w' => ∃ ua uc, e = .returned (.slice ua 32 uc) ∧ OwnWin w' w.heap.size 5 1 (.slice ua 32 uc) 32 (bvals (hmacM mixM key t)) ∧ Below w.heap.size w w' := by
 have hsi : (64 : Int) < (key.length : Int) := by omega
 have HK0 := Lib.hid hk
 have HT0 := Lib.hid ht
 obtain ⟨kk, hkk⟩ : ∃ kk, sumM mixM key = kk := ⟨_, rfl⟩
 have hk32 : kk.length = 32 := by rw [← hkk, sumM_len]
 have HKEY := Lib.hid (show keyM mixM key = kk by unfold keyM; rw [if_pos (by omega), hkk])
 have HKL := Lib.hid (show kk.length ≤ 64 by omega)
 have HK32 := Lib.hid hk32
 have HKK := Lib.hid hkk
 have HSUM := Lib.hid (fun wz h => rsum_any ka kc key wz h (by omega))
 clear hk ht hk32 hkk
 go_enter Tryz.func100, Tryz.ntmps100
 go_wp2_with fail
 go_at_call 138
 refine (HSUM.out _ HK0.out).mono ?_
 rw [HKK.out]
 rintro e wb ⟨ua0, uc0, rfl, hu1, hb1⟩
 have HS := Lib.hid (show SrcAt wb (.slice ua0 32 uc0) 32 (bvals kk) from SrcAt.of hu1)
 have HT := Lib.hid (HT0.out.older hb1)
 have HB := Lib.hid (Below.refl wb.heap.size wb)
 have HBK : Hid (∀ {wz : World}, Below wb.heap.size wb wz → Below wb.heap.size wb wz) := Lib.hid (fun h => h)
 have HBT : Hid (∀ {wz : World}, Below wb.heap.size wb wz → Below w.heap.size w wz) := Lib.hid (fun h => hb1.trans (h.mono hb1.size))
 clear hu1 hb1
 obtain ⟨P, hP⟩ : ∃ P, kk ++ List.replicate (64 - kk.length) 0 = P := ⟨_, rfl⟩
 have hPl : P.length = 64 := by rw [← hP, List.length_append, List.length_replicate]; have := HKL.out; omega
 have HPA : Hid (∀ x, P.map (· ^^^ x) = padK (keyM mixM key) x) := Lib.hid (fun x => by rw [← hP, HKEY.out]; rfl)
 have HPK : Hid (∀ (k : Nat) (y : UInt8), kk[k]? = some y → P[k]? = some y) := Lib.hid (fun k y hy => by rw [← hP, List.getElem?_append_left (List.getElem?_eq_some_iff.1 hy).1]; exact hy)
 have HPZ : Hid (∀ k : Nat, kk.length ≤ k → k < 64 → P[k]? = some 0) := Lib.hid (fun k h1 h2 => by rw [← hP, List.getElem?_append_right h1, List.getElem?_replicate, if_pos (by omega)])
 have HPL := Lib.hid hPl
 clear hP hPl
 have HM0 := Lib.hid (show TwoP wb wb (.slice none 0 0) (.slice none 0 0) P 0 from ⟨HB.out, OwnWin.nil _ _ _ _, OwnWin.nil _ _ _ _, fun q h => by cases h⟩)
 go_wp2_with fail
 go_loopg [14, 7, 8, 5, 6] 64 (fun gq iv s7 s8 s5 s6 wr => ∃ (k N : Nat) (a b : Option Addr) (c d : Nat), iv = .int .i64 k ∧ k ≤ 64 ∧ Hid (64 ≤ gq + k) ∧ Hid (N = k) ∧ s5 = .slice a N c ∧ s6 = .slice b N d ∧ TwoP wb wr (.slice a N c) (.slice b N d) P k)
 case atStart => exact ⟨0, 0, none, none, 0, 0, rfl, Nat.zero_le _, Lib.hid (by omega), Lib.hid rfl, rfl, rfl, HM0.out⟩
 case round =>
  obtain ⟨k, N, a5, b5, c5, d5, rfl, hk, HQ, HN, rfl, rfl, hm⟩ := hrel
  clear HM0
  have HM := Lib.hid hm
  have HSK := Lib.hid (HS.out.older (HBK.out HM.out.bel))
  have hNk : N = k := HN.out
  subst hNk
  clear hm
  by_cases hlt : N < 64
  ·have hk0 : (0 : Int) ≤ (N : Int) := by omega
   have hk1 : (N : Int) < 64 := by omega
   by_cases hin : N < kk.length
   ·obtain ⟨y, hy⟩ : ∃ y, kk[N]? = some y := ⟨_, List.getElem?_eq_getElem hin⟩
    have HY := Lib.hid (HPK.out N y hy)
    have hini : (N : Int) < (32 : Int) := by have := hin; have := HK32.out; omega
    obtain ⟨ad, had, hcell⟩ := srcPos HSK.out (show 0 < (bvals kk).length by rw [bvals_len]; omega)
    have hc9 := hcell N (.int .u8 (y.toNat : Int)) (by simp [bvals, hy])
    subst had
    have hz9 := World.block_lt_of_cell? wr _ hc9
    clear hcell hy
    have HXA := Lib.hid (show bits .xor .u8 (y.toNat : Int) 54 = ((y ^^^ 54).toNat : Int) from xorI 54 (.inl rfl) y)
    have HXB := Lib.hid (show bits .xor .u8 (y.toNat : Int) 92 = ((y ^^^ 92).toNat : Int) from xorI 92 (.inr rfl) y)
    have hb1 := (Below.refl wr.heap.size wr).alloc (Nat.le_refl _) (.cells #[.int .u8 (bits .xor .u8 (y.toNat : Int) 54)] 5)
    have HM1 := Lib.hid (HM.out.older hb1)
    go_wp2_with (first
     | (at_builtin; refine wpList_appw tyBytes (by rfl) _ _ (by rfl) wb.heap.size (.slice a5 N c5) N _ (by rfl) HM1.out.oa HM1.out.bel.size (.slice (some ⟨wr.heap.size, 0, none⟩) 1 1) 1 [.int .u8 (bits .xor .u8 (y.toNat : Int) 54)] (by rfl) (srcMany (heap_alloc_new wr _)) (by rfl) (by simp [Value.oneCell']) (by omega) ?_; intro v1 w1 hown1 hgrow1 hlies1; obtain ⟨a1, c1, rfl, hc1⟩ := hown1.form; have ht1 := Touch.of_grown (S := fun q => (Value.slice a5 N c5).ownBlock = some q) hgrow1 (fun k hk => hk); have HB1 := Lib.hid (belowK_grown HM1.out.bel hgrow1 HM1.out.bel.size (fun q hq => (HM1.out.oa.lt q hq).1)); have hb2 := (Below.refl w1.heap.size w1).alloc (Nat.le_refl _) (.cells #[.int .u8 (bits .xor .u8 (y.toNat : Int) 92)] 5); have HA1 := Lib.hid (hown1.older hb2); have HO1 := Lib.hid ((HM1.out.ob.touch ht1 (fun q hq hq2 => HM1.out.sep q hq2 hq)).older hb2); have HSP := Lib.hid (show ∀ q, (Value.slice a1 (N + 1) c1).ownBlock = some q → ¬ (Value.slice b5 N d5).ownBlock = some q from fun q hq hq2 => by
      rcases hlies1 with h1 | h1
      ·exact HM1.out.sep q (by rw [← h1]; exact hq) hq2
      ·have h3 := (HM1.out.ob.lt q hq2).2
       rw [h1] at hq
       have := Option.some.inj hq
       omega); have HBB := Lib.hid (HB1.out.alloc HB1.out.size (.cells #[.int .u8 (bits .xor .u8 (y.toNat : Int) 92)] 5)); have HZA := Lib.hid (show w1.heap.size ≤ (w1.alloc (.cells #[.int .u8 (bits .xor .u8 (y.toNat : Int) 92)] 5)).heap.size by simp); clear hown1 hgrow1 hlies1 ht1 hb2)
     | (at_builtin; refine wpList_appw tyBytes (by rfl) _ _ (by rfl) wb.heap.size (.slice b5 N d5) N _ (by rfl) HO1.out HBB.out.size (.slice (some ⟨w1.heap.size, 0, none⟩) 1 1) 1 [.int .u8 (bits .xor .u8 (y.toNat : Int) 92)] (by rfl) (srcMany (heap_alloc_new w1 _)) (by rfl) (by simp [Value.oneCell']) (by omega) ?_; intro v2 w2 hown2 hgrow2 hlies2; obtain ⟨b1, d1, rfl, hd1⟩ := hown2.form; have ht2 := Touch.of_grown (S := fun q => (Value.slice b5 N d5).ownBlock = some q) hgrow2 (fun k hk => hk); have HB2 := Lib.hid (belowK_grown HBB.out hgrow2 HBB.out.size (fun q hq => (HO1.out.lt q hq).1)); have HA2 := Lib.hid (HA1.out.touch ht2 (fun q hq hq2 => HSP.out q hq hq2)); have HO2 := Lib.hid hown2; have HSP2 := Lib.hid (show ∀ q, (Value.slice a1 (N + 1) c1).ownBlock = some q → ¬ (Value.slice b1 (N + 1) d1).ownBlock = some q from fun q hq hq2 => by
      rcases hlies2 with h1 | h1
      ·exact HSP.out q hq (by rw [← h1]; exact hq2)
      ·have h3 := (HA1.out.lt q hq).2
       rw [h1] at hq2
       have := Option.some.inj hq2
       omega); clear hown2 hgrow2 hlies2 ht2))
    have HMN := Lib.hid (show TwoP wb w2 (.slice a1 (N + 1) c1) (.slice b1 (N + 1) d1) P (N + 1) from ⟨HB2.out, by rw [padI_next HY.out, ← bvals_append]; have h9 := HA2.out; rw [HXA.out] at h9; exact h9, by rw [padI_next HY.out, ← bvals_append]; have h9 := HO2.out; rw [HXB.out] at h9; exact h9, HSP2.out⟩)
    go_roundg (gk - 1)
    case rel => exact ⟨N + 1, N + 1, a1, b1, c1, d1, by go_num, by omega, Lib.hid (by have := HQ.out; omega), Lib.hid rfl, rfl, rfl, HMN.out⟩
    case measure => have := HQ.out; omega
   ·have hini : ¬ (N : Int) < (32 : Int) := by have := hin; have := HK32.out; omega
    have HY := Lib.hid (HPZ.out N (by omega) hlt)
    have HXA := Lib.hid (show bits .xor .u8 0 54 = (((0 : UInt8) ^^^ 54).toNat : Int) from xorI 54 (.inl rfl) 0)
    have HXB := Lib.hid (show bits .xor .u8 0 92 = (((0 : UInt8) ^^^ 92).toNat : Int) from xorI 92 (.inr rfl) 0)
    have hb1 := (Below.refl wr.heap.size wr).alloc (Nat.le_refl _) (.cells #[.int .u8 (bits .xor .u8 0 54)] 5)
    have HM1 := Lib.hid (HM.out.older hb1)
    go_wp2_with (first
     | (at_builtin; refine wpList_appw tyBytes (by rfl) _ _ (by rfl) wb.heap.size (.slice a5 N c5) N _ (by rfl) HM1.out.oa HM1.out.bel.size (.slice (some ⟨wr.heap.size, 0, none⟩) 1 1) 1 [.int .u8 (bits .xor .u8 0 54)] (by rfl) (srcMany (heap_alloc_new wr _)) (by rfl) (by simp [Value.oneCell']) (by omega) ?_; intro v1 w1 hown1 hgrow1 hlies1; obtain ⟨a1, c1, rfl, hc1⟩ := hown1.form; have ht1 := Touch.of_grown (S := fun q => (Value.slice a5 N c5).ownBlock = some q) hgrow1 (fun k hk => hk); have HB1 := Lib.hid (belowK_grown HM1.out.bel hgrow1 HM1.out.bel.size (fun q hq => (HM1.out.oa.lt q hq).1)); have hb2 := (Below.refl w1.heap.size w1).alloc (Nat.le_refl _) (.cells #[.int .u8 (bits .xor .u8 0 92)] 5); have HA1 := Lib.hid (hown1.older hb2); have HO1 := Lib.hid ((HM1.out.ob.touch ht1 (fun q hq hq2 => HM1.out.sep q hq2 hq)).older hb2); have HSP := Lib.hid (show ∀ q, (Value.slice a1 (N + 1) c1).ownBlock = some q → ¬ (Value.slice b5 N d5).ownBlock = some q from fun q hq hq2 => by
      rcases hlies1 with h1 | h1
      ·exact HM1.out.sep q (by rw [← h1]; exact hq) hq2
      ·have h3 := (HM1.out.ob.lt q hq2).2
       rw [h1] at hq
       have := Option.some.inj hq
       omega); have HBB := Lib.hid (HB1.out.alloc HB1.out.size (.cells #[.int .u8 (bits .xor .u8 0 92)] 5)); have HZA := Lib.hid (show w1.heap.size ≤ (w1.alloc (.cells #[.int .u8 (bits .xor .u8 0 92)] 5)).heap.size by simp); clear hown1 hgrow1 hlies1 ht1 hb2)
     | (at_builtin; refine wpList_appw tyBytes (by rfl) _ _ (by rfl) wb.heap.size (.slice b5 N d5) N _ (by rfl) HO1.out HBB.out.size (.slice (some ⟨w1.heap.size, 0, none⟩) 1 1) 1 [.int .u8 (bits .xor .u8 0 92)] (by rfl) (srcMany (heap_alloc_new w1 _)) (by rfl) (by simp [Value.oneCell']) (by omega) ?_; intro v2 w2 hown2 hgrow2 hlies2; obtain ⟨b1, d1, rfl, hd1⟩ := hown2.form; have ht2 := Touch.of_grown (S := fun q => (Value.slice b5 N d5).ownBlock = some q) hgrow2 (fun k hk => hk); have HB2 := Lib.hid (belowK_grown HBB.out hgrow2 HBB.out.size (fun q hq => (HO1.out.lt q hq).1)); have HA2 := Lib.hid (HA1.out.touch ht2 (fun q hq hq2 => HSP.out q hq hq2)); have HO2 := Lib.hid hown2; have HSP2 := Lib.hid (show ∀ q, (Value.slice a1 (N + 1) c1).ownBlock = some q → ¬ (Value.slice b1 (N + 1) d1).ownBlock = some q from fun q hq hq2 => by
      rcases hlies2 with h1 | h1
      ·exact HSP.out q hq (by rw [← h1]; exact hq2)
      ·have h3 := (HA1.out.lt q hq).2
       rw [h1] at hq2
       have := Option.some.inj hq2
       omega); clear hown2 hgrow2 hlies2 ht2))
    have HMN := Lib.hid (show TwoP wb w2 (.slice a1 (N + 1) c1) (.slice b1 (N + 1) d1) P (N + 1) from ⟨HB2.out, by rw [padI_next HY.out, ← bvals_append]; have h9 := HA2.out; rw [HXA.out] at h9; exact h9, by rw [padI_next HY.out, ← bvals_append]; have h9 := HO2.out; rw [HXB.out] at h9; exact h9, HSP2.out⟩)
    go_roundg (gk - 1)
    case rel => exact ⟨N + 1, N + 1, a1, b1, c1, d1, by go_num, by omega, Lib.hid (by have := HQ.out; omega), Lib.hid rfl, rfl, rfl, HMN.out⟩
    case measure => have := HQ.out; omega
  ·obtain rfl : N = 64 := by omega
   have HI := Lib.hid (show OwnWin wr wb.heap.size 5 1 (.slice a5 64 c5) 64 (bvals (padK (keyM mixM key) 54)) by rw [← HPA.out, ← padI_all HPL.out]; exact HM.out.oa)
   have HO := Lib.hid (show OwnWin wr wb.heap.size 5 1 (.slice b5 64 d5) 64 (bvals (padK (keyM mixM key) 92)) by rw [← HPA.out, ← padI_all HPL.out]; exact HM.out.ob)
   have HSEP := Lib.hid HM.out.sep
   have HBW := Lib.hid HM.out.bel
   obtain ⟨ki, hki⟩ : ∃ x, padK (keyM mixM key) 54 = x := ⟨_, rfl⟩
   obtain ⟨ko, hko⟩ : ∃ x, padK (keyM mixM key) 92 = x := ⟨_, rfl⟩
   rw [hki] at HI
   rw [hko] at HO
   have hkil : ki.length = 64 := by have h9 := HI.out.1; rw [bvals_len] at h9; omega
   have hkol : ko.length = 64 := by have h9 := HO.out.1; rw [bvals_len] at h9; omega
   obtain ⟨sm, hsm⟩ : ∃ x, sumM mixM (ki ++ t) = x := ⟨_, rfl⟩
   have hsml : sm.length = 32 := by rw [← hsm, sumM_len]
   have HSM := Lib.hid hsm
   have HFIN := Lib.hid (show sumM mixM (ko ++ sm) = hmacM mixM key t by unfold hmacM; rw [hki, hko, hsm])
   have HKI := Lib.hid hkil
   have HKO := Lib.hid hkol
   have HSL := Lib.hid hsml
   have HTW := Lib.hid (HT.out.older HBW.out)
   have HTL := Lib.hid (show (bvals t).length = t.length * 1 by rw [bvals_len]; omega)
   have HTN := Lib.hid (show 64 + t.length ≤ 1099511627776 by omega)
   have HLA := Lib.hid (show (ki ++ t).length = 64 + t.length by rw [List.length_append, hkil])
   have HLB := Lib.hid (show (ko ++ sm).length = 96 by rw [List.length_append, hkol, hsml])
   have HLS := Lib.hid (show (bvals sm).length = 32 * 1 by rw [bvals_len, hsml])
   clear hki hko hkil hkol hsm hsml
   have HF1 : True := trivial
   have HF2 : True := trivial
   clear HM HSK HPA HPK HPZ
   go_wp2_with (first
    | (at_builtin; clear HF1; refine wpList_appw tyBytes rfl _ _ rfl wb.heap.size (.slice a5 64 c5) 64 (bvals ki) rfl HI.out HBW.out.size (.slice ta t.length tc) t.length (bvals t) rfl HTW.out HTL.out (bvals_one _) HTN.out ?_; intro v1 w1 hown1 hgrow1 hlies1; rw [bvals_append] at hown1; obtain ⟨a1, c1, rfl, hc1⟩ := hown1.form; have HA1 := Lib.hid hown1; have ht1 := Touch.of_grown (S := fun q => (Value.slice a5 64 c5).ownBlock = some q) hgrow1 (fun k hk => hk); have HO1 := Lib.hid (HO.out.touch ht1 (fun q hq hq2 => HSEP.out q hq2 hq)); have HB1 := Lib.hid (belowK_grown HBW.out hgrow1 HBW.out.size (fun q hq => (HI.out.lt q hq).1)); have HS1 := Lib.hid (show SrcAt w1 (.slice a1 (ki ++ t).length c1) (ki ++ t).length (bvals (ki ++ t)) by rw [HLA.out]; exact SrcAt.of HA1.out); clear hown1 hgrow1 hlies1 ht1)
    | (go_at_call 138; clear HF2; have h9 := rsum_any a1 c1 (ki ++ t) w1 HS1.out (by rw [HLA.out]; omega); rw [HLA.out, HSM.out] at h9; refine h9.mono ?_; rintro e w2 ⟨a2, c2, rfl, hu2, hb2⟩; have HU2 := Lib.hid (SrcAt.of hu2); have HO2 := Lib.hid (HO1.out.older hb2); have HB2 := Lib.hid (HB1.out.trans (hb2.mono HB1.out.size)); clear hu2 hb2 h9)
    | (at_builtin; refine wpList_appw tyBytes rfl _ _ rfl wb.heap.size (.slice b5 64 d5) 64 (bvals ko) rfl HO2.out HB2.out.size (.slice a2 32 c2) 32 (bvals sm) rfl HU2.out HLS.out (bvals_one _) (by omega) ?_; intro v3 w3 hown3 hgrow3 hlies3; rw [bvals_append] at hown3; obtain ⟨a3, c3, rfl, hc3⟩ := hown3.form; have HA3 := Lib.hid hown3; have HB3 := Lib.hid (belowK_grown HB2.out hgrow3 HB2.out.size (fun q hq => (HO2.out.lt q hq).1)); have HS3 := Lib.hid (show SrcAt w3 (.slice a3 (ko ++ sm).length c3) (ko ++ sm).length (bvals (ko ++ sm)) by rw [HLB.out]; exact SrcAt.of HA3.out); clear hown3 hgrow3 hlies3)
    | (go_at_call 138; have h9 := rsum_any a3 c3 (ko ++ sm) w3 HS3.out (by rw [HLB.out]; omega); rw [HLB.out, HFIN.out] at h9; refine h9.mono ?_; rintro e w4 ⟨ua, uc, rfl, hu4, hb4⟩; have HU4 := Lib.hid hu4; have HB4 := Lib.hid (HB3.out.trans (hb4.mono HB3.out.size)); clear hu4 hb4 h9))
   go_ret
   exact ⟨ua, uc, rfl, HU4.out.mono (fun k hk => by have := (HU4.out.lt k hk).1; have := (HBT.out HB3.out).size; omega), HBT.out HB4.out⟩
theorem rhmac_any (ka : Option Addr) (kc : Nat) (key : Bs) (ta : Option Addr) (tc : Nat) (t : Bs) (w : World) (hk : SrcAt w (.slice ka key.length kc) key.length (bvals key)) (ht : SrcAt w (.slice ta t.length tc) t.length (bvals t)) (hkl : key.length ≤ 536870912) (htl : t.length ≤ 536870912) :
 Calls Tryz.prog 100 #[.slice ka key.length kc, .slice ta t.length tc] w fun e w' => ∃ ua uc, e = .returned (.slice ua 32 uc) ∧ OwnWin w' w.heap.size 5 1 (.slice ua 32 uc) 32 (bvals (hmacM mixM key t)) ∧ Below w.heap.size w w' := by
 by_cases hs : key.length ≤ 64
 ·exact rhmac_short ka kc key ta tc t w hk ht hkl htl hs
 ·exact rhmac_long ka kc key ta tc t w hk ht hkl htl (by omega)
end Dg
end Go.Proofs.YtpkhbhdidkkebaaGreatDoor
end

section
namespace Go.Proofs.YtpkhbhdidkkebaaGreatDoor
open Go.RowKit Pl Ad Go.Shelf
attribute [local go_sem] ba_get ba_append ba_extract_end ba_extract_zero ba_extract conv_one A1.conv_bytes
set_option maxRecDepth 100000
set_option maxHeartbeats 4000000
set_option linter.unusedVariables false
set_option linter.unusedSimpArgs false
namespace Sg
open Kr A1 Dg
theorem bytesSrc {w : World} {g c : Nat} {l : Bs} (h : A1.BytesAt w g l) : SrcAt w (.slice (some ⟨g, 0, none⟩) l.length c) l.length (bvals l) := by
 refine .inr ⟨_, _, rfl, fun j x hx => ?_⟩
 obtain ⟨hj, hx⟩ := List.getElem?_eq_some_iff.1 hx
 rw [bvals_len] at hj
 have h9 := h.cell j hj
 rw [Addr.add_lit, Nat.zero_add, h9, ← hx]
 simp [bvals]
theorem srcTake {w : World} {g o n m c : Nat} {l : Bs} (h : SrcAt w (.slice (some ⟨g, o, none⟩) n c) n (bvals l)) : SrcAt w (.slice (some ⟨g, o, none⟩) m c) m (bvals (l.take m)) := by
 rcases h with ⟨h, _⟩ | ⟨ad, c', h1, h2⟩
 ·cases h
 ·cases h1
  refine .inr ⟨_, _, rfl, fun j x hx => h2 j x ?_⟩
  unfold bvals at hx ⊢
  rw [List.map_take, List.getElem?_take] at hx
  split at hx
  ·exact hx
  ·cases hx
theorem own32 {w : World} {B e uc : Nat} {ua : Option Addr} {xs : List Value} (h : OwnWin w B e 1 (.slice ua 32 uc) 32 xs) : ∃ g o, ua = some ⟨g, o, none⟩ ∧ 32 ≤ uc := by
 obtain ⟨g, o, c, e', hnc, _⟩ := h.cells (by decide)
 have h5 := Value.slice.inj e'
 exact ⟨g, o, h5.1, by rw [h5.2.2]; exact hnc⟩
theorem valid_len {a : Adr} (h : valid a = true) : a.text.length ≤ 1024 := ((valid_iff a).1 h).2.2.2.2.2
theorem text_parts (a : Adr) : a.host.length + a.path.length ≤ a.text.length ∧ (a.has = true → a.query.length + 1 + a.host.length + a.path.length = a.text.length) := by
 obtain ⟨h, p, q, b⟩ := a
 cases b <;> simp [Adr.text, adText] <;> omega
theorem signature_any (a : Adr) (sa : Option Addr) (sc : Nat) (sec : Bs) (w : World) (hg : SgnAt w) (hs : SrcAt w (.slice sa sec.length sc) sec.length (bvals sec)) (hv : valid a = true) (hsl : sec.length ≤ 134217728) :
 Calls Tryz.prog 48 #[adV a, .slice sa sec.length sc] w fun e w' => e = .returned (.tuple #[.string ⟨(sigM mixM sec a.text).toArray⟩, .nilIface]) ∧ Below w.heap.size w w' := by
 have hvl := valid_len hv
 obtain ⟨hp1, hp2⟩ := text_parts a
 have hqn := valid_has hv
 have hq : a.query.length ≤ 1024 := by
  cases hb : a.has
  ·rw [hqn hb]; simp
  ·have := hp2 hb; omega
 have HFMT : Hid (∀ wz, SgnAt wz → Calls Tryz.prog 18 #[adV a] wz fun e w' => e = .returned (.tuple #[.string ⟨a.text.toArray⟩, .nilIface]) ∧ Below wz.heap.size wz w') := Lib.hid (fun wz hz => format_yes a wz hz.rdy (by omega) (by omega) (by omega) hv)
 obtain ⟨tx, htx⟩ : ∃ x, a.text = x := ⟨_, rfl⟩
 rw [htx] at HFMT hvl
 have HG := Lib.hid hg
 have HS := Lib.hid hs
 obtain ⟨hm, hhm⟩ : ∃ x, hmacM mixM sec tx = x := ⟨_, rfl⟩
 have HSIG := Lib.hid (show hexL (hm.take 16) = sigM mixM sec tx by rw [← hhm]; rfl)
 have HL16 := Lib.hid (show (hm.take 16).length = 16 by rw [List.length_take, ← hhm, hmacM_len]; rfl)
 have HMAC : Hid (∀ (ta : Option Addr) (tc : Nat) (wz : World), SrcAt wz (.slice sa sec.length sc) sec.length (bvals sec) → SrcAt wz (.slice ta tx.length tc) tx.length (bvals tx) → SgnAt wz → Calls Tryz.prog 21 #[.slice sa sec.length sc, .slice ta tx.length tc] wz fun e w' => ∃ ua uc, e = .returned (.slice ua 32 uc) ∧ OwnWin w' wz.heap.size 5 1 (.slice ua 32 uc) 32 (bvals hm) ∧ Below wz.heap.size wz w') := Lib.hid (fun ta tc wz h1 h2 h3 => by rw [← hhm]; exact hmac_any sa sc sec ta tc tx wz h1 h2 h3.con (by omega) (by omega))
 obtain ⟨h, p, q, b⟩ := a
 have HB0 := Lib.hid ((Below.refl w.heap.size w).alloc (Nat.le_refl _) (.cells #[.string ⟨h.toArray⟩, .string ⟨p.toArray⟩, .string ⟨q.toArray⟩, .bool b] 27))
 clear hg hs hhm hv hqn hq hp1 hp2
 rw [htx]
 clear htx
 go_enter Tryz.func48, Tryz.ntmps48
 go_wp2_with (first
  | (go_at_call 18; refine (HFMT.out _ (HG.out.below HB0.out)).mono ?_; rintro e w1 ⟨rfl, hb1⟩; have HB1 := Lib.hid (HB0.out.trans (hb1.mono HB0.out.size)); have HBW := Lib.hid (HB1.out.trans ((A1.bworld_below w1 tx).mono HB1.out.size)); have HTX := Lib.hid (bytesSrc (c := A1.bcap w1 tx) (A1.bytesAt_new w1 tx)); clear hb1)
  | (go_at_call 21; refine (HMAC.out _ _ _ (HS.out.older HBW.out) HTX.out (HG.out.below HBW.out)).mono ?_; rintro e w3 ⟨ua, uc, rfl, hu3, hb3⟩; have HB3 := Lib.hid (HBW.out.trans (hb3.mono HBW.out.size)); obtain ⟨g, o, rfl, hnc⟩ := own32 hu3; have HX3 := Lib.hid (show SrcAt w3 (.slice (some ⟨g, o, none⟩) (hm.take 16).length uc) (hm.take 16).length (bvals (hm.take 16)) by rw [HL16.out]; exact srcTake (SrcAt.of hu3)); have h16 : (16 : Int) ≤ (uc : Int) := (by omega); have h16n : 16 ≤ uc := (by omega); have HEX := Lib.hid (hex_any (some ⟨g, o, none⟩) uc (hm.take 16) w3 HX3.out (by have := HL16.out; omega)); clear hu3 hb3)
  | (go_at_call 22; have h9 := HEX.out; rw [HL16.out, HSIG.out] at h9; refine h9.mono ?_; rintro e w4 ⟨rfl, hb4⟩; have HB4 := Lib.hid (HB3.out.trans (hb4.mono HB3.out.size)); clear hb4 h9))
 go_ret2
 exact ⟨rfl, HB4.out⟩
theorem begun_lens7 (a : Adr) (t : TokM) (h : t.frm ≤ 1099511627776) (h2 : t.til ≤ 1099511627776) : (Ad.begun a t).host = a.host ∧ (Ad.begun a t).path = a.path ∧ (Ad.begun a t).has = true ∧ (Ad.begun a t).query.length ≤ a.query.length + t.id.length + 40 := by
 have h3 := decI_len h
 have h4 := decI_len h2
 obtain ⟨x, p, q, b⟩ := a
 cases b <;> simp [Ad.begun, Adr.plus, pK, pF, pU] <;> omega
theorem rsignature_any (a : Adr) (t : TokM) (sa : Option Addr) (sc : Nat) (sec : Bs) (w : World) (hs : SrcAt w (.slice sa sec.length sc) sec.length (bvals sec)) (h1 : a.host.length ≤ 33554432) (h2 : a.path.length ≤ 33554432) (h3 : a.query.length ≤ 33554432) (hid : t.id.length ≤ 33554432) (hf0 : 0 ≤ t.frm) (hf1 : t.frm ≤ 1099511627776) (hu0 : 0 ≤ t.til) (hu1 : t.til ≤ 1099511627776) (hsl : sec.length ≤ 134217728) :
 Calls Tryz.prog 71 #[adV a, tkV t, .slice sa sec.length sc] w fun e w' => e = .returned (.string ⟨(sigM mixM sec (Ad.begun a t).text).toArray⟩) ∧ Below w.heap.size w w' := by
 obtain ⟨l1, l2, l3, l4⟩ := begun_lens7 a t hf1 hu1
 obtain ⟨bg, hbg⟩ : ∃ x, Ad.begun a t = x := ⟨_, rfl⟩
 have HPA : Hid (∀ wz, Calls Tryz.prog 70 #[adV a, tkV t] wz fun e w' => e = .returned (adV bg) ∧ Below wz.heap.size wz w') := Lib.hid (fun wz => by rw [← hbg]; exact parts_any a t wz h3 hid hf0 hf1 hu0 hu1)
 rw [hbg] at l1 l2 l3 l4
 rw [hbg]
 have HTE : Hid (∀ wz, Calls Tryz.prog 72 #[adV bg] wz fun e w' => e = .returned (.string ⟨bg.text.toArray⟩) ∧ Below wz.heap.size wz w') := Lib.hid (fun wz => refText_any bg.host bg.path bg.query bg.has wz (by rw [l1]; omega) (by rw [l2]; omega) (by omega))
 have hvl : bg.text.length ≤ 268435456 := by
  have e9 : bg.text.length = bg.host.length + bg.path.length + (1 + bg.query.length) := by rw [Adr.text, adText, l3]; simp; omega
  rw [e9, l1, l2]; omega
 obtain ⟨tx, htx⟩ : ∃ x, bg.text = x := ⟨_, rfl⟩
 rw [htx] at HTE hvl
 rw [htx]
 have HS := Lib.hid hs
 obtain ⟨hm, hhm⟩ : ∃ x, hmacM mixM sec tx = x := ⟨_, rfl⟩
 have HSIG := Lib.hid (show hexL (hm.take 16) = sigM mixM sec tx by rw [← hhm]; rfl)
 have HL16 := Lib.hid (show (hm.take 16).length = 16 by rw [List.length_take, ← hhm, hmacM_len]; rfl)
 have HMAC : Hid (∀ (ta : Option Addr) (tc : Nat) (wz : World), SrcAt wz (.slice sa sec.length sc) sec.length (bvals sec) → SrcAt wz (.slice ta tx.length tc) tx.length (bvals tx) → Calls Tryz.prog 100 #[.slice sa sec.length sc, .slice ta tx.length tc] wz fun e w' => ∃ ua uc, e = .returned (.slice ua 32 uc) ∧ OwnWin w' wz.heap.size 5 1 (.slice ua 32 uc) 32 (bvals hm) ∧ Below wz.heap.size wz w') := Lib.hid (fun ta tc wz h1 h2 => by rw [← hhm]; exact rhmac_any sa sc sec ta tc tx wz h1 h2 (by omega) (by omega))
 obtain ⟨h, p, q, b⟩ := a
 obtain ⟨id, frm, til⟩ := t
 obtain ⟨h', p', q', b'⟩ := bg
 have HB0 := Lib.hid (((Below.refl w.heap.size w).alloc (Nat.le_refl _) (.cells #[.string ⟨h.toArray⟩, .string ⟨p.toArray⟩, .string ⟨q.toArray⟩, .bool b] 63)).alloc (by simp) (.cells #[.string ⟨id.toArray⟩, .int .i64 frm, .int .i64 til] 64))
 clear hs hhm hbg htx l1 l2 l3 l4 h1 h2 h3 hid
 go_enter Tryz.func71, Tryz.ntmps71
 go_wp2_with (first
  | (go_at_call 70; refine (HPA.out _).mono ?_; rintro e w0 ⟨rfl, hb0⟩; have HBP := Lib.hid (HB0.out.trans (hb0.mono HB0.out.size)); clear hb0)
  | (go_at_call 72; refine (HTE.out _).mono ?_; rintro e w1 ⟨rfl, hb1⟩; have HB1 := Lib.hid (HBP.out.trans (hb1.mono HBP.out.size)); have HBW := Lib.hid (HB1.out.trans ((A1.bworld_below w1 tx).mono HB1.out.size)); have HTX := Lib.hid (bytesSrc (c := A1.bcap w1 tx) (A1.bytesAt_new w1 tx)); clear hb1)
  | (go_at_call 100; refine (HMAC.out _ _ _ (HS.out.older HBW.out) HTX.out).mono ?_; rintro e w3 ⟨ua, uc, rfl, hu3, hb3⟩; have HB3 := Lib.hid (HBW.out.trans (hb3.mono HBW.out.size)); obtain ⟨g, o, rfl, hnc⟩ := own32 hu3; have HX3 := Lib.hid (show SrcAt w3 (.slice (some ⟨g, o, none⟩) (hm.take 16).length uc) (hm.take 16).length (bvals (hm.take 16)) by rw [HL16.out]; exact srcTake (SrcAt.of hu3)); have h16 : (16 : Int) ≤ (uc : Int) := (by omega); have h16n : 16 ≤ uc := (by omega); have HEX := Lib.hid (rhex_any (some ⟨g, o, none⟩) uc (hm.take 16) w3 HX3.out (by have := HL16.out; omega)); clear hu3 hb3)
  | (go_at_call 99; have h9 := HEX.out; rw [HL16.out, HSIG.out] at h9; refine h9.mono ?_; rintro e w4 ⟨rfl, hb4⟩; have HB4 := Lib.hid (HB3.out.trans (hb4.mono HB3.out.size)); clear hb4 h9))
 go_ret
 exact ⟨rfl, HB4.out⟩
end Sg
end Go.Proofs.YtpkhbhdidkkebaaGreatDoor
end

section
namespace Go.Proofs.YtpkhbhdidkkebaaGreatDoor
open Go.RowKit Pl Ad Go.Shelf
attribute [local go_sem] ba_get ba_append ba_extract_end ba_extract_zero ba_extract conv_one
set_option maxRecDepth 100000
set_option maxHeartbeats 4000000
set_option linter.unusedVariables false
set_option linter.unusedSimpArgs false
namespace Sg
open Kr A1 Dg
/-- What Sign returns. -/
def signA (a : Adr) (t : TokM) (sec : Bs) : Adr := if checkS a t = 0 then signed a t (sigM mixM sec (Ad.begun a t).text) else ⟨[], [], [], false⟩
theorem bgS_new (w : World) (T1 T2 : Nat) (h p q id : Bs) (b : Bool) (frm til : Int) (ZZ : Array Value) : BgS w (((w.alloc (.cells #[.string ⟨h.toArray⟩, .string ⟨p.toArray⟩, .string ⟨q.toArray⟩, .bool b] T1)).alloc (.cells #[.string ⟨id.toArray⟩, .int .i64 frm, .int .i64 til] T2)).alloc (.cells ZZ T1)) T1 T2 ⟨h, p, q, b⟩ ⟨id, frm, til⟩ ZZ :=
 ⟨(((Below.refl _ _).alloc (Nat.le_refl _) _).alloc (by simp) _).alloc (by simp; omega) _, ((Bx.new w _ _).older ((Below.refl _ _).alloc (Nat.le_refl _) _)).older ((Below.refl _ _).alloc (Nat.le_refl _) _),
  by have h9 := (Bx.new (w.alloc (.cells #[.string ⟨h.toArray⟩, .string ⟨p.toArray⟩, .string ⟨q.toArray⟩, .bool b] T1)) T2 #[.string ⟨id.toArray⟩, .int .i64 frm, .int .i64 til]).older ((Below.refl _ _).alloc (Nat.le_refl _) (.cells ZZ T1)); rw [show (w.alloc (.cells #[.string ⟨h.toArray⟩, .string ⟨p.toArray⟩, .string ⟨q.toArray⟩, .bool b] T1)).heap.size = w.heap.size + 1 by simp] at h9; exact h9,
  by have h9 := Bx.new ((w.alloc (.cells #[.string ⟨h.toArray⟩, .string ⟨p.toArray⟩, .string ⟨q.toArray⟩, .bool b] T1)).alloc (.cells #[.string ⟨id.toArray⟩, .int .i64 frm, .int .i64 til] T2)) T1 ZZ; rw [show ((w.alloc (.cells #[.string ⟨h.toArray⟩, .string ⟨p.toArray⟩, .string ⟨q.toArray⟩, .bool b] T1)).alloc (.cells #[.string ⟨id.toArray⟩, .int .i64 frm, .int .i64 til] T2)).heap.size = w.heap.size + 2 by simp] at h9; exact h9⟩
theorem BgS.cells4 {w0 w : World} {T1 T2 : Nat} {a : Adr} {t : TokM} {v0 v1 v2 v3 : Value} (h : BgS w0 w T1 T2 a t #[v0, v1, v2, v3]) (u0 u1 u2 u3 : Value) :
 let W := ((((w.setCell ⟨w0.heap.size + 2, 0, none⟩ u0).setCell ⟨w0.heap.size + 2, 1, none⟩ u1).setCell ⟨w0.heap.size + 2, 2, none⟩ u2).setCell ⟨w0.heap.size + 2, 3, none⟩ u3)
 (W.cell? ⟨w0.heap.size + 2, 0, none⟩ = some u0 ∧ W.cell? ⟨w0.heap.size + 2, 1, none⟩ = some u1 ∧ W.cell? ⟨w0.heap.size + 2, 2, none⟩ = some u2 ∧ W.cell? ⟨w0.heap.size + 2, 3, none⟩ = some u3) ∧ Below w0.heap.size w0 W :=
 have hr := ((((h.rb.set 0 u0).set 1 u1).set 2 u2).set 3 u3)
 ⟨⟨hr.cell (i := 0) rfl, hr.cell (i := 1) rfl, hr.cell (i := 2) rfl, hr.cell (i := 3) rfl⟩, Box.set h.bel (by omega) _ _ _ _⟩
theorem sign_any (a : Adr) (t : TokM) (sa : Option Addr) (sc : Nat) (sec : Bs) (w : World) (hg : SgnAt w) (hs : SrcAt w (.slice sa sec.length sc) sec.length (bvals sec)) (h1 : a.host.length ≤ 33554432) (h2 : a.path.length ≤ 33554432) (h3 : a.query.length ≤ 33554432) (hid : t.id.length ≤ 33554432) (hsl : sec.length ≤ 134217728) :
 Calls Tryz.prog 15 #[adV a, tkV t, .slice sa sec.length sc] w fun e w' => e = .returned (.tuple #[adV (signA a t sec), errC (checkS a t)]) ∧ Below w.heap.size w w' := by
 have HG := Lib.hid hg
 have HS := Lib.hid hs
 by_cases hc : checkS a t = 0
 ·have HA := Lib.hid (show signA a t sec = signed a t (sigM mixM sec (Ad.begun a t).text) from if_pos hc)
  have HE := Lib.hid (errC_ok hc)
  have HBV := begun_valid hc
  obtain ⟨_, _, _, k4, k5, k6, _⟩ := checkS_ok.1 hc
  have hbl := begun_lens a t (by omega) k6
  have HCHK : Hid (∀ wz, SgnAt wz → Calls Tryz.prog 46 #[adV a, tkV t] wz fun e w' => e = .returned .nilIface ∧ Below wz.heap.size wz w') := Lib.hid (fun wz hz => by have h9 := check_any a t wz hz h1 h2 h3 hid; rw [HE.out] at h9; exact h9)
  have HBGN : Hid (∀ wz, SgnAt wz → Calls Tryz.prog 47 #[adV a, tkV t] wz fun e w' => e = .returned (adV (Ad.begun a t)) ∧ Below wz.heap.size wz w') := Lib.hid (fun wz hz => begun_any a t wz hz h3 hid (by omega) (by omega) (by omega) (by omega))
  obtain ⟨bg, hbg⟩ : ∃ x, Ad.begun a t = x := ⟨_, rfl⟩
  have HAB := Lib.hid (show signed a t (sigM mixM sec (Ad.begun a t).text) = bg.plus (pS ++ sigM mixM sec bg.text) by rw [hbg]; unfold signed; rw [hbg])
  rw [hbg] at HBGN HBV hbl
  obtain ⟨sg, hsg⟩ : ∃ x, sigM mixM sec bg.text = x := ⟨_, rfl⟩
  have hsl2 : sg.length = 32 := by rw [← hsg, sigM_len]
  have HSIG : Hid (∀ wz, SgnAt wz → SrcAt wz (.slice sa sec.length sc) sec.length (bvals sec) → Calls Tryz.prog 48 #[adV bg, .slice sa sec.length sc] wz fun e w' => e = .returned (.tuple #[.string ⟨sg.toArray⟩, .nilIface]) ∧ Below wz.heap.size wz w') := Lib.hid (fun wz hz hs => by rw [← hsg]; exact signature_any bg sa sc sec wz hz hs HBV hsl)
  have HWTH : Hid (∀ wz, Calls Tryz.prog 49 #[adV bg, .string ⟨(pS ++ sg).toArray⟩] wz fun e w' => e = .returned (adV (bg.plus (pS ++ sg))) ∧ Below wz.heap.size wz w') := Lib.hid (fun wz => with_any bg (pS ++ sg) wz (by have := hbl.2.2.2; omega) (by simp [pS]; omega))
  rw [hsg] at HAB
  obtain ⟨a4, ha4⟩ : ∃ x, bg.plus (pS ++ sg) = x := ⟨_, rfl⟩
  rw [ha4] at HAB HWTH
  obtain ⟨h, p, q, b⟩ := a
  obtain ⟨id, frm, til⟩ := t
  obtain ⟨hb, pb, qb, bb⟩ := bg
  obtain ⟨h4, p4, q4, b4⟩ := a4
  have HS0 := Lib.hid (bgS_new w 27 51 h p q id b frm til #[.string ⟨#[]⟩, .string ⟨#[]⟩, .string ⟨#[]⟩, .bool false])
  clear hg hs hc h1 h2 h3 hid HBV hbl hbg hsg ha4 k4 k5 k6
  go_enter Tryz.func15, Tryz.ntmps15
  go_wp2_with (first
   | (go_at_call 46; refine (HCHK.out _ (HG.out.below HS0.out.bel)).mono ?_; rintro e w1 ⟨rfl, hb1⟩; have HS1 := Lib.hid (HS0.out.older hb1); clear hb1; obtain ⟨⟨⟨c0, c1, c2, c3⟩, ⟨f0, f1, f2, f3⟩⟩, ⟨d0, d1, d2⟩, ⟨⟨e0, e1, e2, e3⟩, ⟨g0, g1, g2, g3⟩⟩, hz⟩ := HS1.out.facts)
   | (go_at_call 47; refine (HBGN.out _ (HG.out.below HS1.out.bel)).mono ?_; rintro e w2 ⟨rfl, hb2⟩; have HS2 := Lib.hid (HS1.out.older hb2); have HX3 := Lib.hid (Bx.new w2 27 #[.string ⟨hb.toArray⟩, .string ⟨pb.toArray⟩, .string ⟨qb.toArray⟩, .bool bb]); have HS3 := Lib.hid (HS2.out.older ((Below.refl w2.heap.size w2).alloc (Nat.le_refl _) (.cells #[.string ⟨hb.toArray⟩, .string ⟨pb.toArray⟩, .string ⟨qb.toArray⟩, .bool bb] 27))); clear hb2; clear c0 c1 c2 c3 f0 f1 f2 f3 d0 d1 d2 e0 e1 e2 e3 g0 g1 g2 g3 hz)
   | (go_at_call 48; refine (HSIG.out _ (HG.out.below HS3.out.bel) (HS.out.older HS3.out.bel)).mono ?_; rintro e w4 ⟨rfl, hb4⟩; have HS4 := Lib.hid (HS3.out.older hb4); have HX4 := Lib.hid (HX3.out.older hb4); have x0 := HX4.out.cell (i := 0) rfl; have x1 := HX4.out.cell (i := 1) rfl; have x2 := HX4.out.cell (i := 2) rfl; have x3 := HX4.out.cell (i := 3) rfl; have hx := HX4.out.lt; clear hb4)
   | (go_at_call 49; refine (HWTH.out _).mono ?_; rintro e w5 ⟨rfl, hb5⟩; have HS5 := Lib.hid (HS4.out.older hb5); clear hb5 x0 x1 x2 x3 hx; obtain ⟨⟨⟨c0, c1, c2, c3⟩, ⟨f0, f1, f2, f3⟩⟩, ⟨d0, d1, d2⟩, ⟨⟨e0, e1, e2, e3⟩, ⟨g0, g1, g2, g3⟩⟩, hz⟩ := HS5.out.facts))
  obtain ⟨⟨z0, z1, z2, z3⟩, hbf⟩ := HS5.out.cells4 (.string ⟨h4.toArray⟩) (.string ⟨p4.toArray⟩) (.string ⟨q4.toArray⟩) (.bool b4)
  refine bodyPost_ret (v := .tuple #[adV ⟨h4, p4, q4, b4⟩, .nilIface]) (by simp [results, Tryz.results15, go_sem, z0, z1, z2, z3]) rfl ⟨?_, hbf⟩
  rw [HA.out, HE.out, HAB.out]
 ·obtain ⟨n, hn⟩ : ∃ x, checkS a t = x := ⟨_, rfl⟩
  have HA := Lib.hid (show signA a t sec = ⟨[], [], [], false⟩ from if_neg hc)
  rw [hn] at hc
  have HE := Lib.hid (errC_of hn hc)
  have HCHK : Hid (∀ wz, SgnAt wz → Calls Tryz.prog 46 #[adV a, tkV t] wz fun e w' => e = .returned (errV n) ∧ Below wz.heap.size wz w') := Lib.hid (fun wz hz => by have h9 := check_any a t wz hz h1 h2 h3 hid; rw [HE.out] at h9; exact h9)
  obtain ⟨h, p, q, b⟩ := a
  obtain ⟨id, frm, til⟩ := t
  have HS0 := Lib.hid (bgS_new w 27 51 h p q id b frm til #[.string ⟨#[]⟩, .string ⟨#[]⟩, .string ⟨#[]⟩, .bool false])
  clear hg hs hc h1 h2 h3 hid hn
  go_enter Tryz.func15, Tryz.ntmps15
  go_wp2_with (go_at_call 46; refine (HCHK.out _ (HG.out.below HS0.out.bel)).mono ?_; rintro e w1 ⟨rfl, hb1⟩; have HS1 := Lib.hid (HS0.out.older hb1); clear hb1; obtain ⟨⟨⟨c0, c1, c2, c3⟩, ⟨f0, f1, f2, f3⟩⟩, ⟨d0, d1, d2⟩, ⟨⟨e0, e1, e2, e3⟩, ⟨g0, g1, g2, g3⟩⟩, hz⟩ := HS1.out.facts)
  obtain ⟨⟨z0, z1, z2, z3⟩, hbf⟩ := HS1.out.cells4 (.string ⟨#[]⟩) (.string ⟨#[]⟩) (.string ⟨#[]⟩) (.bool false)
  refine bodyPost_ret (v := .tuple #[adV ⟨[], [], [], false⟩, errV n]) (by simp [results, Tryz.results15, go_sem, z0, z1, z2, z3]) rfl ⟨?_, hbf⟩
  rw [HA.out, HE.out]
end Sg
end Go.Proofs.YtpkhbhdidkkebaaGreatDoor
end

