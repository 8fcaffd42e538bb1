/- Contracts and plain facts that the statement's proof leans on (texts joined). No condition beyond those that each names. -/
import Derived.Lib.SliceRun
import Derived.Carry
import Derived.WalkLawsBesides
import Derived.Test.YtpkhbhdidkkebaaGreatDoorPvF
import Derived.Test.YtpkhbhdidkkebaaGreatDoorPvK
section
namespace Go.Proofs.YtpkhbhdidkkebaaGreatDoor
open Go.RowKit Pl Ad
attribute [local go_sem] ba_get ba_append ba_extract_end ba_extract_zero ba_extract
set_option maxRecDepth 100000
set_option maxHeartbeats 4000000
set_option linter.unusedVariables false
set_option linter.unusedSimpArgs false
namespace Kr
def findE (l : List Ent) (id : Bs) : Option Ent := l.find? fun e => e.key.id == id
def ptrE : Option Ent → Value
  | none => .pointer none
  | some e => ptrK e.blk
theorem ptrE_none : ptrE none = .pointer none := rfl
theorem ptrE_some (e : Ent) : ptrE (some e) = ptrK e.blk := rfl
theorem find_hit {l : List Ent} {k : Nat} (hk : k < l.length) {id : Bs} (h : findE (l.drop k) id = findE l id) (he : (l[k].key.id == id) = true) : findE l id = some l[k] := by
 rw [← h, drop_cons hk]; unfold findE; rw [List.find?_cons, he]
theorem find_miss {l : List Ent} {k : Nat} (hk : k < l.length) {id : Bs} (h : findE (l.drop k) id = findE l id) (he : (l[k].key.id == id) = false) : findE (l.drop (k + 1)) id = findE l id := by
 rw [← h, drop_cons hk]; unfold findE; rw [List.find?_cons, he]
theorem find_end {l : List Ent} {k : Nat} (hk : ¬ k < l.length) {id : Bs} (h : findE (l.drop k) id = findE l id) : findE l id = none := by
 rw [← h, List.drop_of_length_le (by omega)]; rfl
theorem RingAt.found {w : World} {B R : Nat} {V : Nat → Value} {E : Nat → List Ent} (h : RingAt w B R V E) {t : Int} {e : Ent} (he : e ∈ tlK E t) : EntAt w B e := by
 unfold tlK at he
 split at he
 ·rename_i ht
  exact h.ent t.toNat (by omega) e he
 ·cases he
theorem find_any (B R : Nat) (t : Int) (id : Bs) (V : Nat → Value) (E : Nat → List Ent) (w : World) (h : RingAt w B R V E) (hl : (tlK E t).length ≤ 1000000) :
 Calls Tryz.prog 40 #[ptrK R, .int .i64 t, .string ⟨id.toArray⟩] w fun r w' => r = .returned (ptrE (findE (tlK E t) id)) ∧ w = w' := by
 obtain ⟨a, c, hv, hk⟩ := h.slot t
 have HR := Lib.hid h
 have HV := Lib.hid hv
 have HK := Lib.hid hk
 clear h hv hk
 generalize tlK E t = l at hl HV HK ⊢
 go_enter Tryz.func40, Tryz.ntmps40
 go_wp2_with (go_at_call 44; refine (of_any B R t V E _ HR.out).mono ?_; rw [HV.out]; rintro e w' ⟨rfl, rfl⟩)
 go_loop [13] (fun i => ∃ k : Nat, k ≤ l.length ∧ i = .int .i64 k ∧ Hid (findE (l.drop k) id = findE l id)) (fun i => l.length - (intOf i).toNat)
 case atStart => exact ⟨0, Nat.zero_le _, rfl, Lib.hid rfl⟩
 case round =>
  obtain ⟨k, hk, rfl, H⟩ := hrel
  by_cases hlt : k < l.length
  ·obtain ⟨b, o, ha, hc, hcell, hent⟩ := HK.out k hlt
   have HF1 := Lib.hid (find_hit hlt H.out)
   have HF2 := Lib.hid (find_miss hlt H.out)
   subst ha
   generalize l[k] = x at hcell hent HF1 HF2
   obtain ⟨⟨c0, c1, c2, c3, c4⟩, _, hz⟩ := hent.facts
   clear hent
   cases he : (x.key.id == id) with
   | true =>
     have HF := Lib.hid (HF1.out he)
     go_wp2
     go_ret
     exact ⟨by rw [HF.out]; rfl, rfl⟩
   | false =>
     have HF := Lib.hid (HF2.out he)
     go_wp2
     go_round
     case rel => exact ⟨k + 1, by omega, by go_num, Lib.hid HF.out⟩
     case measure => simp [intOf]; omega
  ·have HF := Lib.hid (find_end hlt H.out)
   go_wp2
   go_ret
   exact ⟨by rw [HF.out]; rfl, rfl⟩
theorem findE_some {l : List Ent} {id : Bs} {e : Ent} (h : findE l id = some e) : e ∈ l := List.mem_of_find?_eq_some h
def validE (l : List Ent) (id : Bs) (n : Int) : Bool := match findE l id with
 | none => false
 | some e => e.key.at n
theorem valid_any (B R : Nat) (t n : Int) (id : Bs) (V : Nat → Value) (E : Nat → List Ent) (w : World) (h : RingAt w B R V E) (hl : (tlK E t).length ≤ 1000000) :
 Calls Tryz.prog 16 #[ptrK R, .int .i64 t, .string ⟨id.toArray⟩, .int .i64 n] w fun r w' => r = .returned (.bool (validE (tlK E t) id n)) ∧ w = w' := by
 have HR := Lib.hid h
 clear h
 obtain ⟨o, ho⟩ : ∃ o, findE (tlK E t) id = o := ⟨_, rfl⟩
 have HO := Lib.hid ho
 cases o with
 | none =>
   have HV := Lib.hid (show validE (tlK E t) id n = false by unfold validE; rw [ho])
   clear ho
   go_enter Tryz.func16, Tryz.ntmps16
   go_wp2_with (go_at_call 40; refine (find_any B R t id V E _ HR.out hl).mono ?_; rw [HO.out, ptrE_none]; rintro e w' ⟨rfl, rfl⟩)
   go_ret
   exact ⟨ret_bool HV.out.symm, rfl⟩
 | some x =>
   have HV := Lib.hid (show validE (tlK E t) id n = x.key.at n by unfold validE; rw [ho])
   have HE := Lib.hid (HR.out.found (findE_some ho))
   clear ho
   go_enter Tryz.func16, Tryz.ntmps16
   go_wp2_with (first | (go_at_call 40; refine (find_any B R t id V E _ HR.out hl).mono ?_; rw [HO.out, ptrE_some]; rintro e w' ⟨rfl, rfl⟩) | (go_at_call 50; refine (entValid_any x B n _ HE.out).mono ?_; rintro e w' ⟨rfl, rfl⟩))
   go_ret
   exact ⟨ret_bool HV.out.symm, rfl⟩
def pickE (l : List Ent) (n : Int) (k : Nat) : Option Nat := pickI (fun e => e.key.at n) (fun a b => betterK a.key b.key) l k
theorem pickI_map {α β : Type} (f : α → β) (p : β → Bool) (bt : β → β → Bool) (l : List α) : ∀ k, pickI p bt (l.map f) k = pickI (fun a => p (f a)) (fun a b => bt (f a) (f b)) l k
  | 0 => rfl
  | k + 1 => by
    rw [pickI, pickI, pickI_map f p bt l k, List.getElem?_map]
    cases l[k]? with
    | none => rfl
    | some e =>
      simp only [Option.map_some]
      congr 1
      cases pickI (fun a => p (f a)) (fun a b => bt (f a) (f b)) l k with
      | none => rfl
      | some j =>
        simp only [List.getElem?_map]
        cases l[j]? <;> rfl
theorem pickE_keys (l : List Ent) (n : Int) : pickE l n l.length = signI (l.map Ent.key) n := by
 unfold signI pickE
 rw [pickI_map, List.length_map]
def ptrP (l : List Ent) : Option Nat → Value
  | none => .pointer none
  | some j => match l[j]? with
    | some e => ptrK e.blk
    | none => .pointer none
theorem ptrP_none (l : List Ent) : ptrP l none = .pointer none := rfl
theorem ptrP_at {l : List Ent} {j : Nat} {e : Ent} (h : l[j]? = some e) : ptrP l (some j) = ptrK e.blk := by unfold ptrP; simp only [h]
theorem signing_any (B R : Nat) (t n : Int) (V : Nat → Value) (E : Nat → List Ent) (w : World) (h : RingAt w B R V E) (hl : (tlK E t).length ≤ 1000000) :
 Calls Tryz.prog 42 #[ptrK R, .int .i64 t, .int .i64 n] w fun r w' => r = .returned (ptrP (tlK E t) (pickE (tlK E t) n (tlK E t).length)) ∧ ∃ q, w' = w.drewN q := by
 obtain ⟨a, c, hv, hk⟩ := h.slot t
 have HR := Lib.hid h
 have HV := Lib.hid hv
 have HK := Lib.hid hk
 have HEA := Lib.hid (fun e (he : e ∈ tlK E t) => h.found he)
 clear h hv hk
 generalize tlK E t = l at hl HV HK HEA ⊢
 go_enter Tryz.func42, Tryz.ntmps42
 go_wp2_with (go_at_call 44; refine (of_any B R t V E _ HR.out).mono ?_; rw [HV.out]; rintro e w' ⟨rfl, rfl⟩)
 go_loopw [7, 14] (fun o i wr => ∃ (k q : Nat), k ≤ l.length ∧ i = .int .i64 k ∧ o = ptrP l (pickE l n k) ∧ wr = w.drewN q) (fun _ i _ => l.length - (intOf i).toNat)
 case atStart => exact ⟨0, 0, Nat.zero_le _, rfl, rfl, rfl⟩
 case round =>
  obtain ⟨k, q, hk, rfl, rfl, rfl⟩ := hrel
  by_cases hlt : k < l.length
  ·obtain ⟨b, o, ha, hc, hcell, hent⟩ := HK.out k hlt
   have HX : Hid (l[k]? = some l[k]) := Lib.hid (List.getElem?_eq_getElem hlt)
   subst ha
   generalize l[k] = x at hcell hent HX
   obtain ⟨⟨c0, c1, c2, c3, c4⟩, _, hz⟩ := hent.facts
   have HE := Lib.hid hent
   clear hent
   cases hat : x.key.at n with
   | false =>
     have HAT := Lib.hid hat
     have HF := Lib.hid (show pickE l n (k + 1) = pickE l n k from pickI_not HX.out hat)
     go_wp2
     go_quiet ((go_at_call 50; exact quiet_add ((entValid_any x B n _ (HE.out.older (below_drewN (Below.refl _ _) _))).mono fun e w' hx => by rw [HAT.out] at hx; exact hx)))
     go_wp2
     go_roundw
     case rel => exact ⟨k + 1, _, by omega, by go_num, by rw [HF.out], rfl⟩
     case measure => simp [intOf]; omega
   | true =>
     have HAT := Lib.hid hat
     obtain ⟨s, hs⟩ : ∃ s, pickE l n k = s := ⟨_, rfl⟩
     have HS := Lib.hid hs
     cases s with
     | none =>
       have HF := Lib.hid (show pickE l n (k + 1) = some k from pickI_first HX.out hat hs)
       rw [hs, ptrP_none]
       clear hat hs
       go_wp2
       go_quiet ((go_at_call 50; exact quiet_add ((entValid_any x B n _ (HE.out.older (below_drewN (Below.refl _ _) _))).mono fun e w' hx => by rw [HAT.out] at hx; exact hx)))
       go_wp2
       go_roundw
       case rel => exact ⟨k + 1, _, by omega, by go_num, by rw [HF.out, ptrP_at HX.out], rfl⟩
       case measure => simp [intOf]; omega
     | some j =>
       obtain ⟨_, y, hy, _⟩ := pickI_lt hs
       have HY := Lib.hid hy
       have HEY := Lib.hid (HEA.out y (List.mem_of_getElem? hy))
       obtain ⟨⟨d0, d1, d2, d3, d4⟩, _, hzy⟩ := HEY.out.facts
       rw [hs, ptrP_at hy]
       have HYES := Lib.hid (fun hb => (show pickE l n (k + 1) = some k from pickI_yes HX.out hat hs hy hb))
       have HNO := Lib.hid (fun hb => (show pickE l n (k + 1) = some j from pickI_no HX.out hat hs hy hb))
       clear hat hs hy
       cases h1 : decide (y.key.frm < x.key.frm) with
       | true =>
         have HF := Lib.hid (HYES.out (by unfold betterK; rw [h1]; rfl))
         go_wp2
         go_quiet ((go_at_call 50; exact quiet_add ((entValid_any x B n _ (HE.out.older (below_drewN (Below.refl _ _) _))).mono fun e w' hx => by rw [HAT.out] at hx; exact hx)))
         go_wp2
         go_roundw
         case rel => exact ⟨k + 1, _, by omega, by go_num, by rw [HF.out, ptrP_at HX.out], rfl⟩
         case measure => simp [intOf]; omega
       | false =>
         cases h2 : (x.key.frm == y.key.frm) with
         | true =>
           have HQ : Hid (betterK x.key y.key = Op.bytesLess x.key.id y.key.id) := Lib.hid (by unfold betterK; rw [h1, decide_eq_true (beq_iff_eq.1 h2)]; rfl)
           cases h3 : Op.bytesLess x.key.id y.key.id with
           | true =>
             have HF := Lib.hid (HYES.out (by rw [HQ.out, h3]))
             go_wp2
             go_quiet ((go_at_call 50; exact quiet_add ((entValid_any x B n _ (HE.out.older (below_drewN (Below.refl _ _) _))).mono fun e w' hx => by rw [HAT.out] at hx; exact hx)))
             go_wp2
             go_roundw
             case rel => exact ⟨k + 1, _, by omega, by go_num, by rw [HF.out, ptrP_at HX.out], rfl⟩
             case measure => simp [intOf]; omega
           | false =>
             have HF := Lib.hid (HNO.out (by rw [HQ.out, h3]))
             go_wp2
             go_quiet ((go_at_call 50; exact quiet_add ((entValid_any x B n _ (HE.out.older (below_drewN (Below.refl _ _) _))).mono fun e w' hx => by rw [HAT.out] at hx; exact hx)))
             go_wp2
             go_roundw
             case rel => exact ⟨k + 1, _, by omega, by go_num, by rw [HF.out, ptrP_at HY.out], rfl⟩
             case measure => simp [intOf]; omega
         | false =>
           have HF := Lib.hid (HNO.out (by unfold betterK; rw [h1, decide_eq_false (beq_eq_false_iff_ne.1 h2)]; rfl))
           go_wp2
           go_quiet ((go_at_call 50; exact quiet_add ((entValid_any x B n _ (HE.out.older (below_drewN (Below.refl _ _) _))).mono fun e w' hx => by rw [HAT.out] at hx; exact hx)))
           go_wp2
           go_roundw
           case rel => exact ⟨k + 1, _, by omega, by go_num, by rw [HF.out, ptrP_at HY.out], rfl⟩
           case measure => simp [intOf]; omega
  ·have HF := Lib.hid (show k = l.length by omega)
   go_wp2
   go_ret
   exact ⟨by rw [HF.out]; rfl, _, rfl⟩
end Kr
end Go.Proofs.YtpkhbhdidkkebaaGreatDoor
end

