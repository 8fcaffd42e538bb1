/- Contracts and plain facts that the statement's proof leans on (texts joined). No condition beyond those that each names. -/
import Derived.StillTailTactics
import Derived.Test.YtpkhbhdidkkebaaGreatDoorPvQ
section
namespace Go.Proofs.YtpkhbhdidkkebaaGreatDoor
open Go.RowKit Pl Ad
attribute [local go_sem] ba_get ba_append ba_extract_end ba_extract_zero ba_extract
set_option maxRecDepth 100000
set_option maxHeartbeats 4000000
set_option linter.unusedVariables false
set_option linter.unusedSimpArgs false
namespace Kr
theorem tlK_upd {E : Nat → List Ent} {n : Nat} {l : List Ent} (hn : n < 16) (s : Int) : tlK (updT E n l) s = if s = (n : Int) then l else tlK E s := by
 unfold tlK
 by_cases hs : 0 ≤ s ∧ s < 16
 ·rw [if_pos hs, if_pos hs]
  by_cases e : s = (n : Int)
  ·rw [if_pos e, e]; exact updT_same E n l
  ·rw [if_neg e, updT_other E l (by omega)]
 ·rw [if_neg hs, if_neg hs, if_neg (by omega)]
theorem keysOf_upd {E : Nat → List Ent} {n : Nat} {l : List Ent} (hn : n < 16) (s : Int) : keysOf (updT E n l) s = if s = (n : Int) then l.map Ent.key else keysOf E s := by
 unfold keysOf
 rw [tlK_upd hn]
 by_cases e : s = (n : Int)
 ·rw [if_pos e, if_pos e]
 ·rw [if_neg e, if_neg e]
/-- What a call makes of a ring. -/
structure RDone (w w' : World) (B R : Nat) (V V' : Nat → Value) (E E' : Nat → List Ent) : Prop where
 ring : RingAt w' B R V' E'
 goes : RGoes w w' R V V' E E'
 sec : ∀ q, q < w.heap.size → SecOff E q → SecOff E' q
theorem RDone.same {w w' : World} {B R : Nat} {V : Nat → Value} {E : Nat → List Ent} (h : RingAt w B R V E) (hb : Below w.heap.size w w') : RDone w w' B R V V E E :=
 ⟨h.older hb, RGoes.of_below hb, fun q _ hq => hq⟩
theorem RDone.trans {w w1 w2 : World} {B R : Nat} {V V1 V2 : Nat → Value} {E E1 E2 : Nat → List Ent} (h : RDone w w1 B R V V1 E E1) (k : RDone w1 w2 B R V1 V2 E1 E2) : RDone w w2 B R V V2 E E2 :=
 ⟨k.ring, h.goes.trans k.goes, fun q hq hs => k.sec q (Nat.lt_of_lt_of_le hq h.goes.touch.size) (h.sec q hq hs)⟩
theorem RDone.older {w w1 w2 : World} {B R : Nat} {V V1 : Nat → Value} {E E1 : Nat → List Ent} (h : RDone w w1 B R V V1 E E1) (hb : Below w1.heap.size w1 w2) : RDone w w2 B R V V1 E E1 :=
 h.trans (RDone.same h.ring hb)
def KStep (E E' : Nat → List Ent) (t : Int) (l : List KeyM) : Prop := ∀ s, keysOf E' s = if s = t then l else keysOf E s
theorem kStep_same (E : Nat → List Ent) (t : Int) : KStep E E t (keysOf E t) := fun s => by by_cases e : s = t <;> simp [e]
theorem add_any (B R : Nat) (t : Int) (id sec : Bs) (frm til : Int) (sa : Option Addr) (sc : Nat) (V : Nat → Value) (E : Nat → List Ent) (w : World) (h : RingAt w B R V E) (hB : B ≤ w.heap.size) (hi : id.length ≤ 2147483648) (hl : (tlK E t).length ≤ 1000000)
    (hsec : SrcAt w (.slice sa sec.length sc) sec.length (bvals sec)) :
    Calls Tryz.prog 24 #[ptrK R, .int .i64 t, keyV id (.slice sa sec.length sc) frm til] w fun e w' => ∃ V' E', e = .returned (errC (addC t (keysOf E t) ⟨id, sec, frm, til, 0⟩)) ∧ RDone w w' B R V V' E E' ∧ KStep E E' t (addL t (keysOf E t) ⟨id, sec, frm, til, 0⟩) ∧ ∀ (s : Int) (i : Nat) (e : Ent), (tlK E s)[i]? = some e → (tlK E' s)[i]? = some e := by
 have bad : ∀ c : Int, ¬ c = 0 → addC t (keysOf E t) ⟨id, sec, frm, til, 0⟩ = c → ∀ (e : Ending) (w' : World), (e = .returned (.iface 43 (.int .i64 c)) ∧ Below w.heap.size w w') →
     ∃ V' E', e = .returned (errC (addC t (keysOf E t) ⟨id, sec, frm, til, 0⟩)) ∧ RDone w w' B R V V' E E' ∧ KStep E E' t (addL t (keysOf E t) ⟨id, sec, frm, til, 0⟩) ∧ ∀ (s : Int) (i : Nat) (e : Ent), (tlK E s)[i]? = some e → (tlK E' s)[i]? = some e := fun c hc ha e w' hx => by
  refine ⟨V, E, ?_, RDone.same h hx.2, ?_, fun _ _ _ h => h⟩
  ·rw [hx.1, ha, errC_err rfl hc]
  ·unfold addL; rw [ha, if_neg hc]; exact kStep_same E t
 cases hn : idOk id with
 | false => exact (add_name B R t id sec frm til sa sc V E w h hi hl hn).mono (bad 8 (by decide) (addC_name hn))
 | true =>
   cases hg : rngK t ⟨id, sec, frm, til, 0⟩ with
   | true => exact (add_rng B R t id sec frm til sa sc V E w h hi hl hn hg).mono (bad 1 (by decide) (addC_rng hn hg))
   | false =>
     by_cases ho : til ≤ frm
     ·exact (add_ord B R t id sec frm til sa sc V E w h hi hl hn hg ho).mono (bad 7 (by decide) (addC_ord hn hg ho))
     ·cases hx : hasId (keysOf E t) id with
      | true => exact (add_has B R t id sec frm til sa sc V E w h hi hl hn hg ho hx).mono (bad 4 (by decide) (addC_has hn hg ho hx))
      | false =>
        obtain ⟨h0, h1, _⟩ := rngK_iff.1 hg
        obtain ⟨n, rfl⟩ : ∃ n : Nat, t = (n : Int) := ⟨t.toNat, by omega⟩
        have hn16 : n < 16 := by omega
        have ha := addC_ok hn hg ho hx
        have hk : keysOf E n = (E n).map Ent.key := by unfold keysOf; rw [tlK_nat E hn16]
        refine (add_ok B R n id sec frm til sa sc V E w h hB hi (by rw [← tlK_nat E hn16]; exact hl) hn hg ho (by rw [← hk]; exact hx) hsec).mono fun e w' he => ?_
        obtain ⟨v', x, rfl, hxk, hr, hgo, hsx⟩ := he
        refine ⟨_, _, by rw [ha]; rfl, ⟨hr, hgo, ?_⟩, ?_, ?_⟩
        ·intro q hq hs s hs16 e he hq2
         by_cases e' : s = n
         ·subst e'
          rw [updT_same] at he
          rcases List.mem_append.1 he with he | he
          ·exact hs s hs16 e he hq2
          ·rw [List.mem_singleton.1 he] at hq2
           have := hsx q hq2; omega
         ·rw [updT_other E _ e'] at he
          exact hs s hs16 e he hq2
        ·intro s
         rw [keysOf_upd hn16]
         by_cases e' : s = (n : Int)
         ·rw [if_pos e', if_pos e']
          unfold addL
          rw [if_pos ha, List.map_append, hk]
          simp [hxk, newK]
         ·rw [if_neg e', if_neg e']
        ·intro s i e he
         rw [tlK_upd hn16]
         by_cases e' : s = (n : Int)
         ·rw [if_pos e']
          rw [e', tlK_nat E hn16] at he
          rw [List.getElem?_append_left (List.getElem?_eq_some_iff.1 he).1]
          exact he
         ·rw [if_neg e']; exact he
/-- A cell of a key's variable is written. -/
theorem ring_set {w : World} {B R n i j : Nat} {V : Nat → Value} {E : Nat → List Ent} {x y : Ent} {u : Value} (h : RingAt w B R V E) (hn : n < 16) (hx : (E n)[i]? = some x) (hb : y.blk = x.blk) (hs : y.sv = x.sv) (hk : y.key.sec = x.key.sec) (hc : y.cells = x.cells.setIfInBounds j u) :
 RingAt (w.setCell ⟨x.blk, j, none⟩ u) B R V (updT E n ((E n).set i y)) := by
 have hi := (List.getElem?_eq_some_iff.1 hx).1
 have hxat := h.ent n hn x (List.mem_of_getElem? hx)
 have hts := touch_set1 w x.blk j u
 obtain ⟨C, hC, hCs, hCv⟩ := h.box
 have hptr : ((E n).set i y).map Ent.ptr = (E n).map Ent.ptr := by
  rw [List.map_set]
  apply List.ext_getElem?
  intro k
  by_cases e : i = k
  ·subst e
   rw [List.getElem?_set_self (by simpa using hi), List.getElem?_map, hx]
   simp [Ent.ptr, hb]
  ·rw [List.getElem?_set_ne e]
 have key : ∀ (t k : Nat) (a : Ent), t < 16 → (updT E n ((E n).set i y) t)[k]? = some a → (¬ (t = n ∧ k = i) ∧ (E t)[k]? = some a) ∨ (t = n ∧ k = i ∧ a = y) := fun t k a ht ha => by
  by_cases e : t = n
  ·subst e
   rw [updT_same] at ha
   by_cases e2 : i = k
   ·subst e2
    rw [List.getElem?_set_self hi] at ha
    exact .inr ⟨rfl, rfl, (Option.some.inj ha).symm⟩
   ·rw [List.getElem?_set_ne e2] at ha
    exact .inl ⟨fun h => e2 h.2.symm, ha⟩
  ·rw [updT_other E _ e] at ha; exact .inl ⟨fun h => e h.1, ha⟩
 refine ⟨h.hR, ⟨C, hC.touch hts (fun e => hC.ne hxat.box (by decide) e), hCs, hCv⟩, fun t ht => ?_, h.sepV, fun t ht e he => ?_, fun t s k m a b ht hs' ha hb' hab => ?_⟩
 ·by_cases e : t = n
  ·subst e
   rw [updT_same, hptr, List.length_set]
   exact (h.own t ht).touch hts (fun k hk hq => hxat.box.neOwn (h.own t ht) (by decide) k hk hq)
  ·rw [updT_other E _ e]
   exact (h.own t ht).touch hts (fun k hk hq => hxat.box.neOwn (h.own t ht) (by decide) k hk hq)
 ·obtain ⟨k, hk'⟩ := List.getElem?_of_mem he
  rcases key t k e ht hk' with ⟨hne, h1⟩ | ⟨rfl, rfl, rfl⟩
  ·have h2 := h.ent t ht e (List.mem_of_getElem? h1)
   refine ⟨h2.hb, h2.box.touch hts (fun hq => hne (h.sepE t n k i e x ht hn h1 hx hq)), h2.sec.touch hts (fun q hq hq2 => hxat.box.neOwn h2.sec (by decide) q hq hq2)⟩
  ·refine ⟨by rw [hb]; exact hxat.hb, ?_, ?_⟩
   ·rw [hb, hc]; exact hxat.box.set j u
   ·rw [hs, hk]
    exact hxat.sec.touch hts (fun q hq hq2 => hxat.box.neOwn hxat.sec (by decide) q hq hq2)
 ·rcases key t k a ht ha with ⟨hne, h1⟩ | ⟨rfl, rfl, rfl⟩ <;> rcases key s m b hs' hb' with ⟨hne2, h2⟩ | ⟨rfl, rfl, h2⟩
  ·exact h.sepE t s k m a b ht hs' h1 h2 hab
  ·subst h2; rw [hb] at hab; exact h.sepE t s k m a x ht hs' h1 hx hab
  ·rw [hb] at hab; exact h.sepE t s k m x b ht hs' hx h2 hab
  ·exact ⟨rfl, rfl⟩
theorem rdone_set {w : World} {B R n i j : Nat} {V : Nat → Value} {E : Nat → List Ent} {x y : Ent} {u : Value} (h : RingAt w B R V E) (hn : n < 16) (hx : (E n)[i]? = some x) (hb : y.blk = x.blk) (hs : y.sv = x.sv) (hk : y.key.sec = x.key.sec) (hc : y.cells = x.cells.setIfInBounds j u) :
 RDone w (w.setCell ⟨x.blk, j, none⟩ u) B R V V E (updT E n ((E n).set i y)) := by
 have hm : ∀ t e, e ∈ updT E n ((E n).set i y) t → ∃ e' ∈ E t, e'.blk = e.blk ∧ e'.sv = e.sv := fun t e he => by
  by_cases e' : t = n
  ·subst e'
   rw [updT_same] at he
   rcases List.mem_or_eq_of_mem_set he with he | rfl
   ·exact ⟨e, he, rfl, rfl⟩
   ·exact ⟨x, List.mem_of_getElem? hx, hb.symm, hs.symm⟩
  ·rw [updT_other E _ e'] at he; exact ⟨e, he, rfl, rfl⟩
 refine ⟨ring_set h hn hx hb hs hk hc, ⟨(Touch.refl _ w).setCell (a := ⟨x.blk, j, none⟩) (.inr ⟨n, hn, .inr ⟨x, List.mem_of_getElem? hx, rfl⟩⟩) u, fun q hq => .inl ?_⟩, fun q _ hs' t ht e he hq => ?_⟩
 ·rcases hq with rfl | ⟨t, ht, hq | ⟨e, he, rfl⟩⟩
  ·exact .inl rfl
  ·exact .inr ⟨t, ht, .inl hq⟩
  ·obtain ⟨e', h1, h2, _⟩ := hm t e he
   exact .inr ⟨t, ht, .inr ⟨e', h1, h2⟩⟩
 ·obtain ⟨e', h1, _, h3⟩ := hm t e he
  exact hs' t ht e' h1 (by rw [h3]; exact hq)
theorem findE_idx : ∀ {l : List Ent} {id : Bs} {x : Ent}, findE l id = some x → ∃ i, l[i]? = some x ∧ (l.map Ent.key).findIdx (fun k => k.id == id) = i
  | [], _, _, h => by cases h
  | e :: l, id, x, h => by
    unfold findE at h
    rw [List.find?_cons] at h
    cases he : (e.key.id == id) with
    | true =>
      rw [he] at h
      cases h
      exact ⟨0, rfl, by rw [List.map_cons, List.findIdx_cons, he]; rfl⟩
    | false =>
      rw [he] at h
      obtain ⟨i, h1, h2⟩ := findE_idx (l := l) (id := id) (x := x) h
      exact ⟨i + 1, h1, by rw [List.map_cons, List.findIdx_cons, he, h2]; rfl⟩
theorem findE_none : ∀ {l : List Ent} {id : Bs}, findE l id = none → (l.map Ent.key).findIdx (fun k => k.id == id) = l.length
  | [], _, _ => rfl
  | e :: l, id, h => by
    unfold findE at h
    rw [List.find?_cons] at h
    cases he : (e.key.id == id) with
    | true => rw [he] at h; cases h
    | false =>
      rw [he] at h
      rw [List.map_cons, List.findIdx_cons, he, findE_none (l := l) (id := id) h]; rfl
theorem modify_at {α : Type} {l : List α} {i : Nat} {k : α} (f : α → α) (h : l[i]? = some k) : l.modify i f = l.set i (f k) := by
 apply List.ext_getElem?
 intro j
 rw [List.getElem?_modify]
 by_cases e : i = j
 ·subst e
  rw [List.getElem?_set_self (List.getElem?_eq_some_iff.1 h).1, h]; simp
 ·rw [List.getElem?_set_ne e]; simp [e]
theorem modify_past {α : Type} {l : List α} (f : α → α) : l.modify l.length f = l := by
 apply List.ext_getElem?
 intro j
 rw [List.getElem?_modify]
 by_cases e : l.length = j
 ·subst e; simp
 ·simp [e]
theorem revoke_any (B R : Nat) (t : Int) (id : Bs) (n : Int) (V : Nat → Value) (E : Nat → List Ent) (w : World) (h : RingAt w B R V E) (hl : (tlK E t).length ≤ 1000000) :
 Calls Tryz.prog 10 #[ptrK R, .int .i64 t, .string ⟨id.toArray⟩, .int .i64 n] w fun e w' => ∃ E', e = .returned (errC (revC (keysOf E t) id)) ∧ RDone w w' B R V V E E' ∧ KStep E E' t (revL (keysOf E t) id n) := by
 have HR := Lib.hid h
 obtain ⟨o, ho⟩ : ∃ o, findE (tlK E t) id = o := ⟨_, rfl⟩
 have HO := Lib.hid ho
 cases o with
 | none =>
   have HC := Lib.hid (show errC (revC (keysOf E t) id) = .iface 43 (.int .i64 3) by
    unfold revC keysOf; rw [hasId_find, ho]; rfl)
   have HL := Lib.hid (show revL (keysOf E t) id n = keysOf E t by
    unfold revL keysOf
    rw [findE_none ho]
    have h9 := modify_past (l := (tlK E t).map Ent.key) (revK n)
    rw [List.length_map] at h9
    exact h9)
   clear ho h
   go_enter Tryz.func10, Tryz.ntmps10
   go_wp2_with (go_at_call 40; refine (find_any B R t id V E _ HR.out hl).mono ?_; rw [HO.out, ptrE_none]; rintro e w' ⟨rfl, rfl⟩)
   go_ret
   exact ⟨E, by rw [HC.out]; rfl, RDone.same HR.out (Below.refl _ _), by rw [HL.out]; exact kStep_same E t⟩
 | some x =>
   have HC := Lib.hid (show errC (revC (keysOf E t) id) = .nilIface by
    unfold revC keysOf; rw [hasId_find, ho]; rfl)
   obtain ⟨i, hi, hidx⟩ := findE_idx ho
   have ht : 0 ≤ t ∧ t < 16 := by
    unfold tlK at hi
    by_cases h9 : 0 ≤ t ∧ t < 16
    ·exact h9
    ·rw [if_neg h9] at hi; simp at hi
   obtain ⟨m, rfl⟩ : ∃ m : Nat, t = (m : Int) := ⟨t.toNat, by omega⟩
   have hm : m < 16 := by omega
   have hk : keysOf E m = (E m).map Ent.key := by unfold keysOf; rw [tlK_nat E hm]
   rw [tlK_nat E hm] at hi hidx
   have HL := Lib.hid (show revL (keysOf E m) id n = ((E m).map Ent.key).set i (revK n x.key) by
    unfold revL; rw [hk, hidx]; exact modify_at _ (by rw [List.getElem?_map, hi]; rfl))
   have hent := h.ent m hm x (List.mem_of_getElem? hi)
   obtain ⟨⟨c0, c1, c2, c3, c4⟩, ⟨f0, f1, f2, f3, f4⟩, hz⟩ := hent.facts
   have HI := Lib.hid hi
   have hx4 : w.drew.cell? ⟨x.blk, 4, none⟩ = some (.int .i64 x.key.rev) := c4
   have hf4 : w.drew.frozen? ⟨x.blk, 4, none⟩ = false := f4
   clear ho h hi hidx hk hent c0 c1 c2 c3 f0 f1 f2 f3
   go_enter Tryz.func10, Tryz.ntmps10
   go_wp2_with (go_at_call 40; refine (find_any B R m id V E _ HR.out hl).mono ?_; rw [HO.out, ptrE_some]; rintro e w' ⟨rfl, rfl⟩)
   refine wp_region_still_tail 10 (by kernel_rfl) (by kernel_rfl) ?_
   simp only [List.take_succ_cons, List.take_zero, List.drop_succ_cons, List.drop_zero]
   repeat still_step
   still_call ((clip_any n _).mono fun _ _ h => ⟨h.1, h.2.symm⟩)
   repeat still_step
   refine wpStill_nil ?_
   change wpList _ _ _ _ _ w.drew
   go_wp2
   go_ret
   have hs := rdone_set (j := 4) (u := .int .i64 (min x.key.rev (clipK n))) (y := ⟨x.blk, x.sv, revK n x.key⟩) (RDone.same HR.out (Below.refl _ _).drew).ring hm HI.out rfl rfl rfl rfl
   refine ⟨_, by rw [HC.out]; rfl, (RDone.same HR.out (Below.refl _ _).drew).trans hs, fun s => ?_⟩
   rw [keysOf_upd hm, HL.out, List.map_set]
end Kr
end Go.Proofs.YtpkhbhdidkkebaaGreatDoor
end

