/- Contracts: purgelog.New, Last, First, Append. Conditions: logs of at most a million entries; values of at most 2^27 bytes. Contracts: purgelog's Get, Since. Conditions: logs of at most a million entries. Contracts: purgelog's Shrink, Copy. Conditions: logs of at most a million entries. Contracts: purgelog's Shrink (all). Conditions: logs of at most a million entries. Contract: purgelog's Copy. Conditions: logs of at most a million entries. -/
import Derived.Test.YtnppicekfjdefaaDoorPurg4
import Derived.Test.YtnppicekfjdefaaDoorPurgP
import Derived.Test.YtnppicekfjdefaaDoorRowV
import Derived.Test.YtnppicekfjdefaaDoorInv
import Derived.BigQuiet
import Derived.Deep.RegionHeld3
import Derived.Deep.RegionLaw
section
namespace Go.Proofs.YtnppicekfjdefaaDoor
open Go.RowKit Pl Ad
attribute [local go_sem] ba_get ba_append ba_extract_end ba_extract_zero ba_extract
set_option maxRecDepth 100000
set_option maxHeartbeats 4000000
set_option linter.unusedVariables false
namespace A1

theorem tyPgs : SliceTy Tryd.prog 32 50 3 32 :=
  ⟨Tryd.underlying32, by
    obtain ⟨i, h1, h2, h3, h4⟩ := info_parts (show (Tryd.prog.info? 50).map (fun i => (i.zero, i.size, i.bytes)) = some (some (.agg #[.int .i64 0, .int .i64 0, .string ⟨#[]⟩]), 3, 32) by kernel_rfl)
    exact ⟨i, _, h1, h2, h3, h4, rfl⟩, by decide, by decide⟩

/-- The pointer to block R. -/
@[reducible] def ptrV (R : Nat) : Value := .pointer (some ⟨R, 0, none⟩)
/-- A log at block R: v is its slice. -/
structure LogAt (w : World) (B R : Nat) (v : Value) (L : LogM) : Prop where
  hR : B ≤ R
  box : Box3 w R 87 (.int .i64 L.win) (.int .i64 ((L.dropped : Int) + 1)) v
  own : OwnWin w B 50 3 v L.kept.length (pvals L.kept)
theorem LogAt.below {w w' : World} {B R : Nat} {v : Value} {L : LogM} (h : LogAt w B R v L) (hb : Below w.heap.size w w') : LogAt w' B R v L := ⟨h.hR, h.box.older hb, h.own.older hb⟩
/-- The slice's block is another than the log's. -/
theorem LogAt.apart {w : World} {B R : Nat} {v : Value} {L : LogM} (h : LogAt w B R v L) : ∀ q, v.ownBlock = some q → ¬ q = R := fun q hq e => by
  subst e
  rcases h.own.2 with ⟨rfl, _⟩ | ⟨g, o, cap, cur, rfl, _, hg, _⟩
  · cases hq
  · simp [Value.ownBlock] at hq
    subst hq
    have := Option.some.inj (h.box.symm.trans hg)
    injection this with _ e2
    exact absurd e2 (by decide)
/-- What a call may have written: the log's block and its slice's; its slice lies where it lay, or in a new block. -/
structure Goes (w w' : World) (R : Nat) (v v' : Value) : Prop where
  touch : Touch (fun k => k = R ∨ v.ownBlock = some k) w w'
  lies : ∀ q, v'.ownBlock = some q → v.ownBlock = some q ∨ w.heap.size ≤ q
theorem Goes.of_below {w w' : World} {R : Nat} {v : Value} (h : Below w.heap.size w w') : Goes w w' R v v := ⟨Touch.of_below h (Nat.le_refl _), fun q hq => .inl hq⟩

theorem plogNew_ok (n : Int) (w : World) (h1 : 1 ≤ n) (h2 : n ≤ 1024) :
    Calls Tryd.prog 22 #[.int .i64 n] w fun e w' => e = .returned (.tuple #[ptrV w.heap.size, .nilIface]) ∧ w' = w.alloc (.cells #[.int .i64 n, .int .i64 1, .slice none 0 0] 87) := by
  go_enter Tryd.func22, Tryd.ntmps22
  go_wp2
  go_ret2
  exact ⟨rfl, rfl⟩
theorem plogNew_err (n : Int) (w : World) (h : n < 1 ∨ 1024 < n) :
    Calls Tryd.prog 22 #[.int .i64 n] w fun e w' => e = .returned (.tuple #[.pointer none, .iface 58 (.int .i64 1)]) ∧ w = w' := by
  by_cases h1 : n < 1
  · go_enter Tryd.func22, Tryd.ntmps22
    go_wp2
    go_ret2
    exact ⟨rfl, rfl⟩
  · have h2 : 1024 < n := by omega
    go_enter Tryd.func22, Tryd.ntmps22
    go_wp2
    go_ret2
    exact ⟨rfl, rfl⟩
theorem logAt_new (w : World) (n : Nat) (B : Nat) (hB : B ≤ w.heap.size) : LogAt (w.alloc (.cells #[.int .i64 n, .int .i64 1, .slice none 0 0] 87)) B w.heap.size (.slice none 0 0) (.start n) :=
  ⟨hB, box3_new w _ _ _ _, OwnWin.nil _ _ _ _⟩

/-- The error of a number. -/
def codeV (c : Int) : Value := if c = 0 then .nilIface else .iface 58 (.int .i64 c)
theorem codeV_ok {c : Int} (h : c = 0) : codeV c = .nilIface := if_pos h
theorem codeV_err {c n : Int} (h : c = n) (hn : ¬ n = 0) : codeV c = .iface 58 (.int .i64 n) := by unfold codeV; rw [h, if_neg hn]
theorem num_codeV (c : Int) (w : World) : Calls Tryd.prog 35 #[codeV c] w fun e w' => e = .returned (.int .i64 c) ∧ w = w' := by
  by_cases h : c = 0
  · rw [codeV_ok h, h]; exact num_nil w
  · rw [codeV_err rfl h]; exact num_err _ w

/-- Last, told by the two cells that it reads. -/
theorem plogLast_cells (R n c : Nat) (fi : Int) (a : Option Addr) (w : World) (h1 : w.cell? ⟨R, 1, none⟩ = some (.int .i64 fi)) (h2 : w.cell? ⟨R, 2, none⟩ = some (.slice a n c)) (hf0 : 0 ≤ fi) (hf1 : fi ≤ 1000001) (hn : n ≤ 1000001) :
    Calls Tryd.prog 36 #[ptrV R] w fun e w' => e = .returned (.int .i64 (fi + n - 1)) ∧ ∃ q, w' = w.drewN q := by
  have i1 : IntKind.i64.wrap (fi + (n : Int)) = fi + (n : Int) := IntWalk.i64_in _ (by omega)
  go_enter Tryd.func36, Tryd.ntmps36
  go_wp2
  go_quiet (fail)
  go_wp2
  go_ret
  exact ⟨rfl, _, rfl⟩
theorem plogLast_any (B R : Nat) (v : Value) (L : LogM) (w : World) (h : LogAt w B R v L) (hd : L.dropped ≤ L.all.length) (hl : L.all.length ≤ 1000000) :
    Calls Tryd.prog 36 #[ptrV R] w fun e w' => e = .returned (.int .i64 L.all.length) ∧ ∃ q, w' = w.drewN q := by
  have hk := L.kept_len
  obtain ⟨⟨c0, c1, c2⟩, _, hz⟩ := h.box.facts
  obtain ⟨va, vc, rfl, _⟩ := h.own.form
  refine (plogLast_cells R _ vc _ va w c1 c2 (by omega) (by omega) (by omega)).mono fun e w' he => ⟨?_, he.2⟩
  rw [he.1]
  exact ret_int (by omega)
/-- Last at a log, for a walk: the world it leaves reads alike. -/
theorem plogAppend_err (B R : Nat) (v : Value) (L : LogM) (p : Pg) (w : World) (h : LogAt w B R v L) (hr : Ready w) (hc : ¬ checkN p = 0) (hp : p.value.length ≤ 134217728) :
    Calls Tryd.prog 23 #[ptrV R, pgV p] w fun e w' => e = .returned (.tuple #[.int .i64 0, chkV p]) ∧ Below w.heap.size w w' := by
  obtain ⟨k, t, s⟩ := p
  obtain ⟨n, hn⟩ : ∃ n, checkN ⟨k, t, s⟩ = n := ⟨_, rfl⟩
  have HC := Lib.hid (chkV_err hn (by rw [← hn]; exact hc))
  have HB := Lib.hid ((Below.refl w.heap.size w).alloc (Nat.le_refl _) (.cells #[.int .i64 k, .int .i64 t, .string ⟨s.toArray⟩] 50))
  have HRD := Lib.hid (hr.below HB.out)
  clear h hc hn
  go_enter Tryd.func23, Tryd.ntmps23
  go_wp2_with (go_at_call 27; refine (check_any ⟨k, t, s⟩ _ HRD.out hp).mono ?_; rintro e w1 ⟨rfl, hb1⟩; rw [HC.out])
  go_ret2
  exact ⟨by rw [HC.out]; rfl, HB.out.trans (hb1.mono (by simp))⟩

theorem box_grown {w w' : World} {row : Option Nat} {R T : Nat} {a b c : Value} (h : Box3 w R T a b c) (hg : w.grownBy w' row) (hn : ∀ q, row = some q → ¬ q = R) : Box3 w' R T a b c :=
  (hg.block R h.facts.2.2 (fun e => hn R e.symm rfl)).trans h
theorem goes_app {w w1 w2 : World} {R : Nat} {v V : Value} {o : Obj} (u : Value) (hB : Below w.heap.size w w1) (hg : ((w1.alloc o).drew).grownBy w2 v.ownBlock) (hl : V.ownBlock = v.ownBlock ∨ V.ownBlock = some ((w1.alloc o).drew).heap.size) :
    Goes w (w2.setCell ⟨R, 2, none⟩ u) R v V := by
  refine ⟨((((Touch.of_below hB (Nat.le_refl _)).alloc o).drew).trans' (Touch.of_grown (S := fun k => v.ownBlock = some k) hg (fun k hk => hk)) (fun i _ h => .inr h)).setCell (.inl rfl) u, fun q hq => ?_⟩
  rcases hl with h | h
  · left; rw [← h]; exact hq
  · right
    rw [h] at hq
    cases hq
    have := hB.size
    simp; omega
theorem Goes.set {w w1 : World} {R : Nat} {v V : Value} (h : Goes w w1 R v V) (i : Nat) (u : Value) : Goes w (w1.setCell ⟨R, i, none⟩ u) R v V := ⟨h.touch.setCell (.inl rfl) u, h.lies⟩
theorem Goes.drewN {w w1 : World} {R : Nat} {v V : Value} (h : Goes w w1 R v V) (q : Nat) : Goes w (w1.drewN q) R v V := ⟨h.touch.trans (Touch.of_below (below_drewN (Below.refl _ _) q) (Nat.le_refl _)), h.lies⟩
theorem Goes.val {w w1 : World} {R : Nat} {v V V' : Value} (h : Goes w w1 R v V) (hv : V'.ownBlock = V.ownBlock) : Goes w w1 R v V' := ⟨h.touch, fun q hq => h.lies q (by rw [← hv]; exact hq)⟩
theorem ap_of {w1 : World} {R N : Nat} {v V : Value} (hap : ∀ q, v.ownBlock = some q → ¬ q = R) (hl : V.ownBlock = v.ownBlock ∨ V.ownBlock = some N) (hR : R < N) : ∀ q, V.ownBlock = some q → ¬ q = R := fun q hq => by
  rcases hl with h | h
  · exact hap q (by rw [← h]; exact hq)
  · rw [h] at hq; cases hq; omega
theorem own_setR {w : World} {B R n size : Nat} {e : TypeId} {v : Value} {xs : List Value} (h : OwnWin w B e size v n xs) (hn : ∀ q, v.ownBlock = some q → ¬ q = R) (i : Nat) (u : Value) : OwnWin (w.setCell ⟨R, i, none⟩ u) B e size v n xs :=
  h.touch (touch_set1 w R i u) hn
theorem own_drewN {w : World} {B n size : Nat} {e : TypeId} {v : Value} {xs : List Value} (h : OwnWin w B e size v n xs) (q : Nat) : OwnWin (w.drewN q) B e size v n xs := h.older (below_drewN (Below.refl _ _) q)
theorem box_drewN {w : World} {R T : Nat} {a b c : Value} (h : Box3 w R T a b c) (q : Nat) : Box3 (w.drewN q) R T a b c := h.older (below_drewN (Below.refl _ _) q)
theorem own_drop1 {w : World} {B b o n q : Nat} {l : List Pg} {e : TypeId} (h : OwnWin w B e 3 (.slice (some ⟨b, o, none⟩) (n + 1) q) (n + 1) (pvals l)) (hl : l.length = n + 1) (hq : 1 < q) : OwnWin w B e 3 (.slice (some ⟨b, o + 3, none⟩) n (q - 1)) (l.drop 1).length (pvals (l.drop 1)) := by
  have := h.drop (k := 1) rfl (by omega) hq
  rw [pvals_drop l 1] at this
  rw [List.length_drop, hl]
  simpa using this
theorem ret2_int {a b : Int} {u : Value} (h : a = b) : Ending.returned (.tuple #[.int .i64 a, u]) = .returned (.tuple #[.int .i64 b, u]) := by rw [h]
/-- The log and the purge that is appended, as the statement reads them. -/
structure ApBox (R g : Nat) (L : LogM) (v : Value) (k t : Int) (s : Bs) (w : World) : Prop where
  l : Box3 w R 87 (.int .i64 L.win) (.int .i64 ((L.dropped : Int) + 1)) v
  p : Box3 w g 50 (.int .i64 k) (.int .i64 t) (.string ⟨s.toArray⟩)
theorem ApBox.older {R g : Nat} {L : LogM} {v : Value} {k t : Int} {s : Bs} {w w' : World} (h : ApBox R g L v k t s w) (hb : Below w.heap.size w w') : ApBox R g L v k t s w' := ⟨h.l.older hb, h.p.older hb⟩
theorem plogAppend_ok (B R : Nat) (v : Value) (L : LogM) (p : Pg) (w : World) (h : LogAt w B R v L) (ho : L.Ok) (hr : Ready w) (hc : checkN p = 0) (hp : p.value.length ≤ 134217728) (hl : L.all.length < 1000000) (hB : B ≤ w.heap.size) :
    Calls Tryd.prog 23 #[ptrV R, pgV p] w fun e w' => ∃ v', e = .returned (.tuple #[.int .i64 ((L.all.length : Int) + 1), .nilIface]) ∧ LogAt w' B R v' (L.push p) ∧ Goes w w' R v v' := by
  obtain ⟨k, t, s⟩ := p
  have HC := Lib.hid (chkV_ok hc)
  have HB := Lib.hid ((Below.refl w.heap.size w).alloc (Nat.le_refl _) (.cells #[.int .i64 k, .int .i64 t, .string ⟨s.toArray⟩] 50))
  have HX := Lib.hid (box3_new w 50 (.int .i64 k) (.int .i64 t) (.string ⟨s.toArray⟩))
  have HRD := Lib.hid (hr.below HB.out)
  have HL := Lib.hid (h.below HB.out)
  have HOK := Lib.hid ho
  have HAP := Lib.hid h.apart
  have HLT := Lib.hid h.box.facts.2.2
  obtain ⟨va, vc, rfl, _⟩ := h.own.form
  clear h ho hc
  go_enter Tryd.func23, Tryd.ntmps23
  go_wp2_with (go_at_call 27; refine (check_any ⟨k, t, s⟩ _ HRD.out hp).mono ?_; rintro e w1 ⟨rfl, hb1⟩; rw [HC.out])
  have HB1 := Lib.hid (HB.out.trans (hb1.mono (by simp)))
  have HX1 := Lib.hid (HX.out.older hb1)
  have HL1 := Lib.hid (HL.out.below hb1)
  clear hb1 HC HB HX HL HRD
  obtain ⟨⟨c0, c1, c2⟩, ⟨f0, f1, f2⟩, hz⟩ := HL1.out.box.facts
  obtain ⟨⟨d0, d1, d2⟩, _, hy⟩ := HX1.out.facts
  have hkl : L.kept.length ≤ 1000000 := by have := L.kept_len; omega
  have hdl : L.dropped ≤ 1000000 := by have := HOK.out.drop; omega
  have hw1 : 1 ≤ L.win := HOK.out.win1
  have hBz : B ≤ w1.heap.size := Nat.le_trans hB HB1.out.size
  go_region_law ((refine step_appw tyPgs (by rfl) _ _ (by rfl) B (.slice va L.kept.length vc) L.kept.length (pvals L.kept) (by rfl) ((HL1.out.own.alloc _).drew) (by simp; omega) (.slice (some ⟨w1.heap.size, 0, none⟩) 1 1) 1 [.int .i64 k, .int .i64 t, .string ⟨s.toArray⟩] (by rfl) (SrcAt.one (heap_alloc_new w1 _)) (by rfl) (by simp [Value.oneCell']) (by omega) ?_; intro v' w2 hown2 hgrow2 hlies2; obtain ⟨b2, o2, q2, rfl, hq2, _⟩ := hown2.cells (by omega); have hX2 := box_grown (HL1.out.box.alloc _).drew hgrow2 HAP.out; obtain ⟨⟨g0, g1, g2⟩, ⟨e0, e1, e2⟩, hz2⟩ := hX2.facts))
  all_goals
    have HX3 := Lib.hid (box3_set2 hX2 (.slice (some ⟨b2, o2, none⟩) (L.kept.length + 1) q2))
    have HO2 := Lib.hid hown2
    have HG2 := Lib.hid hgrow2
    have HLi := Lib.hid hlies2
    clear hX2 hown2 hgrow2 hlies2
    by_cases hroom : L.kept.length + 1 ≤ L.win
    · go_wp2
      go_quiet (fail)
      go_wp2
      go_quiet (fail)
      go_wp2
      go_ret2
      have hp := LogM.push_room HOK.out ⟨k, t, s⟩ hroom
      have hkl2 := L.kept_len
      have hdr := HOK.out.drop
      have hap := ap_of (w1 := w1) HAP.out HLi.out (by simp; omega)
      have e : pvals (L.push ⟨k, t, s⟩).kept = pvals L.kept ++ [.int .i64 k, .int .i64 t, .string ⟨s.toArray⟩] := by rw [hp.2, pvals_append, pvals_one]; rfl
      have e2 : (L.push ⟨k, t, s⟩).kept.length = L.kept.length + 1 := by rw [hp.2, List.length_append]; rfl
      refine ⟨.slice (some ⟨b2, o2, none⟩) (L.kept.length + 1) q2, ret2_int (by omega), ⟨HL1.out.hR, ?_, ?_⟩, ((goes_app _ HB1.out HG2.out HLi.out).drewN _).drewN _⟩
      · rw [hp.1]
        exact box_drewN (box_drewN HX3.out _) _
      · rw [e, e2]
        exact own_drewN (own_drewN (own_setR HO2.out hap _ _) _) _
    · have hq3 : 1 < q2 := by omega
      go_wp2
      go_quiet (fail)
      go_wp2
      go_quiet (fail)
      go_wp2
      go_ret2
      have hp := LogM.push_full HOK.out ⟨k, t, s⟩ hroom
      have hkl2 := L.kept_len
      have hdr := HOK.out.drop
      have hap := ap_of (w1 := w1) HAP.out HLi.out (by simp; omega)
      have e : pvals (L.kept ++ [⟨k, t, s⟩]) = pvals L.kept ++ [.int .i64 k, .int .i64 t, .string ⟨s.toArray⟩] := by rw [pvals_append, pvals_one]; rfl
      have ho := own_drop1 (l := L.kept ++ [⟨k, t, s⟩]) (by rw [e]; exact HO2.out) (by simp) hq3
      rw [← hp.2] at ho
      refine ⟨.slice (some ⟨b2, o2 + 3, none⟩) L.kept.length (q2 - 1), ret2_int (by omega), ⟨HL1.out.hR, ?_, ?_⟩, Goes.val (((((goes_app _ HB1.out HG2.out HLi.out).drewN _).set _ _).set _ _).drewN _) rfl⟩
      · rw [hp.1]
        exact box_drewN (box3_set1 (box3_set2 (box_drewN HX3.out _) _) _) _
      · exact own_drewN (own_setR (own_setR (own_drewN (own_setR ho hap _ _) _) hap _ _) hap _ _) _
end A1
end Go.Proofs.YtnppicekfjdefaaDoor
end

section
namespace Go.Proofs.YtnppicekfjdefaaDoor
open Go.RowKit Pl Ad
attribute [local go_sem] ba_get ba_append ba_extract_end ba_extract_zero ba_extract
set_option maxRecDepth 100000
set_option maxHeartbeats 4000000
set_option linter.unusedVariables false
namespace A1
/-- No purge. -/
@[reducible] def noPg : Value := .agg #[.int .i64 0, .int .i64 0, .string ⟨#[]⟩]

/-- What Get returns. -/
def getP (L : LogM) (n : Int) : Pg := if L.getC n = 0 then L.all.getD (n - 1).toNat ⟨0, 0, []⟩ else ⟨0, 0, []⟩
theorem plogSince_err1 (R : Nat) (n : Int) (w : World) (hn : n < 0) :
    Calls Tryd.prog 37 #[ptrV R, .int .i64 n] w fun e w' => e = .returned (.tuple #[.slice none 0 0, .iface 58 (.int .i64 1)]) ∧ w = w' := by
  go_enter Tryd.func37, Tryd.ntmps37
  go_wp2_with fail
  go_ret2
  exact ⟨rfl, rfl⟩
theorem plogSince_nil (B R : Nat) (v : Value) (L : LogM) (n : Int) (w : World) (h : LogAt w B R v L) (ho : L.Ok) (hl : L.all.length ≤ 1000000) (h0 : 0 ≤ n) (hn : (L.all.length : Int) ≤ n) :
    Calls Tryd.prog 37 #[ptrV R, .int .i64 n] w fun e w' => e = .returned (.tuple #[.slice none 0 0, .nilIface]) ∧ Below w.heap.size w w' := by
  have HL := Lib.hid h
  have HD := Lib.hid ho.drop
  clear h ho
  go_enter Tryd.func37, Tryd.ntmps37
  go_wp2_with (go_at_call 36; refine (plogLast_any B R _ L _ HL.out HD.out hl).mono ?_; rintro e w3 ⟨rfl, q, rfl⟩)
  go_ret2
  exact ⟨rfl, below_drewN (Below.refl _ _) _⟩
theorem plogSince_old (B R : Nat) (v : Value) (L : LogM) (n : Int) (w : World) (h : LogAt w B R v L) (ho : L.Ok) (hl : L.all.length ≤ 1000000) (h0 : 0 ≤ n) (hn : n < (L.all.length : Int)) (hd : n < L.dropped) :
    Calls Tryd.prog 37 #[ptrV R, .int .i64 n] w fun e w' => e = .returned (.tuple #[.slice none 0 0, .iface 58 (.int .i64 15)]) ∧ Below w.heap.size w w' := by
  have HL := Lib.hid h
  have HD := Lib.hid ho.drop
  obtain ⟨⟨c0, c1, c2⟩, _, hz⟩ := HL.out.box.facts
  have hd2 : n + 1 < (L.dropped : Int) + 1 := by omega
  clear h ho
  go_enter Tryd.func37, Tryd.ntmps37
  go_wp2_with (go_at_call 36; refine (plogLast_any B R _ L _ HL.out HD.out hl).mono ?_; rintro e w3 ⟨rfl, q, rfl⟩)
  go_ret2
  exact ⟨rfl, below_drewN (Below.refl _ _) _⟩
theorem own_empty {w : World} {g B size : Nat} {e : TypeId} (h : w.heap[g]? = some (.cells #[] e (0, 0))) (hB : B ≤ g) : OwnWin w B e size (.slice (some ⟨g, 0, none⟩) 0 0) 0 [] :=
  ⟨by simp, .inr ⟨g, 0, 0, #[], rfl, hB, h, Nat.le_refl _, Nat.zero_le _, by simp, by simp⟩⟩
theorem below_grown {w w1 w2 : World} {B : Nat} {row : Option Nat} (hb : Below B w w1) (hg : w1.grownBy w2 row) (hB : B ≤ w1.heap.size) (hr : ∀ q, row = some q → B ≤ q) : Below B w w2 := hb.grown hg hB hr
theorem since_kept {L : LogM} {j : Nat} {n : Int} (hj : n = (j : Int) + L.dropped) (h : (j : Int) + L.dropped < L.all.length) : L.since n = L.kept.drop j := by
  unfold LogM.since LogM.kept
  rw [if_neg (by omega), List.drop_drop, hj]
  congr 1; omega
theorem plogLast_log (B R : Nat) (v : Value) (L : LogM) (w : World) (h : LogAt w B R v L) (hd : L.dropped ≤ L.all.length) (hl : L.all.length ≤ 1000000) :
    Calls Tryd.prog 36 #[ptrV R] w fun e w' => e = .returned (.int .i64 L.all.length) ∧ LogAt w' B R v L ∧ Below w.heap.size w w' :=
  (plogLast_any B R v L w h hd hl).mono fun e w' he => by
    obtain ⟨h1, q, h2⟩ := he
    subst h2
    exact ⟨h1, h.below (below_drewN (Below.refl _ _) q), below_drewN (Below.refl _ _) q⟩
theorem plogSince_ok (B R : Nat) (v : Value) (L : LogM) (n : Int) (w : World) (h : LogAt w B R v L) (ho : L.Ok) (hl : L.all.length ≤ 1000000) (hn : n < (L.all.length : Int)) (hd : (L.dropped : Int) ≤ n) :
    Calls Tryd.prog 37 #[ptrV R, .int .i64 n] w fun e w' => ∃ u, e = .returned (.tuple #[u, .nilIface]) ∧ OwnWin w' w.heap.size 50 3 u (L.since n).length (pvals (L.since n)) ∧ Below w.heap.size w w' := by
  have HL := Lib.hid h
  have HD := Lib.hid ho.drop
  have hkl := L.kept_len
  obtain ⟨j, hj⟩ : ∃ j : Nat, n = (j : Int) + L.dropped := ⟨(n - L.dropped).toNat, by omega⟩
  have HS := Lib.hid (since_kept hj (by omega))
  subst hj
  have hjk : j < L.kept.length := by omega
  have hkm : L.kept.length ≤ 1000000 := by omega
  obtain ⟨b, o, c, rfl, hc, hcm, hb, hbz, hcell⟩ := h.own.cells (by omega)
  have hjc : j < c := by omega
  have i0 : IntKind.i64.wrap ((j : Int) + (L.dropped : Int) + 1) = (j : Int) + (L.dropped : Int) + 1 := IntWalk.i64_in _ (by omega)
  have i1 : IntKind.i64.wrap ((j : Int) + (L.dropped : Int) + 1 - ((L.dropped : Int) + 1)) = (j : Int) := by rw [show (j : Int) + (L.dropped : Int) + 1 - ((L.dropped : Int) + 1) = (j : Int) by omega]; exact IntWalk.i64_in _ (by omega)
  clear h ho hcell hkl hcm
  go_enter Tryd.func37, Tryd.ntmps37
  go_wp2_with (go_at_call 36; refine (plogLast_log B R _ L _ HL.out HD.out hl).mono ?_; rintro e w1 ⟨rfl, hl1, hb1⟩; obtain ⟨⟨c0, c1, c2⟩, _, hz⟩ := hl1.box.facts; have HL1 := Lib.hid hl1; have HB1 := Lib.hid hb1; clear hl1 hb1)
  have HSrc := Lib.hid (HL1.out.own.drop (k := j) rfl (by omega) hjc)
  rw [pvals_drop] at HSrc
  have hne : ¬ c = j := by omega
  have hle : j ≤ L.kept.length := by omega
  go_region_law ((refine step_appw tyPgs (by rfl) _ _ (by rfl) w1.heap.size (.slice (some ⟨w1.heap.size, 0, none⟩) 0 0) 0 [] (by rfl) (own_empty (heap_alloc_new w1 _) (Nat.le_refl _)).drew (by simp) (.slice (some ⟨b, o + j * 3, none⟩) (L.kept.length - j) (c - j)) (L.kept.length - j) (pvals (L.kept.drop j)) (by rfl) (SrcAt.of (HSrc.out.alloc _).drew) (by rw [pvals_len, List.length_drop]) (pvals_oneCell _) (by omega) ?_; intro v' w2 hown2 hgrow2 hlies2; rw [Nat.zero_add, List.nil_append] at hown2; obtain ⟨a2, q2, rfl, hq2⟩ := hown2.form))
  all_goals
    go_wp2
    go_ret2
    have hsz := HB1.out.size
    refine ⟨.slice a2 (L.kept.length - j) q2, rfl, ?_, below_grown (HB1.out.alloc hsz _).drew hgrow2 (by simp; omega) (fun q hq => by simp [Value.ownBlock] at hq; omega)⟩
    rw [HS.out, List.length_drop]
    exact hown2.mono (fun k hk => by have := (hown2.lt k hk).1; omega)
theorem own_nil (w : World) (B : Nat) (e : TypeId) {l : List Pg} (h : l = []) : OwnWin w B e 3 (.slice none 0 0) l.length (pvals l) := by subst h; exact OwnWin.nil _ _ _ _
theorem plogSince_any (B R : Nat) (v : Value) (L : LogM) (n : Int) (w : World) (h : LogAt w B R v L) (ho : L.Ok) (hl : L.all.length ≤ 1000000) :
    Calls Tryd.prog 37 #[ptrV R, .int .i64 n] w fun e w' => ∃ u, e = .returned (.tuple #[u, codeV (L.sinceC n)]) ∧ OwnWin w' w.heap.size 50 3 u (L.since n).length (pvals (L.since n)) ∧ Below w.heap.size w w' := by
  by_cases h1 : n < 0
  · have e : L.sinceC n = 1 := if_pos h1
    refine (plogSince_err1 R n w h1).mono fun _ w' h => ?_
    obtain ⟨rfl, rfl⟩ := h
    exact ⟨_, by rw [e]; rfl, own_nil _ _ _ (if_pos (.inl h1)), Below.refl _ _⟩
  by_cases h2 : (L.all.length : Int) ≤ n
  · have e : L.sinceC n = 0 := by unfold LogM.sinceC; rw [if_neg h1, if_pos h2]
    refine (plogSince_nil B R v L n w h ho hl (by omega) h2).mono fun _ w' h => ?_
    obtain ⟨rfl, hb⟩ := h
    exact ⟨_, by rw [e]; rfl, own_nil _ _ _ (if_pos (.inr (.inl h2))), hb⟩
  by_cases h3 : n < (L.dropped : Int)
  · have e : L.sinceC n = 15 := by unfold LogM.sinceC; rw [if_neg h1, if_neg h2, if_pos h3]
    refine (plogSince_old B R v L n w h ho hl (by omega) (by omega) h3).mono fun _ w' h => ?_
    obtain ⟨rfl, hb⟩ := h
    exact ⟨_, by rw [e]; rfl, own_nil _ _ _ (if_pos (.inr (.inr h3))), hb⟩
  · have e : L.sinceC n = 0 := by unfold LogM.sinceC; rw [if_neg h1, if_neg h2, if_neg h3]
    refine (plogSince_ok B R v L n w h ho hl (by omega) (by omega)).mono fun _ w' h => ?_
    obtain ⟨u, rfl, ho, hb⟩ := h
    exact ⟨u, by rw [e]; rfl, ho, hb⟩
end A1
end Go.Proofs.YtnppicekfjdefaaDoor
end

section
namespace Go.Proofs.YtnppicekfjdefaaDoor
open Go.RowKit Pl Ad
attribute [local go_sem] ba_get ba_append ba_extract_end ba_extract_zero ba_extract
set_option maxRecDepth 100000
set_option maxHeartbeats 4000000
set_option linter.unusedVariables false
namespace A1
theorem cut_small {L : LogM} {n : Int} (h : n ≤ L.dropped) : L.cut n = L := by
  obtain ⟨a, b, c⟩ := L
  have : max c (min n (b.length : Int)).toNat = c := by simp only at h; omega
  unfold LogM.cut
  rw [this]
theorem src_drop {w : World} {B b o c j : Nat} {e : TypeId} {l : List Pg} {ob : Obj} (h : OwnWin w B e 3 (.slice (some ⟨b, o, none⟩) l.length c) l.length (pvals l)) (hj : j ≤ l.length) (hc : j < c) :
    SrcAt (w.alloc ob).drew (.slice (some ⟨b, o + j * 3, none⟩) (l.length - j) (c - j)) (l.length - j) (pvals (l.drop j)) := by
  have := h.drop (k := j) rfl hj hc
  rw [pvals_drop] at this
  exact SrcAt.of (this.alloc _).drew
theorem src_none (w : World) {b o j m : Nat} {l : List Pg} (h : l.length - j = 0) : SrcAt w (.slice (some ⟨b, o, none⟩) (l.length - j) m) (l.length - j) (pvals (l.drop j)) := by
  refine .inr ⟨_, _, rfl, fun i x hx => ?_⟩
  rw [List.drop_of_length_le (by omega)] at hx
  cases hx
/-- What Shrink leaves. -/
theorem shrink_end {w w1 w2 : World} {B R j : Nat} {L : LogM} {v V : Value} {n : Int} (h : LogAt w1 B R v L) (hb : Below w.heap.size w w1) (hR : R < w.heap.size) (hB : B ≤ w.heap.size) (ho : L.Ok) (hn : (L.dropped : Int) < n) (hj : min n (L.all.length : Int) = (j : Int) + L.dropped)
    (hown : OwnWin w2 w1.heap.size 50 3 V (L.kept.length - j) (pvals (L.kept.drop j))) (hg : ((w1.alloc (.cells #[] 50)).drew).grownBy w2 (some w1.heap.size)) :
    LogAt ((w2.setCell ⟨R, 2, none⟩ V).setCell ⟨R, 1, none⟩ (.int .i64 ((j : Int) + L.dropped + 1))) B R V (L.cut n) ∧ Goes w ((w2.setCell ⟨R, 2, none⟩ V).setCell ⟨R, 1, none⟩ (.int .i64 ((j : Int) + L.dropped + 1))) R v V := by
  have hs := hb.size
  have hd := ho.drop
  have e1 : (L.cut n).dropped = j + L.dropped := by
    show max L.dropped (min n (L.all.length : Int)).toNat = _
    omega
  have e2 : (L.cut n).kept = L.kept.drop j := by
    unfold LogM.kept
    rw [e1, List.drop_drop]
    show L.all.drop _ = _
    congr 1; omega
  have hne : ∀ q, V.ownBlock = some q → ¬ q = R := fun q hq => by have := (hown.lt q hq).1; omega
  have hX : Box3 w2 R 87 _ _ _ := box_grown (h.box.alloc _).drew hg (fun q hq => by cases hq; omega)
  refine ⟨⟨h.hR, ?_, ?_⟩, ?_⟩
  · rw [e1, show (((j + L.dropped : Nat) : Int) + 1) = (j : Int) + L.dropped + 1 by omega]
    exact box3_set1 (box3_set2 hX _) _
  · rw [e2, List.length_drop]
    exact own_setR (own_setR (hown.mono fun q hq => by have := (hown.lt q hq).1; omega) hne _ _) hne _ _
  · refine (Goes.set (Goes.set ⟨?_, fun q hq => .inr ?_⟩ _ _) _ _)
    · exact ((Touch.of_below hb (Nat.le_refl _)).alloc _).drew.trans' (Touch.of_grown (S := fun k => k = w1.heap.size) hg (fun k hk => by cases hk; rfl)) (fun i hi h => by omega)
    · have := (hown.lt q hq).1; omega
end A1
end Go.Proofs.YtnppicekfjdefaaDoor
end

section
namespace Go.Proofs.YtnppicekfjdefaaDoor
open Go.RowKit Pl Ad
attribute [local go_sem] ba_get ba_append ba_extract_end ba_extract_zero ba_extract
set_option maxRecDepth 100000
set_option maxHeartbeats 4000000
set_option linter.unusedVariables false
namespace A1
end A1
end Go.Proofs.YtnppicekfjdefaaDoor
end

section
namespace Go.Proofs.YtnppicekfjdefaaDoor
open Go.RowKit Pl Ad
attribute [local go_sem] ba_get ba_append ba_extract_end ba_extract_zero ba_extract
set_option maxRecDepth 100000
set_option maxHeartbeats 4000000
set_option linter.unusedVariables false
namespace A1
end A1
end Go.Proofs.YtnppicekfjdefaaDoor
end
