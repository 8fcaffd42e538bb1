/- Contracts: purgelog's Shrink, Copy. Conditions: logs of at most a million entries. -/
import Derived.Test.YtijjggbiljkalaaDoorPlog2
namespace Go.Proofs.YtijjggbiljkalaaDoor
open Go.RowKit Pl Ad
attribute [local go_sem] ba_get ba_append ba_extract_end ba_extract_zero ba_extract
set_option maxRecDepth 100000
set_option maxHeartbeats 4000000
set_option linter.unusedVariables false
namespace A1
theorem cut_small {L : LogM} {n : Int} (h : n ≤ L.dropped) : L.cut n = L := by
  obtain ⟨a, b, c⟩ := L
  have : max c (min n (b.length : Int)).toNat = c := by simp only at h; omega
  unfold LogM.cut
  rw [this]
theorem plogShrink_no (B R : Nat) (v : Value) (L : LogM) (n : Int) (w : World) (h : LogAt w B R v L) (hn : n ≤ L.dropped) :
    Calls Tryd.prog 39 #[ptrV R, .int .i64 n] w fun e w' => e = .returned (.tuple #[]) ∧ w = w' := by
  obtain ⟨⟨c0, c1, c2⟩, _, hz⟩ := h.box.facts
  have hn1 : n < (L.dropped : Int) + 1 := by omega
  clear h hn
  go_enter Tryd.func39, Tryd.ntmps39
  go_wp2_with fail
  exact bodyPost_ret (v := .tuple #[]) (by simp [results, Tryd.results39, go_sem]) rfl ⟨rfl, rfl⟩
theorem src_drop {w : World} {B b o c j : Nat} {e : TypeId} {l : List Pg} {ob : Obj} (h : OwnWin w B e 3 (.slice (some ⟨b, o, none⟩) l.length c) l.length (pvals l)) (hj : j ≤ l.length) (hc : j < c) :
    SrcAt (w.alloc ob).drew (.slice (some ⟨b, o + j * 3, none⟩) (l.length - j) (c - j)) (l.length - j) (pvals (l.drop j)) := by
  have := h.drop (k := j) rfl hj hc
  rw [pvals_drop] at this
  exact SrcAt.of (this.alloc _).drew
theorem src_none (w : World) {b o j m : Nat} {l : List Pg} (h : l.length - j = 0) : SrcAt w (.slice (some ⟨b, o, none⟩) (l.length - j) m) (l.length - j) (pvals (l.drop j)) := by
  refine .inr ⟨_, _, rfl, fun i x hx => ?_⟩
  rw [List.drop_of_length_le (by omega)] at hx
  cases hx
/-- What Shrink leaves. -/
theorem shrink_end {w w1 w2 : World} {B R j : Nat} {L : LogM} {v V : Value} {n : Int} (h : LogAt w1 B R v L) (hb : Below w.heap.size w w1) (hR : R < w.heap.size) (hB : B ≤ w.heap.size) (ho : L.Ok) (hn : (L.dropped : Int) < n) (hj : min n (L.all.length : Int) = (j : Int) + L.dropped)
    (hown : OwnWin w2 w1.heap.size 37 3 V (L.kept.length - j) (pvals (L.kept.drop j))) (hg : ((w1.alloc (.cells #[] 37)).drew).grownBy w2 (some w1.heap.size)) :
    LogAt ((w2.setCell ⟨R, 2, none⟩ V).setCell ⟨R, 1, none⟩ (.int .i64 ((j : Int) + L.dropped + 1))) B R V (L.cut n) ∧ Goes w ((w2.setCell ⟨R, 2, none⟩ V).setCell ⟨R, 1, none⟩ (.int .i64 ((j : Int) + L.dropped + 1))) R v V := by
  have hs := hb.size
  have hd := ho.drop
  have e1 : (L.cut n).dropped = j + L.dropped := by
    show max L.dropped (min n (L.all.length : Int)).toNat = _
    omega
  have e2 : (L.cut n).kept = L.kept.drop j := by
    unfold LogM.kept
    rw [e1, List.drop_drop]
    show L.all.drop _ = _
    congr 1; omega
  have hne : ∀ q, V.ownBlock = some q → ¬ q = R := fun q hq => by have := (hown.lt q hq).1; omega
  have hX : Box3 w2 R 100 _ _ _ := box_grown (h.box.alloc _).drew hg (fun q hq => by cases hq; omega)
  refine ⟨⟨h.hR, ?_, ?_⟩, ?_⟩
  · rw [e1, show (((j + L.dropped : Nat) : Int) + 1) = (j : Int) + L.dropped + 1 by omega]
    exact box3_set1 (box3_set2 hX _) _
  · rw [e2, List.length_drop]
    exact own_setR (own_setR (hown.mono fun q hq => by have := (hown.lt q hq).1; omega) hne _ _) hne _ _
  · refine (Goes.set (Goes.set ⟨?_, fun q hq => .inr ?_⟩ _ _) _ _)
    · exact ((Touch.of_below hb (Nat.le_refl _)).alloc _).drew.trans' (Touch.of_grown (S := fun k => k = w1.heap.size) hg (fun k hk => by cases hk; rfl)) (fun i hi h => by omega)
    · have := (hown.lt q hq).1; omega
theorem plogShrink_nil (B R : Nat) (L : LogM) (n : Int) (w : World) (h : LogAt w B R (.slice none 0 0) L) (hB : B ≤ w.heap.size) (ho : L.Ok) (hl : L.all.length ≤ 1000000) (hn : (L.dropped : Int) < n) :
    Calls Tryd.prog 39 #[ptrV R, .int .i64 n] w fun e w' => ∃ V, e = .returned (.tuple #[]) ∧ LogAt w' B R V (L.cut n) ∧ Goes w w' R (.slice none 0 0) V := by
  have HL := Lib.hid h
  have HO := Lib.hid ho
  have HD := Lib.hid ho.drop
  have hk0 : L.kept.length = 0 := by
    rcases h.own.2 with ⟨_, h0⟩ | ⟨g, o, cap, cur, e, _⟩
    · exact h0
    · cases e
  have hkl := L.kept_len
  have hdl : L.dropped = L.all.length := by have := HD.out; omega
  have hm : min n (L.all.length : Int) = (L.dropped : Int) := by omega
  have HM := Lib.hid (show min n (L.all.length : Int) = ((0 : Nat) : Int) + L.dropped by omega)
  have HK := Lib.hid (List.eq_nil_of_length_eq_zero hk0)
  have HR := Lib.hid h.box.facts.2.2
  obtain ⟨⟨c0, c1, c2⟩, _, hz⟩ := h.box.facts
  have hn1 : ¬ n < (L.dropped : Int) + 1 := by omega
  have i0 : IntKind.i64.wrap ((L.dropped : Int) + 1) = (L.dropped : Int) + 1 := IntWalk.i64_in _ (by omega)
  have hd2 : L.dropped ≤ 1000000 := by omega
  have iz : IntKind.i64.wrap 0 = 0 := rfl
  clear h ho hk0 hkl hdl
  go_enter Tryd.func39, Tryd.ntmps39
  go_wp2_with (go_at_call 17; refine (plogLast_log B R _ L _ HL.out HD.out hl).mono ?_; rintro e w1 ⟨rfl, hl1, hb1⟩; obtain ⟨⟨c0, c1, c2⟩, _, hz⟩ := hl1.box.facts; have HL1 := Lib.hid hl1; have HB1 := Lib.hid hb1; clear hl1 hb1)
  go_region_law ((refine step_appw tyPgs (by rfl) _ _ (by rfl) w1.heap.size (.slice (some ⟨w1.heap.size, 0, none⟩) 0 0) 0 [] (by rfl) (own_empty (heap_alloc_new w1 _) (Nat.le_refl _)).drew (by simp) (.slice none 0 0) 0 [] (by rfl) (.inl ⟨rfl, rfl, rfl⟩) (by rfl) (by simp) (by omega) ?_; intro v' w2 hown2 hgrow2 hlies2; rw [Nat.zero_add, List.nil_append] at hown2; obtain ⟨a2, q2, rfl, hq2⟩ := hown2.form; have hX2 := box_grown (HL1.out.box.alloc _).drew hgrow2 (fun q hq => by simp [Value.ownBlock] at hq; omega); obtain ⟨⟨g0, g1, g2⟩, ⟨e0, e1, e2⟩, hz2⟩ := hX2.facts))
  all_goals
    go_wp2
    have HE := Lib.hid (shrink_end HL1.out HB1.out HR.out hB HO.out hn HM.out (by rw [HK.out]; exact hown2) hgrow2)
    refine bodyPost_end (v := .tuple #[]) (by simp [results, Tryd.results39, go_sem]) rfl ?_
    have h9 := HE.out
    rw [show (((0 : Nat) : Int) + (L.dropped : Int) + 1) = (L.dropped : Int) + 1 by omega] at h9
    exact ⟨_, rfl, h9⟩
theorem plogShrink_mid (B R b o c j : Nat) (L : LogM) (n : Int) (w : World) (h : LogAt w B R (.slice (some ⟨b, o, none⟩) L.kept.length c) L) (hB : B ≤ w.heap.size) (ho : L.Ok) (hl : L.all.length ≤ 1000000) (hn : (L.dropped : Int) < n) (hm : min n (L.all.length : Int) = (j : Int) + L.dropped) (hjc : j < c) :
    Calls Tryd.prog 39 #[ptrV R, .int .i64 n] w fun e w' => ∃ V, e = .returned (.tuple #[]) ∧ LogAt w' B R V (L.cut n) ∧ Goes w w' R (.slice (some ⟨b, o, none⟩) L.kept.length c) V := by
  have HL := Lib.hid h
  have HO := Lib.hid ho
  have HD := Lib.hid ho.drop
  have hkl := L.kept_len
  have hjk : j ≤ L.kept.length := by omega
  have hkm : L.kept.length ≤ 1000000 := by omega
  have HM := Lib.hid hm
  have HR := Lib.hid h.box.facts.2.2
  obtain ⟨_, _, e', hcl⟩ := h.own.form
  cases e'
  obtain ⟨⟨c0, c1, c2⟩, _, hz⟩ := h.box.facts
  have hn1 : ¬ n < (L.dropped : Int) + 1 := by omega
  have hd2 : L.dropped ≤ 1000000 := by omega
  have i0 : IntKind.i64.wrap ((j : Int) + (L.dropped : Int) + 1) = (j : Int) + (L.dropped : Int) + 1 := IntWalk.i64_in _ (by omega)
  have i1 : IntKind.i64.wrap ((j : Int) + (L.dropped : Int) + 1 - ((L.dropped : Int) + 1)) = (j : Int) := by rw [show (j : Int) + (L.dropped : Int) + 1 - ((L.dropped : Int) + 1) = (j : Int) by omega]; exact IntWalk.i64_in _ (by omega)
  have hne : ¬ c = j := by omega
  clear h ho hkl
  go_enter Tryd.func39, Tryd.ntmps39
  go_wp2_with (go_at_call 17; refine (plogLast_log B R _ L _ HL.out HD.out hl).mono ?_; rintro e w1 ⟨rfl, hl1, hb1⟩; obtain ⟨⟨c0, c1, c2⟩, _, hz⟩ := hl1.box.facts; have HL1 := Lib.hid hl1; have HB1 := Lib.hid hb1; clear hl1 hb1)
  go_region_law ((refine step_appw tyPgs (by rfl) _ _ (by rfl) w1.heap.size (.slice (some ⟨w1.heap.size, 0, none⟩) 0 0) 0 [] (by rfl) (own_empty (heap_alloc_new w1 _) (Nat.le_refl _)).drew (by simp) (.slice (some ⟨b, o + j * 3, none⟩) (L.kept.length - j) (c - j)) (L.kept.length - j) (pvals (L.kept.drop j)) (by rfl) (src_drop HL1.out.own hjk hjc) (by rw [pvals_len, List.length_drop]) (pvals_oneCell _) (by omega) ?_; intro v' w2 hown2 hgrow2 hlies2; rw [Nat.zero_add, List.nil_append] at hown2; obtain ⟨a2, q2, rfl, hq2⟩ := hown2.form; have hX2 := box_grown (HL1.out.box.alloc _).drew hgrow2 (fun q hq => by simp [Value.ownBlock] at hq; omega); obtain ⟨⟨g0, g1, g2⟩, ⟨e0, e1, e2⟩, hz2⟩ := hX2.facts))
  all_goals
    go_wp2
    have HE := Lib.hid (shrink_end HL1.out HB1.out HR.out hB HO.out hn HM.out hown2 hgrow2)
    refine bodyPost_end (v := .tuple #[]) (by simp [results, Tryd.results39, go_sem]) rfl ?_
    exact ⟨_, rfl, HE.out⟩
end A1
end Go.Proofs.YtijjggbiljkalaaDoor
