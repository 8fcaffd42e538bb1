/- Contracts: purgelog's Shrink (all). Conditions: logs of at most a million entries. -/
import Derived.Test.YtijjggbiljkalaaDoorPlog3
namespace Go.Proofs.YtijjggbiljkalaaDoor
open Go.RowKit Pl Ad
attribute [local go_sem] ba_get ba_append ba_extract_end ba_extract_zero ba_extract
set_option maxRecDepth 100000
set_option maxHeartbeats 4000000
set_option linter.unusedVariables false
namespace A1
theorem plogShrink_all (B R b o c j : Nat) (L : LogM) (n : Int) (w : World) (h : LogAt w B R (.slice (some ⟨b, o, none⟩) L.kept.length c) L) (hB : B ≤ w.heap.size) (ho : L.Ok) (hl : L.all.length ≤ 1000000) (hn : (L.dropped : Int) < n) (hm : min n (L.all.length : Int) = (j : Int) + L.dropped) (hjc : c = j) :
    Calls Tryd.prog 39 #[ptrV R, .int .i64 n] w fun e w' => ∃ V, e = .returned (.tuple #[]) ∧ LogAt w' B R V (L.cut n) ∧ Goes w w' R (.slice (some ⟨b, o, none⟩) L.kept.length c) V := by
  have HL := Lib.hid h
  have HO := Lib.hid ho
  have HD := Lib.hid ho.drop
  have hkl := L.kept_len
  have hjk : j ≤ L.kept.length := by omega
  have hkm : L.kept.length ≤ 1000000 := by omega
  have HM := Lib.hid hm
  have HR := Lib.hid h.box.facts.2.2
  obtain ⟨_, _, e', hcl⟩ := h.own.form
  cases e'
  obtain ⟨⟨c0, c1, c2⟩, _, hz⟩ := h.box.facts
  have hn1 : ¬ n < (L.dropped : Int) + 1 := by omega
  have hz0 : L.kept.length - j = 0 := by omega
  have HZ := Lib.hid hz0
  clear hz0
  have hd2 : L.dropped ≤ 1000000 := by omega
  have i0 : IntKind.i64.wrap ((j : Int) + (L.dropped : Int) + 1) = (j : Int) + (L.dropped : Int) + 1 := IntWalk.i64_in _ (by omega)
  have i1 : IntKind.i64.wrap ((j : Int) + (L.dropped : Int) + 1 - ((L.dropped : Int) + 1)) = (j : Int) := by rw [show (j : Int) + (L.dropped : Int) + 1 - ((L.dropped : Int) + 1) = (j : Int) by omega]; exact IntWalk.i64_in _ (by omega)
  clear h ho hkl
  go_enter Tryd.func39, Tryd.ntmps39
  go_wp2_with (go_at_call 17; refine (plogLast_log B R _ L _ HL.out HD.out hl).mono ?_; rintro e w1 ⟨rfl, hl1, hb1⟩; obtain ⟨⟨c0, c1, c2⟩, _, hz⟩ := hl1.box.facts; have HL1 := Lib.hid hl1; have HB1 := Lib.hid hb1; clear hl1 hb1)
  go_region_law ((refine step_appw tyPgs (by rfl) _ _ (by rfl) w1.heap.size (.slice (some ⟨w1.heap.size, 0, none⟩) 0 0) 0 [] (by rfl) (own_empty (heap_alloc_new w1 _) (Nat.le_refl _)).drew (by simp) (.slice (some ⟨b, o, none⟩) (L.kept.length - j) 0) (L.kept.length - j) (pvals (L.kept.drop j)) (by rfl) (src_none _ HZ.out) (by rw [pvals_len, List.length_drop]) (pvals_oneCell _) (by omega) ?_; intro v' w2 hown2 hgrow2 hlies2; rw [Nat.zero_add, List.nil_append] at hown2; obtain ⟨a2, q2, rfl, hq2⟩ := hown2.form; have hX2 := box_grown (HL1.out.box.alloc _).drew hgrow2 (fun q hq => by simp [Value.ownBlock] at hq; omega); obtain ⟨⟨g0, g1, g2⟩, ⟨e0, e1, e2⟩, hz2⟩ := hX2.facts))
  all_goals
    go_wp2
    have HE := Lib.hid (shrink_end HL1.out HB1.out HR.out hB HO.out hn HM.out hown2 hgrow2)
    refine bodyPost_end (v := .tuple #[]) (by simp [results, Tryd.results39, go_sem]) rfl ?_
    exact ⟨_, rfl, HE.out⟩
theorem plogShrink_any (B R : Nat) (v : Value) (L : LogM) (n : Int) (w : World) (h : LogAt w B R v L) (hB : B ≤ w.heap.size) (ho : L.Ok) (hl : L.all.length ≤ 1000000) :
    Calls Tryd.prog 39 #[ptrV R, .int .i64 n] w fun e w' => ∃ V, e = .returned (.tuple #[]) ∧ LogAt w' B R V (L.cut n) ∧ Goes w w' R v V := by
  by_cases hn : n ≤ (L.dropped : Int)
  · refine (plogShrink_no B R v L n w h hn).mono fun e w' he => ?_
    obtain ⟨rfl, rfl⟩ := he
    exact ⟨v, rfl, by rw [cut_small hn]; exact h, Goes.of_below (Below.refl _ _)⟩
  · have hd := ho.drop
    obtain ⟨j, hj⟩ : ∃ j : Nat, min n (L.all.length : Int) = (j : Int) + L.dropped := ⟨(min n (L.all.length : Int) - L.dropped).toNat, by omega⟩
    rcases h.own.2 with ⟨rfl, _⟩ | ⟨g, o, cap, cur, rfl, _, _, hc, _⟩
    · exact plogShrink_nil B R L n w h hB ho hl (by omega)
    · by_cases hjc : cap = j
      · exact plogShrink_all B R g o cap j L n w h hB ho hl (by omega) hj hjc
      · exact plogShrink_mid B R g o cap j L n w h hB ho hl (by omega) hj (by have := L.kept_len; omega)

end A1
end Go.Proofs.YtijjggbiljkalaaDoor
