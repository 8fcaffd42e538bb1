/- Contract: purgelog's Copy. Conditions: logs of at most a million entries. -/
import Derived.Test.YtijjggbiljkalaaDoorPlog4
import Derived.Deep.RegionHeld3
namespace Go.Proofs.YtijjggbiljkalaaDoor
open Go.RowKit Pl Ad
attribute [local go_sem] ba_get ba_append ba_extract_end ba_extract_zero ba_extract
set_option maxRecDepth 100000
set_option maxHeartbeats 4000000
set_option linter.unusedVariables false
namespace A1
theorem plogCopy_any (B R : Nat) (v : Value) (L : LogM) (w : World) (h : LogAt w B R v L) (hl : L.all.length ≤ 1000000) :
    Calls Tryd.prog 28 #[ptrV R] w fun e w' => ∃ R' V, e = .returned (ptrV R') ∧ LogAt w' w.heap.size R' V L ∧ Below w.heap.size w w' := by
  have HL := Lib.hid h
  have hkm : L.kept.length ≤ 1000000 := by have := L.kept_len; omega
  obtain ⟨⟨c0, c1, c2⟩, _, hz⟩ := h.box.facts
  obtain ⟨va, vc, rfl, _⟩ := h.own.form
  clear h
  go_enter Tryd.func28, Tryd.ntmps28
  go_wp2
  go_region_held3 (fun w' => w'.cell? ⟨R, 0, none⟩ = some (.int .i64 L.win) ∧ w'.cell? ⟨R, 1, none⟩ = some (.int .i64 ((L.dropped : Int) + 1)) ∧ w'.cell? ⟨R, 2, none⟩ = some (.slice va L.kept.length vc)) (first | go_keep | exact ⟨g0, g1, g2⟩)
    ((refine step_appw tyPgs (by rfl) _ _ (by rfl) w.heap.size (.slice (some ⟨w.heap.size, 0, none⟩) 0 0) 0 [] (by rfl) (own_empty (heap_alloc_new w _) (Nat.le_refl _)).drew (by simp) (.slice va L.kept.length vc) L.kept.length (pvals L.kept) (by rfl) (SrcAt.of (HL.out.own.alloc _).drew) (by rw [pvals_len]) (pvals_oneCell _) (by omega) ?_; intro v' w2 hown2 hgrow2 hlies2; rw [Nat.zero_add, List.nil_append] at hown2; obtain ⟨a2, q2, rfl, hq2⟩ := hown2.form; have hX2 := box_grown (HL.out.box.alloc _).drew hgrow2 (fun q hq => by simp [Value.ownBlock] at hq; omega); obtain ⟨⟨g0, g1, g2⟩, ⟨e0, e1, e2⟩, hz2⟩ := hX2.facts))
  all_goals
    go_wp2
    go_ret
    have hs := hgrow2.size
    simp at hs
    have hx := (hown2.alloc (.cells #[.int .i64 L.win, .int .i64 ((L.dropped : Int) + 1), .slice a2 L.kept.length q2] 100))
    exact ⟨w2.heap.size, .slice a2 L.kept.length q2, rfl, ⟨by omega, box3_new w2 _ _ _ _, hx⟩, (below_grown ((Below.refl w.heap.size w).alloc (Nat.le_refl _) _).drew hgrow2 (by simp) (fun q hq => by simp [Value.ownBlock] at hq; omega)).alloc (by omega) _⟩
end A1
end Go.Proofs.YtijjggbiljkalaaDoor
