/- Contracts: slices.Clone over purges; gate.New, Applied, Floor, Recent. Conditions: at most a million purges. -/
import Derived.Test.YtnppicekfjdefaaGreatDoorGateA
import Derived.Lib.SliceRun
import Derived.Deep.RegionLaw
import Derived.Carry
namespace Go.Proofs.YtnppicekfjdefaaGreatDoor
open Go.RowKit Pl Ad Go.Maps
attribute [local go_sem] ba_get ba_append ba_extract_end ba_extract_zero ba_extract
set_option maxRecDepth 100000
set_option maxHeartbeats 4000000
set_option linter.unusedVariables false
namespace A1
theorem clone_any (B : Nat) (v : Value) (l : List Pg) (w : World) (h : OwnWin w B 56 3 v l.length (pvals l)) (hl : l.length ≤ 1000000) :
    Calls Tryz.prog 44 #[v] w fun e w' => ∃ u, e = .returned u ∧ OwnWin w' w.heap.size 56 3 u l.length (pvals l) ∧ Below w.heap.size w w' := by
  have HO := Lib.hid h
  rcases h.2 with ⟨rfl, h0⟩ | ⟨g, o, cap, cur, rfl, hb, hg, hc, hm, hs, ht⟩
  · have HN := Lib.hid (own_nil (w := w) (B := w.heap.size) (e := 56) (List.eq_nil_of_length_eq_zero h0))
    have e0 : ∀ wx : World, (binOp .eql 57 (.slice none 0 0) (.slice none 0 0)).run Tryz.prog wx = .ok (.bool true) wx := fun wx => by kernel_rfl
    clear h h0
    go_enter Tryz.func44, Tryz.ntmps44
    go_wp2
    go_ret
    exact ⟨_, rfl, HN.out, Below.refl _ _⟩
  · have e0 : ∀ wx : World, (binOp .eql 57 (.slice (some ⟨g, o, none⟩) l.length cap) (.slice none 0 0)).run Tryz.prog wx = .ok (.bool false) wx := fun wx => Go.Lib.run_eql_slice_nil wx _ _ _ _ _ _ _ Tryz.underlying57
    clear h hb hg hc hm hs ht
    go_enter Tryz.func44, Tryz.ntmps44
    go_wp2_with ((at_builtin; refine wpList_appw tyPgs rfl _ _ rfl w.heap.size (.slice (some ⟨w.heap.size, 0, none⟩) 0 0) 0 [] rfl (own_empty (heap_alloc_new w _) (Nat.le_refl _)) (by simp) (.slice (some ⟨g, o, none⟩) l.length cap) l.length (pvals l) rfl (SrcAt.of (HO.out.alloc _)) (by rw [pvals_len]) (pvals_oneCell _) (by omega) ?_; intro v' w2 hown2 hgrow2 hlies2; rw [Nat.zero_add, List.nil_append] at hown2))
    go_ret
    exact ⟨_, rfl, hown2, below_grown ((Below.refl w.heap.size w).alloc (Nat.le_refl _) _) hgrow2 (by simp) (fun q hq => by simp [Value.ownBlock] at hq; omega)⟩
theorem gateNew_ok (n : Int) (w : World) (h1 : 1 ≤ n) (h2 : n ≤ 1024) :
    Calls Tryz.prog 7 #[.int .i64 n] w fun e w' => e = .returned (.tuple #[ptrV (w.heap.size + 1), .nilIface]) ∧ w' = (w.alloc (.map #[] 0)).alloc (.cells #[.int .i64 n, .int .i64 0, .int .i64 0, .slice none 0 0, .map (some w.heap.size)] 63) := by
  have hmm := @run_makeMap Tryz.prog
  go_enter Tryz.func7, Tryz.ntmps7
  go_wp2
  go_ret2
  exact ⟨rfl, rfl⟩
theorem gateNew_err (n : Int) (w : World) (h : n < 1 ∨ 1024 < n) :
    Calls Tryz.prog 7 #[.int .i64 n] w fun e w' => e = .returned (.tuple #[.pointer none, .iface 60 (.int .i64 1)]) ∧ w = w' := by
  by_cases h1 : n < 1
  · go_enter Tryz.func7, Tryz.ntmps7
    go_wp2
    go_ret2
    exact ⟨rfl, rfl⟩
  · have h2 : 1024 < n := by omega
    go_enter Tryz.func7, Tryz.ntmps7
    go_wp2
    go_ret2
    exact ⟨rfl, rfl⟩
theorem gateAt_new (w : World) (n : Nat) (B : Nat) (hB : B ≤ w.heap.size) : GateAt ((w.alloc (.map #[] 0)).alloc (.cells #[.int .i64 n, .int .i64 0, .int .i64 0, .slice none 0 0, .map (some w.heap.size)] 63)) B (w.heap.size + 1) w.heap.size (.slice none 0 0) (.start n) [] := by
  refine ⟨by omega, hB, ?_, OwnWin.nil _ _ _ _, ?_⟩
  · have h := heap_alloc_new (w.alloc (.map #[] 0)) (.cells #[.int .i64 n, .int .i64 0, .int .i64 0, .slice none 0 0, .map (some w.heap.size)] 63)
    rw [show (w.alloc (.map #[] 0)).heap.size = w.heap.size + 1 by simp] at h
    exact h
  · exact World.ownsMap.alloc (World.ownsMap_made w Tryz.prog 3 pgElem) _
theorem gateApplied (B R M : Nat) (v : Value) (g : GateM) (l : List (Int × Pg)) (w : World) (h : GateAt w B R M v g l) :
    Calls Tryz.prog 18 #[ptrV R] w fun e w' => e = .returned (.int .i64 g.applied) ∧ w = w' := by
  obtain ⟨⟨c0, c1, c2, c3, c4⟩, _, hz⟩ := h.box.facts
  clear h
  go_enter Tryz.func18, Tryz.ntmps18
  go_wp2
  go_ret
  exact ⟨rfl, rfl⟩
theorem gateFloor (B R M : Nat) (v : Value) (g : GateM) (l : List (Int × Pg)) (w : World) (h : GateAt w B R M v g l) :
    Calls Tryz.prog 27 #[ptrV R] w fun e w' => e = .returned (.int .i64 g.floor) ∧ w = w' := by
  obtain ⟨⟨c0, c1, c2, c3, c4⟩, _, hz⟩ := h.box.facts
  clear h
  go_enter Tryz.func27, Tryz.ntmps27
  go_wp2
  go_ret
  exact ⟨rfl, rfl⟩
end A1
end Go.Proofs.YtnppicekfjdefaaGreatDoor
