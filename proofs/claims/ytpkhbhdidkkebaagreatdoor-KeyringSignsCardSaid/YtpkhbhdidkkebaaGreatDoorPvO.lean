/- Contracts and plain facts that the statement's proof leans on (texts joined). No condition beyond those that each names. -/
import Derived.Test.YtpkhbhdidkkebaaGreatDoorPvN
section
namespace Go.Proofs.YtpkhbhdidkkebaaGreatDoor
open Go.RowKit Pl Ad
attribute [local go_sem] ba_get ba_append ba_extract_end ba_extract_zero ba_extract
set_option maxRecDepth 100000
set_option maxHeartbeats 4000000
set_option linter.unusedVariables false
set_option linter.unusedSimpArgs false
namespace Kr
theorem cloneB_any (v : Value) (l : Bs) (w : World) (h : SrcAt w v l.length (bvals l)) (hl : l.length ≤ 1000000) :
 Calls Tryz.prog 52 #[v] w fun e w' => ∃ u, e = .returned u ∧ OwnWin w' w.heap.size 5 1 u l.length (bvals l) ∧ Below w.heap.size w w' := by
 have HO := Lib.hid h
 rcases h with ⟨rfl, h0, _⟩ | ⟨ad, cap, rfl, hb⟩
 ·obtain rfl : l = [] := List.eq_nil_of_length_eq_zero h0
  have HN := Lib.hid (OwnWin.nil w w.heap.size 5 1)
  have e0 : ∀ wx : World, (binOp .eql 45 (.slice none 0 0) (.slice none 0 0)).run Tryz.prog wx = .ok (.bool true) wx := fun wx => by kernel_rfl
  clear h0
  go_enter Tryz.func52, Tryz.ntmps52
  go_wp2
  go_ret
  exact ⟨_, rfl, HN.out, Below.refl _ _⟩
 ·have e0 : ∀ wx : World, (binOp .eql 45 (.slice (some ad) l.length cap) (.slice none 0 0)).run Tryz.prog wx = .ok (.bool false) wx := fun wx => Go.Lib.run_eql_slice_nil wx _ _ _ _ _ _ _ Tryz.underlying45
  clear hb
  go_enter Tryz.func52, Tryz.ntmps52
  go_wp2_with ((at_builtin; refine wpList_appw tyBytes rfl _ _ rfl w.heap.size (.slice (some ⟨w.heap.size, 0, none⟩) 0 0) 0 [] rfl (ownK_empty (heap_alloc_new w _) (Nat.le_refl _)) (by simp) (.slice (some ad) l.length cap) l.length (bvals l) rfl (HO.out.older ((Below.refl _ _).alloc (Nat.le_refl _) _)) (by rw [bvals_len]; omega) (bvals_one _) (by omega) ?_; intro v' w2 hown2 hgrow2 hlies2; rw [Nat.zero_add, List.nil_append] at hown2))
  go_ret
  exact ⟨_, rfl, hown2, belowK_grown ((Below.refl w.heap.size w).alloc (Nat.le_refl _) _) hgrow2 (by simp) (fun q hq => by simp [Value.ownBlock] at hq; omega)⟩
end Kr
end Go.Proofs.YtpkhbhdidkkebaaGreatDoor
end

