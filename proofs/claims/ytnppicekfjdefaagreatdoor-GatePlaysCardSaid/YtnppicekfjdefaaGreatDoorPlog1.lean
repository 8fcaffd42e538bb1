/- Contracts: purgelog.New, Last, First, Append. Conditions: logs of at most a million entries; values of at most 2^27 bytes. Contracts: purgelog's Get, Since. Conditions: logs of at most a million entries. Contracts: purgelog's Shrink, Copy. Conditions: logs of at most a million entries. Contracts: purgelog's Shrink (all). Conditions: logs of at most a million entries. Contract: purgelog's Copy. Conditions: logs of at most a million entries. -/
import Derived.Test.YtnppicekfjdefaaGreatDoorPurg4
import Derived.Test.YtnppicekfjdefaaGreatDoorPurgP
import Derived.Test.YtnppicekfjdefaaGreatDoorRowV
import Derived.Test.YtnppicekfjdefaaGreatDoorInv
import Derived.BigQuiet
import Derived.Deep.RegionHeld3
import Derived.Deep.RegionLaw
section
namespace Go.Proofs.YtnppicekfjdefaaGreatDoor
open Go.RowKit Pl Ad
attribute [local go_sem] ba_get ba_append ba_extract_end ba_extract_zero ba_extract
set_option maxRecDepth 100000
set_option maxHeartbeats 4000000
set_option linter.unusedVariables false
namespace A1

theorem tyPgs : SliceTy Tryz.prog 57 56 3 32 :=
  ⟨Tryz.underlying57, by
    obtain ⟨i, h1, h2, h3, h4⟩ := info_parts (show (Tryz.prog.info? 56).map (fun i => (i.zero, i.size, i.bytes)) = some (some (.agg #[.int .i64 0, .int .i64 0, .string ⟨#[]⟩]), 3, 32) by kernel_rfl)
    exact ⟨i, _, h1, h2, h3, h4, rfl⟩, by decide, by decide⟩

/-- The pointer to block R. -/
@[reducible] def ptrV (R : Nat) : Value := .pointer (some ⟨R, 0, none⟩)
/-- What a call may have written: the log's block and its slice's; its slice lies where it lay, or in a new block. -/
structure Goes (w w' : World) (R : Nat) (v v' : Value) : Prop where
  touch : Touch (fun k => k = R ∨ v.ownBlock = some k) w w'
  lies : ∀ q, v'.ownBlock = some q → v.ownBlock = some q ∨ w.heap.size ≤ q
theorem Goes.of_below {w w' : World} {R : Nat} {v : Value} (h : Below w.heap.size w w') : Goes w w' R v v := ⟨Touch.of_below h (Nat.le_refl _), fun q hq => .inl hq⟩

/-- The error of a number. -/
def codeV (c : Int) : Value := if c = 0 then .nilIface else .iface 60 (.int .i64 c)
theorem codeV_ok {c : Int} (h : c = 0) : codeV c = .nilIface := if_pos h
theorem codeV_err {c n : Int} (h : c = n) (hn : ¬ n = 0) : codeV c = .iface 60 (.int .i64 n) := by unfold codeV; rw [h, if_neg hn]
theorem num_codeV (c : Int) (w : World) : Calls Tryz.prog 14 #[codeV c] w fun e w' => e = .returned (.int .i64 c) ∧ w = w' := by
  by_cases h : c = 0
  · rw [codeV_ok h, h]; exact num_nil w
  · rw [codeV_err rfl h]; exact num_err _ w

theorem box_grown {w w' : World} {row : Option Nat} {R T : Nat} {a b c : Value} (h : Box3 w R T a b c) (hg : w.grownBy w' row) (hn : ∀ q, row = some q → ¬ q = R) : Box3 w' R T a b c :=
  (hg.block R h.facts.2.2 (fun e => hn R e.symm rfl)).trans h
theorem goes_app {w w1 w2 : World} {R : Nat} {v V : Value} {o : Obj} (u : Value) (hB : Below w.heap.size w w1) (hg : ((w1.alloc o).drew).grownBy w2 v.ownBlock) (hl : V.ownBlock = v.ownBlock ∨ V.ownBlock = some ((w1.alloc o).drew).heap.size) :
    Goes w (w2.setCell ⟨R, 2, none⟩ u) R v V := by
  refine ⟨((((Touch.of_below hB (Nat.le_refl _)).alloc o).drew).trans' (Touch.of_grown (S := fun k => v.ownBlock = some k) hg (fun k hk => hk)) (fun i _ h => .inr h)).setCell (.inl rfl) u, fun q hq => ?_⟩
  rcases hl with h | h
  · left; rw [← h]; exact hq
  · right
    rw [h] at hq
    cases hq
    have := hB.size
    simp; omega
theorem Goes.set {w w1 : World} {R : Nat} {v V : Value} (h : Goes w w1 R v V) (i : Nat) (u : Value) : Goes w (w1.setCell ⟨R, i, none⟩ u) R v V := ⟨h.touch.setCell (.inl rfl) u, h.lies⟩
theorem Goes.drewN {w w1 : World} {R : Nat} {v V : Value} (h : Goes w w1 R v V) (q : Nat) : Goes w (w1.drewN q) R v V := ⟨h.touch.trans (Touch.of_below (below_drewN (Below.refl _ _) q) (Nat.le_refl _)), h.lies⟩
theorem Goes.val {w w1 : World} {R : Nat} {v V V' : Value} (h : Goes w w1 R v V) (hv : V'.ownBlock = V.ownBlock) : Goes w w1 R v V' := ⟨h.touch, fun q hq => h.lies q (by rw [← hv]; exact hq)⟩
theorem ap_of {w1 : World} {R N : Nat} {v V : Value} (hap : ∀ q, v.ownBlock = some q → ¬ q = R) (hl : V.ownBlock = v.ownBlock ∨ V.ownBlock = some N) (hR : R < N) : ∀ q, V.ownBlock = some q → ¬ q = R := fun q hq => by
  rcases hl with h | h
  · exact hap q (by rw [← h]; exact hq)
  · rw [h] at hq; cases hq; omega
theorem own_setR {w : World} {B R n size : Nat} {e : TypeId} {v : Value} {xs : List Value} (h : OwnWin w B e size v n xs) (hn : ∀ q, v.ownBlock = some q → ¬ q = R) (i : Nat) (u : Value) : OwnWin (w.setCell ⟨R, i, none⟩ u) B e size v n xs :=
  h.touch (touch_set1 w R i u) hn
theorem own_drewN {w : World} {B n size : Nat} {e : TypeId} {v : Value} {xs : List Value} (h : OwnWin w B e size v n xs) (q : Nat) : OwnWin (w.drewN q) B e size v n xs := h.older (below_drewN (Below.refl _ _) q)
theorem box_drewN {w : World} {R T : Nat} {a b c : Value} (h : Box3 w R T a b c) (q : Nat) : Box3 (w.drewN q) R T a b c := h.older (below_drewN (Below.refl _ _) q)
theorem own_drop1 {w : World} {B b o n q : Nat} {l : List Pg} {e : TypeId} (h : OwnWin w B e 3 (.slice (some ⟨b, o, none⟩) (n + 1) q) (n + 1) (pvals l)) (hl : l.length = n + 1) (hq : 1 < q) : OwnWin w B e 3 (.slice (some ⟨b, o + 3, none⟩) n (q - 1)) (l.drop 1).length (pvals (l.drop 1)) := by
  have := h.drop (k := 1) rfl (by omega) hq
  rw [pvals_drop l 1] at this
  rw [List.length_drop, hl]
  simpa using this
theorem ret2_int {a b : Int} {u : Value} (h : a = b) : Ending.returned (.tuple #[.int .i64 a, u]) = .returned (.tuple #[.int .i64 b, u]) := by rw [h]
end A1
end Go.Proofs.YtnppicekfjdefaaGreatDoor
end

section
namespace Go.Proofs.YtnppicekfjdefaaGreatDoor
open Go.RowKit Pl Ad
attribute [local go_sem] ba_get ba_append ba_extract_end ba_extract_zero ba_extract
set_option maxRecDepth 100000
set_option maxHeartbeats 4000000
set_option linter.unusedVariables false
namespace A1
/-- No purge. -/
@[reducible] def noPg : Value := .agg #[.int .i64 0, .int .i64 0, .string ⟨#[]⟩]

/-- What Get returns. -/
def getP (L : LogM) (n : Int) : Pg := if L.getC n = 0 then L.all.getD (n - 1).toNat ⟨0, 0, []⟩ else ⟨0, 0, []⟩
theorem own_empty {w : World} {g B size : Nat} {e : TypeId} (h : w.heap[g]? = some (.cells #[] e (0, 0))) (hB : B ≤ g) : OwnWin w B e size (.slice (some ⟨g, 0, none⟩) 0 0) 0 [] :=
  ⟨by simp, .inr ⟨g, 0, 0, #[], rfl, hB, h, Nat.le_refl _, Nat.zero_le _, by simp, by simp⟩⟩
theorem below_grown {w w1 w2 : World} {B : Nat} {row : Option Nat} (hb : Below B w w1) (hg : w1.grownBy w2 row) (hB : B ≤ w1.heap.size) (hr : ∀ q, row = some q → B ≤ q) : Below B w w2 := hb.grown hg hB hr
theorem since_kept {L : LogM} {j : Nat} {n : Int} (hj : n = (j : Int) + L.dropped) (h : (j : Int) + L.dropped < L.all.length) : L.since n = L.kept.drop j := by
  unfold LogM.since LogM.kept
  rw [if_neg (by omega), List.drop_drop, hj]
  congr 1; omega
theorem own_nil (w : World) (B : Nat) (e : TypeId) {l : List Pg} (h : l = []) : OwnWin w B e 3 (.slice none 0 0) l.length (pvals l) := by subst h; exact OwnWin.nil _ _ _ _
end A1
end Go.Proofs.YtnppicekfjdefaaGreatDoor
end

section
namespace Go.Proofs.YtnppicekfjdefaaGreatDoor
open Go.RowKit Pl Ad
attribute [local go_sem] ba_get ba_append ba_extract_end ba_extract_zero ba_extract
set_option maxRecDepth 100000
set_option maxHeartbeats 4000000
set_option linter.unusedVariables false
namespace A1
theorem cut_small {L : LogM} {n : Int} (h : n ≤ L.dropped) : L.cut n = L := by
  obtain ⟨a, b, c⟩ := L
  have : max c (min n (b.length : Int)).toNat = c := by simp only at h; omega
  unfold LogM.cut
  rw [this]
theorem src_drop {w : World} {B b o c j : Nat} {e : TypeId} {l : List Pg} {ob : Obj} (h : OwnWin w B e 3 (.slice (some ⟨b, o, none⟩) l.length c) l.length (pvals l)) (hj : j ≤ l.length) (hc : j < c) :
    SrcAt (w.alloc ob).drew (.slice (some ⟨b, o + j * 3, none⟩) (l.length - j) (c - j)) (l.length - j) (pvals (l.drop j)) := by
  have := h.drop (k := j) rfl hj hc
  rw [pvals_drop] at this
  exact SrcAt.of (this.alloc _).drew
theorem src_none (w : World) {b o j m : Nat} {l : List Pg} (h : l.length - j = 0) : SrcAt w (.slice (some ⟨b, o, none⟩) (l.length - j) m) (l.length - j) (pvals (l.drop j)) := by
  refine .inr ⟨_, _, rfl, fun i x hx => ?_⟩
  rw [List.drop_of_length_le (by omega)] at hx
  cases hx
end A1
end Go.Proofs.YtnppicekfjdefaaGreatDoor
end

section
namespace Go.Proofs.YtnppicekfjdefaaGreatDoor
open Go.RowKit Pl Ad
attribute [local go_sem] ba_get ba_append ba_extract_end ba_extract_zero ba_extract
set_option maxRecDepth 100000
set_option maxHeartbeats 4000000
set_option linter.unusedVariables false
namespace A1
end A1
end Go.Proofs.YtnppicekfjdefaaGreatDoor
end

section
namespace Go.Proofs.YtnppicekfjdefaaGreatDoor
open Go.RowKit Pl Ad
attribute [local go_sem] ba_get ba_append ba_extract_end ba_extract_zero ba_extract
set_option maxRecDepth 100000
set_option maxHeartbeats 4000000
set_option linter.unusedVariables false
namespace A1
end A1
end Go.Proofs.YtnppicekfjdefaaGreatDoor
end
