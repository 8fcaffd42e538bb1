/- Contracts: the reference's Shrink, Get, Since over the log of purges. Conditions: logs of at most a million entries. Contract: the reference's Append over the log of purges. Conditions: logs of at most a million entries; values of at most 2^27 bytes. What the laws over the log of purges share: a run's state; window, fits, awake. Conditions: logs of at most a million entries. -/
import Derived.Test.YtnppicekfjdefaaGreatDoorPlog1
import Derived.Deep.RegionHeld3
import Derived.Deep.RegionLaw
import Derived.Deep.DeepCutAuto
section
namespace Go.Proofs.YtnppicekfjdefaaGreatDoor
open Go.RowKit Pl Ad
attribute [local go_sem] ba_get ba_append ba_extract_end ba_extract_zero ba_extract
set_option maxRecDepth 100000
set_option maxHeartbeats 4000000
set_option linter.unusedVariables false
namespace A1
theorem tyRPgs : SliceTy Tryz.prog 31 82 3 32 :=
  ⟨Tryz.underlying31, by
    obtain ⟨i, h1, h2, h3, h4⟩ := info_parts (show (Tryz.prog.info? 82).map (fun i => (i.zero, i.size, i.bytes)) = some (some (.agg #[.int .i64 0, .int .i64 0, .string ⟨#[]⟩]), 3, 32) by kernel_rfl)
    exact ⟨i, _, h1, h2, h3, h4, rfl⟩, by decide, by decide⟩
/-- The reference's log. -/
@[reducible] def refV (u : Value) (L : LogM) : Value := .agg #[u, .int .i64 L.dropped, .int .i64 L.win]
/-- Its entries. -/
def RefOwn (w : World) (B : Nat) (u : Value) (L : LogM) : Prop := OwnWin w B 82 3 u L.all.length (pvals L.all)

theorem rows_own {w : World} {B : Nat} {e : TypeId} {v : Value} {l : List Pg} (h : OwnWin w B e 3 v l.length (pvals l)) : RowsV pcells 3 w v l := by
  rcases h.2 with ⟨h1, h2⟩ | ⟨g, o, cap, cur, rfl, hb, hg, hc, hm, hs, ht⟩
  · exact .inl ⟨List.eq_nil_of_length_eq_zero h2, .inl h1⟩
  · refine .inr ⟨g, o, cap, rfl, hc, (Array.getElem?_eq_some_iff.1 hg).1, fun i x hx j u hu => ?_⟩
    obtain ⟨hi, hix⟩ := List.getElem?_eq_some_iff.1 hx
    obtain ⟨g', o', c', e', _, _, _, _, hcell⟩ := h.cells (by omega)
    cases e'
    refine hcell (i * 3 + j) u ?_
    rw [← List.getElem?_drop, pvals_drop, drop_cons hi, pvals, hix]
    have hj : j < (pcells x).length := (List.getElem?_eq_some_iff.1 hu).1
    rw [List.getElem?_append_left hj]
    exact hu
end A1
end Go.Proofs.YtnppicekfjdefaaGreatDoor
end

section
namespace Go.Proofs.YtnppicekfjdefaaGreatDoor
open Go.RowKit Pl Ad
attribute [local go_sem] ba_get ba_append ba_extract_end ba_extract_zero ba_extract
set_option maxRecDepth 100000
set_option maxHeartbeats 4000000
set_option linter.unusedVariables false
namespace A1
theorem Box3.other {w : World} {R R' T : Nat} {a b c : Value} (h : Box3 w R T a b c) (hne : R' < R) (i : Nat) (u : Value) : Box3 (w.setCell ⟨R', i, none⟩ u) R T a b c := box3_touch h (touch_set1 w R' i u) (by omega)
theorem own_neT {w : World} {R T e B n size : Nat} {a b c v : Value} {xs : List Value} (h : Box3 w R T a b c) (ho : OwnWin w B e size v n xs) (hne : T ≠ e) : ∀ q, v.ownBlock = some q → ¬ q = R := fun q hq hqr => by
  subst hqr
  rcases ho.2 with ⟨rfl, _⟩ | ⟨g, o, cap, cur, rfl, _, hg, _⟩
  · cases hq
  · simp [Value.ownBlock] at hq
    subst hq
    have := Option.some.inj (h.symm.trans hg)
    injection this with _ e2
    exact hne e2
theorem heap_first (w : World) (o o' : Obj) : ((w.alloc o).alloc o').heap[w.heap.size]? = some o := (Below.heap_alloc (w.alloc o) o' _ (by simp)).trans (heap_alloc_new w o)
theorem heap_next (w : World) (o o' : Obj) : ((w.alloc o).alloc o').heap[w.heap.size + 1]? = some o' := by
  have h := heap_alloc_new (w.alloc o) o'
  simpa using h
theorem heap_alloc_next (w : World) (o o' : Obj) : ((w.alloc o).alloc o').heap[w.heap.size + 1]? = some o' := heap_next w o o'
end A1
end Go.Proofs.YtnppicekfjdefaaGreatDoor
end

section
namespace Go.Proofs.YtnppicekfjdefaaGreatDoor
open Go.RowKit Pl Ad
attribute [local go_sem] ba_get ba_append ba_extract_end ba_extract_zero ba_extract
set_option maxRecDepth 100000
set_option maxHeartbeats 4000000
set_option linter.unusedVariables false
namespace A1
theorem own_own_ne {w : World} {B B' e e' n n' s s' : Nat} {v v' : Value} {xs xs' : List Value} (h : OwnWin w B e s v n xs) (h' : OwnWin w B' e' s' v' n' xs') (hne : e ≠ e') : ∀ q, v.ownBlock = some q → ¬ v'.ownBlock = some q := fun q hq hq' => by
  rcases h.2 with ⟨rfl, _⟩ | ⟨g, o, cap, cur, rfl, _, hg, _⟩
  · cases hq
  · rcases h'.2 with ⟨rfl, _⟩ | ⟨g', o', cap', cur', rfl, _, hg', _⟩
    · cases hq'
    · simp [Value.ownBlock] at hq hq'
      subst hq hq'
      have := Option.some.inj (hg.symm.trans hg')
      injection this with _ e2
      exact hne e2
theorem RefOwn.older {w w' : World} {B : Nat} {u : Value} {L : LogM} (h : RefOwn w B u L) (hb : Below w.heap.size w w') : RefOwn w' B u L := OwnWin.older h hb
theorem Box3.goes {w w' : World} {R R' T : Nat} {a b c v v' : Value} (h : Box3 w R' T a b c) (hg : Goes w w' R v v') (h1 : R' ≠ R) (h2 : v.ownBlock ≠ some R') : Box3 w' R' T a b c :=
  (hg.touch.block R' h.facts.2.2 (fun hs => by rcases hs with hs | hs; exact h1 hs; exact h2 hs)).trans h

def p1 : Pg := ⟨3, 0, [116]⟩
end A1
end Go.Proofs.YtnppicekfjdefaaGreatDoor
end
