/- Contracts: the reference's Shrink, Get, Since over the log of purges. Conditions: logs of at most a million entries. Contract: the reference's Append over the log of purges. Conditions: logs of at most a million entries; values of at most 2^27 bytes. What the laws over the log of purges share: a run's state; window, fits, awake. Conditions: logs of at most a million entries. -/
import Derived.Test.YtnppicekfjdefaaDoorPlog1
import Derived.Deep.RegionHeld3
import Derived.Deep.RegionLaw
import Derived.Deep.DeepCutAuto
section
namespace Go.Proofs.YtnppicekfjdefaaDoor
open Go.RowKit Pl Ad
attribute [local go_sem] ba_get ba_append ba_extract_end ba_extract_zero ba_extract
set_option maxRecDepth 100000
set_option maxHeartbeats 4000000
set_option linter.unusedVariables false
namespace A1
theorem tyRPgs : SliceTy Tryd.prog 22 69 3 32 :=
  ⟨Tryd.underlying22, by
    obtain ⟨i, h1, h2, h3, h4⟩ := info_parts (show (Tryd.prog.info? 69).map (fun i => (i.zero, i.size, i.bytes)) = some (some (.agg #[.int .i64 0, .int .i64 0, .string ⟨#[]⟩]), 3, 32) by kernel_rfl)
    exact ⟨i, _, h1, h2, h3, h4, rfl⟩, by decide, by decide⟩
/-- The reference's log. -/
@[reducible] def refV (u : Value) (L : LogM) : Value := .agg #[u, .int .i64 L.dropped, .int .i64 L.win]
/-- Its entries. -/
def RefOwn (w : World) (B : Nat) (u : Value) (L : LogM) : Prop := OwnWin w B 69 3 u L.all.length (pvals L.all)

theorem rows_own {w : World} {B : Nat} {e : TypeId} {v : Value} {l : List Pg} (h : OwnWin w B e 3 v l.length (pvals l)) : RowsV pcells 3 w v l := by
  rcases h.2 with ⟨h1, h2⟩ | ⟨g, o, cap, cur, rfl, hb, hg, hc, hm, hs, ht⟩
  · exact .inl ⟨List.eq_nil_of_length_eq_zero h2, .inl h1⟩
  · refine .inr ⟨g, o, cap, rfl, hc, (Array.getElem?_eq_some_iff.1 hg).1, fun i x hx j u hu => ?_⟩
    obtain ⟨hi, hix⟩ := List.getElem?_eq_some_iff.1 hx
    obtain ⟨g', o', c', e', _, _, _, _, hcell⟩ := h.cells (by omega)
    cases e'
    refine hcell (i * 3 + j) u ?_
    rw [← List.getElem?_drop, pvals_drop, drop_cons hi, pvals, hix]
    have hj : j < (pcells x).length := (List.getElem?_eq_some_iff.1 hu).1
    rw [List.getElem?_append_left hj]
    exact hu
end A1
end Go.Proofs.YtnppicekfjdefaaDoor
end

section
namespace Go.Proofs.YtnppicekfjdefaaDoor
open Go.RowKit Pl Ad
attribute [local go_sem] ba_get ba_append ba_extract_end ba_extract_zero ba_extract
set_option maxRecDepth 100000
set_option maxHeartbeats 4000000
set_option linter.unusedVariables false
namespace A1
theorem Box3.other {w : World} {R R' T : Nat} {a b c : Value} (h : Box3 w R T a b c) (hne : R' < R) (i : Nat) (u : Value) : Box3 (w.setCell ⟨R', i, none⟩ u) R T a b c := box3_touch h (touch_set1 w R' i u) (by omega)
theorem own_neT {w : World} {R T e B n size : Nat} {a b c v : Value} {xs : List Value} (h : Box3 w R T a b c) (ho : OwnWin w B e size v n xs) (hne : T ≠ e) : ∀ q, v.ownBlock = some q → ¬ q = R := fun q hq hqr => by
  subst hqr
  rcases ho.2 with ⟨rfl, _⟩ | ⟨g, o, cap, cur, rfl, _, hg, _⟩
  · cases hq
  · simp [Value.ownBlock] at hq
    subst hq
    have := Option.some.inj (h.symm.trans hg)
    injection this with _ e2
    exact hne e2
theorem heap_first (w : World) (o o' : Obj) : ((w.alloc o).alloc o').heap[w.heap.size]? = some o := (Below.heap_alloc (w.alloc o) o' _ (by simp)).trans (heap_alloc_new w o)
theorem heap_next (w : World) (o o' : Obj) : ((w.alloc o).alloc o').heap[w.heap.size + 1]? = some o' := by
  have h := heap_alloc_new (w.alloc o) o'
  simpa using h
theorem heap_alloc_next (w : World) (o o' : Obj) : ((w.alloc o).alloc o').heap[w.heap.size + 1]? = some o' := heap_next w o o'
end A1
end Go.Proofs.YtnppicekfjdefaaDoor
end

section
namespace Go.Proofs.YtnppicekfjdefaaDoor
open Go.RowKit Pl Ad
attribute [local go_sem] ba_get ba_append ba_extract_end ba_extract_zero ba_extract
set_option maxRecDepth 100000
set_option maxHeartbeats 4000000
set_option linter.unusedVariables false
namespace A1
/-- A law's log on its way: the law began at w0. -/
structure Run (w0 w : World) (R : Nat) (v : Value) (L : LogM) : Prop where
  bel : Below w0.heap.size w0 w
  log : LogAt w w0.heap.size R v L
  ok : L.Ok
theorem Run.older {w0 w w' : World} {R : Nat} {v : Value} {L : LogM} (h : Run w0 w R v L) (hb : Below w.heap.size w w') : Run w0 w' R v L := ⟨h.bel.trans (hb.mono h.bel.size), h.log.below hb, h.ok⟩
theorem Goes.below {w0 w w' : World} {R : Nat} {v v' : Value} {L : LogM} (hg : Goes w w' R v v') (h : Run w0 w R v L) : Below w0.heap.size w w' :=
  hg.touch.below h.bel.size fun i hi => by
    rcases hi with rfl | hi
    · exact h.log.hR
    · exact (h.log.own.lt i hi).1
theorem Run.goes {w0 w w' : World} {R : Nat} {v v' : Value} {L L' : LogM} (h : Run w0 w R v L) (hl : LogAt w' w0.heap.size R v' L') (hg : Goes w w' R v v') (ho : L'.Ok) : Run w0 w' R v' L' := ⟨h.bel.trans (hg.below h), hl, ho⟩
theorem own_own_ne {w : World} {B B' e e' n n' s s' : Nat} {v v' : Value} {xs xs' : List Value} (h : OwnWin w B e s v n xs) (h' : OwnWin w B' e' s' v' n' xs') (hne : e ≠ e') : ∀ q, v.ownBlock = some q → ¬ v'.ownBlock = some q := fun q hq hq' => by
  rcases h.2 with ⟨rfl, _⟩ | ⟨g, o, cap, cur, rfl, _, hg, _⟩
  · cases hq
  · rcases h'.2 with ⟨rfl, _⟩ | ⟨g', o', cap', cur', rfl, _, hg', _⟩
    · cases hq'
    · simp [Value.ownBlock] at hq hq'
      subst hq hq'
      have := Option.some.inj (hg.symm.trans hg')
      injection this with _ e2
      exact hne e2
theorem RefOwn.goes {w w' : World} {B B' R : Nat} {u v v' : Value} {L L' : LogM} (h : RefOwn w B u L) (hl : LogAt w B' R v L') (hg : Goes w w' R v v') : RefOwn w' B u L := by
  unfold RefOwn at h ⊢
  refine h.touch hg.touch fun q hq hs => ?_
  rcases hs with hs | hs
  · exact own_neT hl.box h (by decide) q hq hs
  · exact own_own_ne h hl.own (by decide) q hq hs
theorem RefOwn.older {w w' : World} {B : Nat} {u : Value} {L : LogM} (h : RefOwn w B u L) (hb : Below w.heap.size w w') : RefOwn w' B u L := OwnWin.older h hb
theorem run_append (w0 w : World) (R : Nat) (v : Value) (L : LogM) (p : Pg) (h : Run w0 w R v L) (hr : Ready w0) (hc : checkN p = 0) (hp : p.value.length ≤ 134217728) (hl : L.all.length < 1000000) :
    Calls Tryd.prog 23 #[ptrV R, pgV p] w fun e w' => ∃ v', e = .returned (.tuple #[.int .i64 ((L.all.length : Int) + 1), .nilIface]) ∧ Run w0 w' R v' (L.push p) ∧ Goes w w' R v v' :=
  (plogAppend_ok w0.heap.size R v L p w h.log h.ok (hr.below h.bel) hc hp hl h.bel.size).mono fun e w' he => by
    obtain ⟨v', h1, h2, h3⟩ := he
    exact ⟨v', h1, h.goes h2 h3 (LogM.ok_push h.ok hc hp), h3⟩
theorem run_last (w0 w : World) (R : Nat) (v : Value) (L : LogM) (h : Run w0 w R v L) (hl : L.all.length ≤ 1000000) :
    Calls Tryd.prog 36 #[ptrV R] w fun e w' => e = .returned (.int .i64 L.all.length) ∧ Run w0 w' R v L ∧ Below w.heap.size w w' :=
  (plogLast_log w0.heap.size R v L w h.log h.ok.drop hl).mono fun e w' he => ⟨he.1, h.older he.2.2, he.2.2⟩
theorem Box3.goes {w w' : World} {R R' T : Nat} {a b c v v' : Value} (h : Box3 w R' T a b c) (hg : Goes w w' R v v') (h1 : R' ≠ R) (h2 : v.ownBlock ≠ some R') : Box3 w' R' T a b c :=
  (hg.touch.block R' h.facts.2.2 (fun hs => by rcases hs with hs | hs; exact h1 hs; exact h2 hs)).trans h

def p1 : Pg := ⟨3, 0, [116]⟩
end A1
end Go.Proofs.YtnppicekfjdefaaDoor
end
