/- Contracts: the gate laws' tiny, Is on a code; what stands behind the acts: the gate, the item. No condition. -/
import Derived.Test.YtnppicekfjdefaaDoorGateQ
import Derived.Test.YtnppicekfjdefaaDoorGateJ
namespace Go.Proofs.YtnppicekfjdefaaDoor
open Go.RowKit Pl Ad Go.Maps
attribute [local go_sem] ba_get ba_append ba_extract_end ba_extract_zero ba_extract
set_option maxRecDepth 100000
set_option maxHeartbeats 4000000
set_option linter.unusedVariables false
set_option linter.unusedSimpArgs false
namespace Ad
namespace GateM
def plays (g : GateM) (l : List GAct) : GateM := l.foldl doA g
theorem plays_snoc (g : GateM) {l : List GAct} {k : Nat} (hk : k < l.length) : g.plays (l.take (k + 1)) = (g.plays (l.take k)).doA l[k] := by
  unfold plays
  rw [List.take_succ_eq_append_getElem hk, List.foldl_append]
  rfl
end GateM
def tinyB (x : It) : Bool := decide (x.tags.length ≤ 40) && decide (x.addr.length ≤ 1200)
end Ad
namespace A1
theorem is_codeV (c n : Int) (w : World) (hn : ¬ n = 0) : Calls Tryd.prog 20 #[codeV c, .int .i64 n] w fun e w' => e = .returned (.bool (decide (c = n))) ∧ w = w' := by
  have h1 : (n == 0) = false := beq_eq_false_iff_ne.2 hn
  by_cases hc : c = n
  · rw [codeV_err hc hn, decide_eq_true hc]
    exact is_err n w hn
  · have HN := Lib.hid hc
    go_enter Tryd.func20, Tryd.ntmps20
    go_wp2_with (go_at_call 35; refine (num_codeV c _).mono ?_; rintro e w' ⟨rfl, rfl⟩)
    go_ret
    exact ⟨ret_bool (by simp [h1, bne, HN.out]), rfl⟩

/-- The question's variable. -/
def QBox (w : World) (R : Nat) (xt : Int) (xa : Bs) (u : Value) (n m : Int) : Prop := w.heap[R]? = some (.cells #[.int .i64 xt, .string ⟨xa.toArray⟩, u, .int .i64 n, .int .u8 m] 28 (0, 0))
theorem QBox.facts {w : World} {R : Nat} {xt : Int} {xa : Bs} {u : Value} {n m : Int} (h : QBox w R xt xa u n m) :
    (w.cell? ⟨R, 0, none⟩ = some (.int .i64 xt) ∧ w.cell? ⟨R, 1, none⟩ = some (.string ⟨xa.toArray⟩) ∧ w.cell? ⟨R, 2, none⟩ = some u ∧ w.cell? ⟨R, 3, none⟩ = some (.int .i64 n) ∧ w.cell? ⟨R, 4, none⟩ = some (.int .u8 m)) ∧ R < w.heap.size :=
  ⟨⟨by rw [cell_of_row w R 0 _ _ _ h]; rfl, by rw [cell_of_row w R 1 _ _ _ h]; rfl, by rw [cell_of_row w R 2 _ _ _ h]; rfl, by rw [cell_of_row w R 3 _ _ _ h]; rfl, by rw [cell_of_row w R 4 _ _ _ h]; rfl⟩, (Array.getElem?_eq_some_iff.1 h).1⟩
theorem QBox.older {w w' : World} {R : Nat} {xt : Int} {xa : Bs} {u : Value} {n m : Int} (h : QBox w R xt xa u n m) (hb : Below w.heap.size w w') : QBox w' R xt xa u n m := (hb.block R h.facts.2).trans h
theorem tiny38_any (xt : Int) (xa : Bs) (tags : List Bs) (ua : Option Addr) (uc : Nat) (w : World) (htl : tags.length ≤ 9223372036854775807) :
    Calls Tryd.prog 8 #[.agg #[.int .i64 xt, .string ⟨xa.toArray⟩, .slice ua tags.length uc]] w fun e w' => e = .returned (.bool (tinyB ⟨xt, xa, tags⟩)) ∧ Below w.heap.size w w' := by
  by_cases h1 : tags.length ≤ 40
  · have HT := Lib.hid (show tinyB ⟨xt, xa, tags⟩ = decide (xa.length ≤ 1200) by unfold tinyB; simp only; rw [decide_eq_true h1]; rfl)
    have HD := Lib.hid (show decide ((xa.length : Int) ≤ 1200) = decide (xa.length ≤ 1200) by rw [decide_eq_decide]; omega)
    go_enter Tryd.func8, Tryd.ntmps8
    go_wp2
    go_ret
    exact ⟨ret_bool' (by rw [HT.out, ← HD.out]), (Below.refl _ _).alloc (Nat.le_refl _) _⟩
  · have HT := Lib.hid (show tinyB ⟨xt, xa, tags⟩ = false by unfold tinyB; simp only; rw [decide_eq_false h1]; rfl)
    have hd : decide ((tags.length : Int) ≤ 40) = false := decide_eq_false (by omega)
    go_enter Tryd.func8, Tryd.ntmps8
    go_wp2
    go_ret
    exact ⟨ret_bool' HT.out.symm, (Below.refl _ _).alloc (Nat.le_refl _) _⟩

/-- What stands behind the acts: the gate, the item. -/
structure GRest (w3 wr : World) (R M : Nat) (v u : Value) (g : GateM) (X : Nat) (xt : Int) (xa : Bs) (tags : List Bs) : Prop where
  run : GRun w3 wr R M v g
  str : OwnWin wr w3.heap.size 9 1 u tags.length (svals tags)
  box : Box3 wr X 40 (.int .i64 xt) (.string ⟨xa.toArray⟩) u
  apU : Apart R M v u
  apX : ¬ (X = R ∨ X = M ∨ v.ownBlock = some X)
theorem GRest.older {w3 wr w' : World} {R M : Nat} {v u : Value} {g : GateM} {X : Nat} {xt : Int} {xa : Bs} {tags : List Bs} (h : GRest w3 wr R M v u g X xt xa tags) (hb : Below wr.heap.size wr w') : GRest w3 w' R M v u g X xt xa tags :=
  ⟨h.run.older hb, h.str.older hb, h.box.older hb, h.apU, h.apX⟩
theorem GRest.goes {w3 wr w' : World} {R M : Nat} {v v' u : Value} {g g' : GateM} {X : Nat} {xt : Int} {xa : Bs} {tags : List Bs} (h : GRest w3 wr R M v u g X xt xa tags) (hr : GRun w3 w' R M v' g') (hs : GGoes wr w' R M v v') : GRest w3 w' R M v' u g' X xt xa tags :=
  ⟨hr, h.str.touch hs.touch h.apU, (hs.touch.block X h.box.facts.2.2 h.apX).trans h.box, h.apU.goes hs (fun q hq => (h.str.lt q hq).2), fun e => by
    rcases e with e | e | e
    · exact h.apX (.inl e)
    · exact h.apX (.inr (.inl e))
    · rcases hs.lies X e with e2 | e2
      · exact h.apX (.inr (.inr e2))
      · have := h.box.facts.2.2; omega⟩
/-- The start: the gate is new, then the item is made. -/
theorem gRest_new {w3 wr w5 : World} {R M : Nat} {v u : Value} {g : GateM} {xt : Int} {xa : Bs} {tags : List Bs} (h : GRun w3 wr R M v g) (hb : Below wr.heap.size wr w5) (hu : OwnWin w5 wr.heap.size 9 1 u tags.length (svals tags)) :
    GRest w3 (w5.alloc (.cells #[.int .i64 xt, .string ⟨xa.toArray⟩, u] 40)) R M v u g w5.heap.size xt xa tags := by
  have hal := (Below.refl w5.heap.size w5).alloc (Nat.le_refl _) (.cells #[.int .i64 xt, .string ⟨xa.toArray⟩, u] 40)
  have hR := h.gate.box.facts.2.2
  have hM := map_lt h.gate.map
  have hz := hb.size
  refine ⟨(h.older hb).older hal, (hu.older hal).mono (fun q hq => Nat.le_trans h.bel.size (hu.lt q hq).1), box3_new w5 40 (.int .i64 xt) (.string ⟨xa.toArray⟩) u, fun q hq e => ?_, fun e => ?_⟩
  · have h1 := (hu.lt q hq).1
    rcases e with e | e | e
    · omega
    · omega
    · have := (h.gate.own.lt q e).2; omega
  · rcases e with e | e | e
    · omega
    · omega
    · have := (h.gate.own.lt _ e).2; omega
end A1
end Go.Proofs.YtnppicekfjdefaaDoor
