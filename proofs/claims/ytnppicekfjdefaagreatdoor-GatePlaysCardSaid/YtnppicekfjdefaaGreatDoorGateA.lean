/- The gate's entries aside as a map: how it reads, and what a lookup, a store, a deletion make of it. No condition. -/
import Derived.Test.YtnppicekfjdefaaGreatDoorGateP
import Derived.Test.YtnppicekfjdefaaGreatDoorPlog1
import Derived.Maps.OwnSet
import Derived.Maps.RangeWalk
namespace Go.Proofs.YtnppicekfjdefaaGreatDoor
open Go.RowKit Pl Ad Go.Maps
set_option maxRecDepth 100000
set_option linter.unusedVariables false
namespace A1
def pgD (p : Pg) : DataW Unit := .agg [.lit (.int .i64 p.kind), .lit (.int .i64 p.tenant), .lit (.string p.value)]
/-- How an element reads. -/
def pgElem : Value → Option (DataW Unit × List MemPlace)
  | .agg cs => match cs.toList with
    | [.int .i64 k, .int .i64 t, .string s] => some (pgD ⟨k, t, s.data.toList⟩, [])
    | _ => none
  | _ => none
theorem pgElem_mk (p : Pg) : pgElem (.agg #[.int .i64 p.kind, .int .i64 p.tenant, .string ⟨p.value.toArray⟩]) = some (pgD p, []) := by
  simp [pgElem]
theorem pgElem_inv {v : Value} {z : DataW Unit × List MemPlace} (h : pgElem v = some z) : ∃ p : Pg, v = .agg #[.int .i64 p.kind, .int .i64 p.tenant, .string ⟨p.value.toArray⟩] ∧ z = (pgD p, []) := by
  unfold pgElem at h
  split at h
  · rename_i cs
    obtain ⟨l⟩ := cs
    split at h
    · rename_i k t s hl
      cases h
      simp only at hl
      subst hl
      exact ⟨⟨k, t, s.data.toList⟩, by simp, rfl⟩
    · cases h
  · cases h
theorem pgD_inj {p q : Pg} (h : pgD p = pgD q) : p = q := by
  obtain ⟨a, b, c⟩ := p
  obtain ⟨a', b', c'⟩ := q
  simp only [pgD] at h
  injection h with h
  simp at h
  obtain ⟨rfl, rfl, rfl⟩ := h
  rfl
def mapD (l : List (Int × Pg)) : DataW Unit := .map (l.map fun e => (.int .i64 e.1, pgD e.2))
theorem same_i (a b : Int) : (Lit.int .i64 a).sameKey (.int .i64 b) = (a == b) := by
  simp only [Lit.sameKey, true_and]
  by_cases h : a = b <;> simp [h]
theorem mapD_del (l : List (Int × Pg)) (n : Int) : (mapD l).del (.int .i64 n) = mapD (l.filter fun e => !(e.1 == n)) := by
  simp only [mapD, DataW.del, List.filter_map]
  congr 2
  apply List.filter_congr
  intro e _
  simp [Function.comp, same_i]
theorem insert_ins (n : Int) (p : Pg) : ∀ (l : List (Int × Pg)), GateM.hasK n l = false → DataW.insert (.int .i64 n, pgD p) (l.map fun e => (Lit.int .i64 e.1, pgD e.2)) = (GateM.ins n p l).map fun e => (Lit.int .i64 e.1, pgD e.2)
  | [], _ => rfl
  | (k, q) :: r, h => by
    simp only [GateM.hasK, List.any_cons, Bool.or_eq_false_iff, beq_eq_false_iff_ne] at h
    simp only [List.map_cons, DataW.insert, GateM.ins]
    by_cases hk : k < n
    · have hb : (Lit.int .i64 n).before (.int .i64 k) = false := by simp [Lit.before]; omega
      simp only [hb, if_pos hk, Bool.false_eq_true, if_false, List.map_cons, insert_ins n p r h.2]
    · have hne : ¬ k = n := h.1
      have hb : (Lit.int .i64 n).before (.int .i64 k) = true := by simp [Lit.before]; omega
      simp only [hb, if_neg hk, if_true, List.map_cons]
theorem mapD_put (l : List (Int × Pg)) (n : Int) (p : Pg) (h : GateM.hasK n l = false) : (mapD l).put (.int .i64 n) (pgD p) = mapD (GateM.ins n p l) := by
  have hf : (l.map fun e => (Lit.int .i64 e.1, pgD e.2)).filter (fun e => !e.1.sameKey (.int .i64 n)) = l.map fun e => (Lit.int .i64 e.1, pgD e.2) := by
    rw [List.filter_eq_self]
    intro e he
    obtain ⟨x, hx, rfl⟩ := List.mem_map.1 he
    simp only [same_i]
    simp only [GateM.hasK, List.any_eq_false] at h
    simpa using h x hx
  simp only [mapD, DataW.put]
  rw [hf, insert_ins n p l h]
theorem mapD_has (l : List (Int × Pg)) (n : Int) : Maps.has (mapD l) (.int .i64 n) = GateM.hasK n l := by
  simp only [mapD, Maps.has_eq, GateM.hasK, List.any_map]
  congr 1
  funext e
  simp [Function.comp, same_i]
theorem mapD_size (l : List (Int × Pg)) : Maps.size (mapD l) = l.length := by simp [mapD, Maps.size]
theorem mapD_at (l : List (Int × Pg)) (n : Int) (z : DataW Unit) : (mapD l).atKey (.int .i64 n) z = match l.find? (fun e => e.1 == n) with | some e => pgD e.2 | none => z := by
  simp only [mapD, DataW.atKey, List.find?_map]
  have e : ((fun p : Lit × DataW Unit => p.1.sameKey (.int .i64 n)) ∘ fun e : Int × Pg => (Lit.int .i64 e.1, pgD e.2)) = fun e => e.1 == n := by
    funext e
    simp [Function.comp, same_i]
  rw [e]
  cases l.find? (fun e => e.1 == n) <;> rfl
/-- The entry at a number. -/
def atK (n : Int) (l : List (Int × Pg)) : Pg := match l.find? (fun e => e.1 == n) with
  | some e => e.2
  | none => ⟨0, 0, []⟩
theorem mapD_atK (l : List (Int × Pg)) (n : Int) : (mapD l).atKey (.int .i64 n) (pgD ⟨0, 0, []⟩) = pgD (atK n l) := by
  rw [mapD_at]
  unfold atK
  cases l.find? (fun e => e.1 == n) <;> rfl
/-- What is aside next. -/
theorem next_head {l : List (Int × Pg)} {n : Int} (h : GateM.Asc l) (hn : ∀ e ∈ l, n ≤ e.1) : (GateM.hasK n l = false ∧ ∀ e ∈ l, n < e.1) ∨ ∃ p r, l = (n, p) :: r ∧ GateM.hasK n l = true ∧ atK n l = p ∧ l.filter (fun e => !(e.1 == n)) = r ∧ ∀ e ∈ r, n < e.1 := by
  cases l with
  | nil => exact .inl ⟨rfl, fun e he => by cases he⟩
  | cons e r =>
    obtain ⟨k, q⟩ := e
    have hc := List.pairwise_cons.1 h
    have hk := hn (k, q) (by simp)
    simp only at hk
    by_cases he : k = n
    · subst he
      right
      have hr : ∀ e ∈ r, k < e.1 := fun e he => hc.1 e he
      refine ⟨q, r, rfl, by simp [GateM.hasK], by simp [atK], ?_, hr⟩
      rw [List.filter_cons]
      simp only [beq_self_eq_true, Bool.not_true, Bool.false_eq_true, if_false]
      rw [List.filter_eq_self]
      intro x hx
      have := hr x hx
      simp; omega
    · left
      have hall : ∀ e ∈ (k, q) :: r, n < e.1 := fun x hx => by
        rcases List.mem_cons.1 hx with rfl | hx
        · simp only; omega
        · have := hc.1 x hx; simp only at this; omega
      refine ⟨?_, hall⟩
      simp only [GateM.hasK, List.any_eq_false]
      intro x hx
      have := hall x hx
      simp; omega
theorem wf_i64 {n : Int} (h1 : -9223372036854775808 ≤ n) (h2 : n ≤ 9223372036854775807) : (Lit.int .i64 n).wf = true := by
  have e1 : IntKind.min .i64 = -9223372036854775808 := rfl
  have e2 : IntKind.max .i64 = 9223372036854775807 := rfl
  simp only [Lit.wf, Bool.and_eq_true, decide_eq_true_eq, e1, e2]
  exact ⟨h1, h2⟩
theorem keyI {n : Int} (h1 : -9223372036854775808 ≤ n) (h2 : n ≤ 9223372036854775807) : keyOf Tryz.prog 3 (.int .i64 n) = some (.int .i64 n) := keyOf_int_mk Tryz.underlying3 (wf_i64 h1 h2)
theorem keyedI : Keyed Tryz.prog 3 := int_keyed Tryz.underlying3
theorem zeroPg (w : World) : (zeroValue 56).run Tryz.prog w = .ok (.agg #[.int .i64 0, .int .i64 0, .string ⟨#[]⟩]) w := by kernel_rfl
theorem lookG {w : World} {M n : Nat} {l : List (Int × Pg)} {k : Int} (h : w.ownsMap Tryz.prog 3 pgElem M n (mapD l)) (h1 : -9223372036854775808 ≤ k) (h2 : k ≤ 9223372036854775807) :
    (Instr.lookup 61 (.map (some M)) (.int .i64 k) true).run Tryz.prog w = .ok (.tuple #[pgV (atK k l), .bool (GateM.hasK k l)]) w := by
  obtain ⟨v, ps, hrun, hv⟩ := h.look_ok keyedI Tryz.underlying61 (zeroPg w) (pgElem_mk ⟨0, 0, []⟩) (keyI h1 h2)
  rw [mapD_atK] at hv
  obtain ⟨p, rfl, hp⟩ := pgElem_inv hv
  have : atK k l = p := pgD_inj (by injection hp)
  rw [hrun, mapD_has, this]
section
variable {P : Program} {ops : Array Oper} {o : Oper} {a : Act} {w : World} {K : Act → World → Prop} {Q : Exit → Act → World → Prop} {E : Prop}
theorem step_delete (hg : o.guard = none) (m x : Operand) (t k : TypeId) (hop : o.op = Op.call { callee := Callee.builtin Builtin.delete, args := #[m, x], argTypes := #[t, k] })
    (e : TypeId) (Kd : Keyed P k) (ht : P.underlying t = some (.map k e)) (R : Value → Option (DataW Unit × List MemPlace)) (b n : Nat) (D : DataW Unit)
    (hm : a.eval m = .map (some b)) (hown : w.ownsMap P k R b n D) (key : Value) (kl : Lit) (hx : a.eval x = key) (hkey : keyOf P k key = some kl)
    (hK : ∀ w', w'.ownsMap P k R b n (D.del kl) → w.mapTurned w' b → K (a.put o.dst (.tuple #[])) w') :
    if Region.wanted o (yielded ops a.tmps) = true then Oper.wp P o a w K Q else E := by
  have hw : Region.wanted o (yielded ops a.tmps) = true := by simp [Region.wanted, hg]
  rw [if_pos hw]
  obtain ⟨w', hrun, r1, r2⟩ := hown.drop Kd ht hkey o.type
  unfold Oper.wp
  simp [execOp, hop, resolve, invoke, builtin, hm, hx, hrun, Result.andThen]
  exact hK w' r1 r2
theorem step_mapUpdate (hg : o.guard = none) (m x v : Operand) (t : TypeId) (hop : o.op = Op.mapUpdate t m x v)
    (k e : TypeId) (Kd : Keyed P k) (ht : P.underlying t = some (.map k e)) (R : Value → Option (DataW Unit × List MemPlace)) (b n : Nat) (D : DataW Unit)
    (hm : a.eval m = .map (some b)) (hown : w.ownsMap P k R b n D) (hn : n < maxLen) (key val : Value) (kl : Lit) (hx : a.eval x = key) (hv : a.eval v = val) (hkey : keyOf P k key = some kl)
    (d : DataW Unit) (ps : List MemPlace) (hval : R val = some (d, ps))
    (hK : ∀ w', w'.ownsMap P k R b (n + 1) (D.put kl d) → w.mapTurned w' b → K (a.put o.dst undef) w') :
    if Region.wanted o (yielded ops a.tmps) = true then Oper.wp P o a w K Q else E := by
  have hw : Region.wanted o (yielded ops a.tmps) = true := by simp [Region.wanted, hg]
  rw [if_pos hw]
  obtain ⟨w', hrun, r1, r2⟩ := hown.store Kd ht hn hkey hval
  unfold Oper.wp
  simp [execOp, hop, hm, hx, hv, hrun, Result.andThen]
  exact hK w' r1 r2
end
theorem touch_turned {w w' : World} {M : Nat} (h : w.mapTurned w' M) : Touch (fun k => k = M) w w' := by
  have hg := h.grown
  exact Touch.of_grown (S := fun k => k = M) hg (fun k hk => by cases hk; rfl)
theorem map_tight {w : World} {P : Program} {k : TypeId} {R : Value → Option (DataW Unit × List MemPlace)} {b n : Nat} {D : DataW Unit} (h : w.ownsMap P k R b n D) : w.ownsMap P k R b (Maps.size D) D := by
  obtain ⟨es, clock, hb, F, hs, rfl⟩ := h
  exact ⟨es, clock, hb, F, by simp [Maps.size, length_sorted], rfl⟩
theorem map_l {w : World} {P : Program} {k : TypeId} {b n : Nat} {l : List (Int × Pg)} (h : w.ownsMap P k pgElem b n (mapD l)) : w.ownsMap P k pgElem b l.length (mapD l) := by
  have := map_tight h
  rwa [mapD_size] at this
theorem map_touch {w w' : World} {P : Program} {k : TypeId} {b n : Nat} {D : DataW Unit} {R : Value → Option (DataW Unit × List MemPlace)} {S : Nat → Prop} (h : w.ownsMap P k R b n D) (ht : Touch S w w') (hn : ¬ S b) : w'.ownsMap P k R b n D := by
  have hlt := h.lt
  obtain ⟨es, clock, hb, F, hs, hD⟩ := h
  exact ⟨es, clock, (ht.block b hlt hn).trans hb, F, hs, hD⟩
/-- The gate's variable. -/
def GBox (w : World) (R : Nat) (win ap fl : Int) (v m : Value) : Prop := w.heap[R]? = some (.cells #[.int .i64 win, .int .i64 ap, .int .i64 fl, v, m] 63 (0, 0))
theorem GBox.facts {w : World} {R : Nat} {win ap fl : Int} {v m : Value} (h : GBox w R win ap fl v m) :
    (w.cell? ⟨R, 0, none⟩ = some (.int .i64 win) ∧ w.cell? ⟨R, 1, none⟩ = some (.int .i64 ap) ∧ w.cell? ⟨R, 2, none⟩ = some (.int .i64 fl) ∧ w.cell? ⟨R, 3, none⟩ = some v ∧ w.cell? ⟨R, 4, none⟩ = some m) ∧
    (w.frozen? ⟨R, 0, none⟩ = false ∧ w.frozen? ⟨R, 1, none⟩ = false ∧ w.frozen? ⟨R, 2, none⟩ = false ∧ w.frozen? ⟨R, 3, none⟩ = false ∧ w.frozen? ⟨R, 4, none⟩ = false) ∧ R < w.heap.size :=
  ⟨⟨by rw [cell_of_row w R 0 _ _ _ h]; rfl, by rw [cell_of_row w R 1 _ _ _ h]; rfl, by rw [cell_of_row w R 2 _ _ _ h]; rfl, by rw [cell_of_row w R 3 _ _ _ h]; rfl, by rw [cell_of_row w R 4 _ _ _ h]; rfl⟩,
    ⟨frozen_of_row w R 0 _ _ h, frozen_of_row w R 1 _ _ h, frozen_of_row w R 2 _ _ h, frozen_of_row w R 3 _ _ h, frozen_of_row w R 4 _ _ h⟩, (Array.getElem?_eq_some_iff.1 h).1⟩
theorem GBox.touch {S : Nat → Prop} {w w' : World} {R : Nat} {win ap fl : Int} {v m : Value} (h : GBox w R win ap fl v m) (ht : Touch S w w') (hn : ¬ S R) : GBox w' R win ap fl v m := (ht.block R h.facts.2.2 hn).trans h
theorem GBox.older {w w' : World} {R : Nat} {win ap fl : Int} {v m : Value} (h : GBox w R win ap fl v m) (hb : Below w.heap.size w w') : GBox w' R win ap fl v m := (hb.block R h.facts.2.2).trans h
theorem GBox.set {w : World} {R i : Nat} {win ap fl : Int} {v m : Value} (h : GBox w R win ap fl v m) (u : Value) : ∃ cs : Array Value, cs = #[.int .i64 win, .int .i64 ap, .int .i64 fl, v, m].setIfInBounds i u ∧ (w.setCell ⟨R, i, none⟩ u).heap[R]? = some (.cells cs 63 (0, 0)) := by
  unfold GBox at h
  unfold World.setCell
  simp only [Array.getElem?_modify, if_true, h, Option.map_some]
  exact ⟨_, rfl, rfl⟩
theorem gbox_set1 {w : World} {R : Nat} {win ap fl : Int} {v m : Value} (h : GBox w R win ap fl v m) (n : Int) : GBox (w.setCell ⟨R, 1, none⟩ (.int .i64 n)) R win n fl v m := by
  obtain ⟨cs, rfl, hs⟩ := h.set (i := 1) (.int .i64 n)
  exact hs
theorem gbox_set2 {w : World} {R : Nat} {win ap fl : Int} {v m : Value} (h : GBox w R win ap fl v m) (n : Int) : GBox (w.setCell ⟨R, 2, none⟩ (.int .i64 n)) R win ap n v m := by
  obtain ⟨cs, rfl, hs⟩ := h.set (i := 2) (.int .i64 n)
  exact hs
theorem gbox_set3 {w : World} {R : Nat} {win ap fl : Int} {v m : Value} (h : GBox w R win ap fl v m) (u : Value) : GBox (w.setCell ⟨R, 3, none⟩ u) R win ap fl u m := by
  obtain ⟨cs, rfl, hs⟩ := h.set (i := 3) u
  exact hs
/-- A gate at block R: v its slice, M its map; l is what is aside. -/
structure GateAt (w : World) (B R M : Nat) (v : Value) (g : GateM) (l : List (Int × Pg)) : Prop where
  hR : B ≤ R
  hM : B ≤ M
  box : GBox w R g.win g.applied g.floor v (.map (some M))
  own : OwnWin w B 56 3 v g.kept.length (pvals g.kept)
  map : w.ownsMap Tryz.prog 3 pgElem M l.length (mapD l)
theorem own_neG {w : World} {R B n size e : Nat} {win ap fl : Int} {v m u : Value} {xs : List Value} (h : GBox w R win ap fl v m) (ho : OwnWin w B e size u n xs) (hne : e ≠ 63) : ∀ q, u.ownBlock = some q → ¬ q = R := fun q hq e => by
  subst e
  rcases ho.2 with ⟨rfl, _⟩ | ⟨g, o, cap, cur, rfl, _, hg, _⟩
  · cases hq
  · simp [Value.ownBlock] at hq
    subst hq
    have := Option.some.inj (h.symm.trans hg)
    injection this with _ e2
    exact absurd e2.symm hne
theorem map_neC {w : World} {P : Program} {k : TypeId} {b n : Nat} {D : DataW Unit} {R : Value → Option (DataW Unit × List MemPlace)} {q : Nat} {cs : Array Value} {t : TypeId} {fr : Nat × Nat} (h : w.ownsMap P k R b n D) (hc : w.heap[q]? = some (.cells cs t fr)) : ¬ q = b := fun e => by
  subst e
  obtain ⟨es, clock, hb, _⟩ := h
  rw [hc] at hb
  cases hb
theorem map_neO {w : World} {P : Program} {k : TypeId} {b n m size e B : Nat} {D : DataW Unit} {R : Value → Option (DataW Unit × List MemPlace)} {u : Value} {xs : List Value} (h : w.ownsMap P k R b n D) (ho : OwnWin w B e size u m xs) : ∀ q, u.ownBlock = some q → ¬ q = b := fun q hq => by
  rcases ho.2 with ⟨rfl, _⟩ | ⟨g, o, cap, cur, rfl, _, hg, _⟩
  · cases hq
  · simp [Value.ownBlock] at hq
    subst hq
    exact map_neC h hg
theorem GateAt.older {w w' : World} {B R M : Nat} {v : Value} {g : GateM} {l : List (Int × Pg)} (h : GateAt w B R M v g l) (hb : Below w.heap.size w w') : GateAt w' B R M v g l :=
  ⟨h.hR, h.hM, h.box.older hb, h.own.older hb, map_touch h.map (Touch.of_below (S := fun _ => False) hb (Nat.le_refl _)) (fun h => h)⟩
theorem GateAt.neM {w : World} {B R M : Nat} {v : Value} {g : GateM} {l : List (Int × Pg)} (h : GateAt w B R M v g l) : ¬ R = M := map_neC h.map h.box
/-- What a call may have written. -/
structure GGoes (w w' : World) (R M : Nat) (v v' : Value) : Prop where
  touch : Touch (fun k => k = R ∨ k = M ∨ v.ownBlock = some k) w w'
  lies : ∀ q, v'.ownBlock = some q → v.ownBlock = some q ∨ w.heap.size ≤ q
theorem GGoes.of_below {w w' : World} {R M : Nat} {v : Value} (h : Below w.heap.size w w') : GGoes w w' R M v v := ⟨Touch.of_below h (Nat.le_refl _), fun q hq => .inl hq⟩
theorem GGoes.trans {w w1 w2 : World} {R M : Nat} {v v1 v2 : Value} (h : GGoes w w1 R M v v1) (k : GGoes w1 w2 R M v1 v2) : GGoes w w2 R M v v2 :=
  ⟨h.touch.trans' k.touch fun i hi hs => by
    rcases hs with hs | hs | hs
    · exact .inl hs
    · exact .inr (.inl hs)
    · rcases h.lies i hs with h1 | h1
      · exact .inr (.inr h1)
      · omega,
   fun q hq => by
    rcases k.lies q hq with h1 | h1
    · exact h.lies q h1
    · exact .inr (Nat.le_trans h.touch.size h1)⟩
theorem GGoes.older {w w1 w2 : World} {R M : Nat} {v v1 : Value} (h : GGoes w w1 R M v v1) (hb : Below w1.heap.size w1 w2) : GGoes w w2 R M v v1 := h.trans (GGoes.of_below hb)
end A1
end Go.Proofs.YtnppicekfjdefaaGreatDoor
