/- What the law GateGathers shares: a gate and a log side by side, the table of what has arrived. No condition. -/
import Derived.Test.YtnppicekfjdefaaDoorGLawD
import Derived.Test.YtnppicekfjdefaaDoorPlogV
namespace Go.Proofs.YtnppicekfjdefaaDoor
open Go.RowKit Pl Ad Go.Maps
set_option maxRecDepth 100000
set_option maxHeartbeats 4000000
set_option linter.unusedVariables false
set_option linter.unusedSimpArgs false
namespace A1
theorem GateAt.touch {S : Nat → Prop} {w w' : World} {B R M : Nat} {v : Value} {g : GateM} {l : List (Int × Pg)} (h : GateAt w B R M v g l) (ht : Touch S w w') (h1 : ¬ S R) (h2 : ¬ S M) (h3 : ∀ q, v.ownBlock = some q → ¬ S q) : GateAt w' B R M v g l :=
  ⟨h.hR, h.hM, h.box.touch ht h1, h.own.touch ht h3, map_touch h.map ht h2⟩
/-- A table of Booleans. -/
def TabAt (w : World) (T : Nat) (bs : List Bool) : Prop := w.heap[T]? = some (.cells (bs.map Value.bool).toArray 4 (0, 0))
theorem TabAt.lt {w : World} {T : Nat} {bs : List Bool} (h : TabAt w T bs) : T < w.heap.size := (Array.getElem?_eq_some_iff.1 h).1
theorem TabAt.cell {w : World} {T : Nat} {bs : List Bool} (h : TabAt w T bs) {k : Nat} {b : Bool} (hb : bs[k]? = some b) : w.cell? ⟨T, k, none⟩ = some (.bool b) := by
  rw [cell_of_row w T k _ _ _ h]
  simp [hb]
theorem TabAt.frozen {w : World} {T : Nat} {bs : List Bool} (h : TabAt w T bs) (k : Nat) : w.frozen? ⟨T, k, none⟩ = false := frozen_of_row w T k _ _ h
theorem TabAt.set {w : World} {T : Nat} {bs : List Bool} (h : TabAt w T bs) (k : Nat) (b : Bool) : TabAt (w.setCell ⟨T, k, none⟩ (.bool b)) T (bs.set k b) := by
  unfold TabAt at h ⊢
  unfold World.setCell
  simp only [Array.getElem?_modify, if_true, h, Option.map_some]
  congr 2
  apply Array.ext'
  simp [List.map_set]
/-- A gate, a log, a table, side by side; the law began at w0. -/
structure Both (w0 w : World) (R M : Nat) (v : Value) (g : GateM) (K : Nat) (u : Value) (L : LogM) (T : Nat) (bs : List Bool) : Prop where
  run : GRun w0 w R M v g
  log : Run w0 w K u L
  tab : TabAt w T bs
  oldT : w0.heap.size ≤ T
  sepK : ¬ (K = R ∨ K = M ∨ v.ownBlock = some K)
  sepU : Apart R M v u
  sepT : ¬ (T = R ∨ T = M ∨ v.ownBlock = some T)
  sepL : ¬ (T = K ∨ u.ownBlock = some T)
section
variable {w0 w w' : World} {R M K T : Nat} {v v' u u' : Value} {g g' : GateM} {L L' : LogM} {bs : List Bool}
theorem Both.older (h : Both w0 w R M v g K u L T bs) (hb : Below w.heap.size w w') : Both w0 w' R M v g K u L T bs :=
  ⟨h.run.older hb, h.log.older hb, (hb.block T h.tab.lt).trans h.tab, h.oldT, h.sepK, h.sepU, h.sepT, h.sepL⟩
theorem Both.gate (h : Both w0 w R M v g K u L T bs) (hr : GRun w0 w' R M v' g') (hs : GGoes w w' R M v v') : Both w0 w' R M v' g' K u L T bs := by
  have hK := h.log.log.box.facts.2.2
  have hT := h.tab.lt
  refine ⟨hr, ⟨hr.bel, ⟨h.log.log.hR, (hs.touch.block K hK h.sepK).trans h.log.log.box, h.log.log.own.touch hs.touch h.sepU⟩, h.log.ok⟩, (hs.touch.block T hT h.sepT).trans h.tab, h.oldT, fun e => ?_, h.sepU.goes hs (fun q hq => (h.log.log.own.lt q hq).2), fun e => ?_, h.sepL⟩
  · rcases e with e | e | e
    · exact h.sepK (.inl e)
    · exact h.sepK (.inr (.inl e))
    · rcases hs.lies K e with e2 | e2
      · exact h.sepK (.inr (.inr e2))
      · omega
  · rcases e with e | e | e
    · exact h.sepT (.inl e)
    · exact h.sepT (.inr (.inl e))
    · rcases hs.lies T e with e2 | e2
      · exact h.sepT (.inr (.inr e2))
      · omega
theorem Both.logs (h : Both w0 w R M v g K u L T bs) (hr : Run w0 w' K u' L') (hs : Goes w w' K u u') : Both w0 w' R M v g K u' L' T bs := by
  have hR := h.run.gate.box.facts.2.2
  have hM := map_lt h.run.gate.map
  have hT := h.tab.lt
  have hn : ∀ q, (q = R ∨ q = M ∨ v.ownBlock = some q) → ¬ (q = K ∨ u.ownBlock = some q) := fun q hq e => by
    rcases e with rfl | e
    · exact h.sepK hq
    · exact h.sepU q e hq
  refine ⟨⟨hr.bel, h.run.gate.touch hs.touch (hn R (.inl rfl)) (hn M (.inr (.inl rfl))) (fun q hq => hn q (.inr (.inr hq))), h.run.ok⟩, hr, (hs.touch.block T hT h.sepL).trans h.tab, h.oldT, h.sepK, fun q hq e => ?_, h.sepT, fun e => ?_⟩
  · rcases hs.lies q hq with e2 | e2
    · exact h.sepU q e2 e
    · rcases e with e | e | e
      · omega
      · omega
      · have := (h.run.gate.own.lt q e).2; omega
  · rcases e with e | e
    · exact h.sepL (.inl e)
    · rcases hs.lies T e with e2 | e2
      · exact h.sepL (.inr e2)
      · omega
theorem Both.setT (h : Both w0 w R M v g K u L T bs) (k : Nat) (b : Bool) : Both w0 (w.setCell ⟨T, k, none⟩ (.bool b)) R M v g K u L T (bs.set k b) := by
  have ht := touch_set1 w T k (.bool b)
  have hr := h.run.set1 (q := T) ⟨fun e => h.sepT (.inl e), fun e => h.sepT (.inr (.inl e)), fun e => h.sepT (.inr (.inr e)), h.oldT⟩ k (.bool b)
  exact ⟨hr, ⟨hr.bel, ⟨h.log.log.hR, (ht.block K h.log.log.box.facts.2.2 (fun e => h.sepL (.inl e.symm))).trans h.log.log.box, h.log.log.own.touch ht (fun q hq e => h.sepL (.inr (e ▸ hq)))⟩, h.log.ok⟩, h.tab.set k b, h.oldT, h.sepK, h.sepU, h.sepT, h.sepL⟩
theorem made_tab (n : Nat) : madeCells (Value.bool false).cells (n * 1) = ((List.replicate n false).map Value.bool).toArray := by
  apply Array.ext'
  unfold madeCells
  simp only [Value.cells, Nat.mul_one, Array.toList_map, Array.toList_range, List.map_replicate]
  rw [List.eq_replicate_iff]
  refine ⟨by simp, fun b hb => ?_⟩
  obtain ⟨i, _, rfl⟩ := List.mem_map.1 hb
  simp [Nat.mod_one]
theorem wpList_make_tab {w : World} {ops : Array Oper} {rest : List Oper} {o : Oper} {a : Act} {Q : Exit → Act → World → Prop} (hg : o.guard = none) (l c : Operand) (hop : o.op = Op.makeSlice 63 l c) (n : Nat) (N : Int)
    (hl : a.eval l = .int .i64 N) (hc : a.eval c = .int .i64 N) (hN : N = (n : Int)) (hn : n ≤ 1000000)
    (hK : wpList Tryd.prog ops Q rest (a.put o.dst (.slice (some ⟨w.heap.size, 0, none⟩) n n)) (w.alloc (.cells ((List.replicate n false).map Value.bool).toArray 4))) : wpList Tryd.prog ops Q (o :: rest) a w := by
  refine wpList_plain hg fun K hK' => ?_
  obtain ⟨i, h1, h2, h3, h4⟩ := info_parts (show (Tryd.prog.info? 4).map (fun i => (i.zero, i.size, i.bytes)) = some (some (.bool false), 1, 1) by kernel_rfl)
  have hr := run_make (P := Tryd.prog) w 63 4 i (.bool false) Tryd.underlying63 h1 h2 .i64 .i64 N N (by omega) (Int.le_refl _) (by rw [h4]; omega) (by omega)
  rw [h3, made_tab] at hr
  subst hN
  unfold Oper.wp
  simp only [Int.toNat_natCast] at hr
  simp [execOp, hop, hl, hc, hr, Result.andThen]
  exact hK' _ _ (by simpa using hK)
/-- What stands behind the appends: the item too. -/
structure BothX (w0 w : World) (R M : Nat) (v : Value) (g : GateM) (K : Nat) (u : Value) (L : LogM) (T : Nat) (bs : List Bool) (X : Nat) (xt : Int) (xa : Bs) (nu : Value) (tags : List Bs) : Prop where
  both : Both w0 w R M v g K u L T bs
  str : StrsV w nu tags
  box : Box3 w X 40 (.int .i64 xt) (.string ⟨xa.toArray⟩) nu
theorem BothX.older {X : Nat} {xt : Int} {xa : Bs} {nu : Value} {tags : List Bs} (h : BothX w0 w R M v g K u L T bs X xt xa nu tags) (hb : Below w.heap.size w w') : BothX w0 w' R M v g K u L T bs X xt xa nu tags := ⟨h.both.older hb, h.str.below hb, h.box.older hb⟩
/-- The start. -/
theorem both_new {n : Nat} (w : World) (bs : List Bool) (h1 : 1 ≤ n) (h2 : n ≤ 1024) :
    Both w ((((w.alloc (.map #[] 0)).alloc (.cells #[.int .i64 n, .int .i64 0, .int .i64 0, .slice none 0 0, .map (some w.heap.size)] 73)).alloc (.cells #[.int .i64 n, .int .i64 1, .slice none 0 0] 87)).alloc (.cells (bs.map Value.bool).toArray 4)) (w.heap.size + 1) w.heap.size (.slice none 0 0) (.start n) (w.heap.size + 2) (.slice none 0 0) (.start n) (w.heap.size + 3) bs := by
  have hg := gRun_new w n h1 h2
  have hz : ((w.alloc (.map #[] 0)).alloc (.cells #[.int .i64 n, .int .i64 0, .int .i64 0, .slice none 0 0, .map (some w.heap.size)] 73)).heap.size = w.heap.size + 2 := by simp
  have b1 := (Below.refl ((w.alloc (.map #[] 0)).alloc (.cells #[.int .i64 n, .int .i64 0, .int .i64 0, .slice none 0 0, .map (some w.heap.size)] 73)).heap.size _).alloc (Nat.le_refl _) (.cells #[.int .i64 n, .int .i64 1, .slice none 0 0] 87)
  have b2 := b1.alloc (o := .cells (bs.map Value.bool).toArray 4) (by simp)
  have hl := logAt_new ((w.alloc (.map #[] 0)).alloc (.cells #[.int .i64 n, .int .i64 0, .int .i64 0, .slice none 0 0, .map (some w.heap.size)] 73)) n w.heap.size (by omega)
  rw [hz] at hl
  have b3 := (Below.refl (((w.alloc (.map #[] 0)).alloc (.cells #[.int .i64 n, .int .i64 0, .int .i64 0, .slice none 0 0, .map (some w.heap.size)] 73)).alloc (.cells #[.int .i64 n, .int .i64 1, .slice none 0 0] 87)).heap.size _).alloc (Nat.le_refl _) (.cells (bs.map Value.bool).toArray 4)
  have ht := heap_alloc_new (((w.alloc (.map #[] 0)).alloc (.cells #[.int .i64 n, .int .i64 0, .int .i64 0, .slice none 0 0, .map (some w.heap.size)] 73)).alloc (.cells #[.int .i64 n, .int .i64 1, .slice none 0 0] 87)) (.cells (bs.map Value.bool).toArray 4)
  refine ⟨hg.older b2, ⟨(hg.older b2).bel, hl.below b3, LogM.ok_start h1 h2⟩, ?_, by omega, ?_, (fun q hq => by cases hq), ?_, ?_⟩
  · unfold TabAt
    simpa using ht
  · rintro (e | e | e)
    · omega
    · omega
    · cases e
  · rintro (e | e | e)
    · omega
    · omega
    · cases e
  · rintro (e | e)
    · omega
    · cases e
end
end A1
namespace Ad
/-- The table tells what the gate has. -/
structure ThS (n : Nat) (P : Nat → Prop) (bs : List Bool) : Prop where
  len : bs.length = n + 1
  last : bs[n]? = some false
  at_ : ∀ k, k < n → (bs[k]? = some true ↔ P k)
theorem ths_start (n : Nat) {P : Nat → Prop} (h : ∀ k, k < n → ¬ P k) : ThS n P (List.replicate (n + 1) false) := by
  refine ⟨by simp, by simp, fun k hk => ?_⟩
  rw [List.getElem?_replicate, if_pos (by omega)]
  constructor
  · intro e; cases e
  · intro e; exact absurd e (h k hk)
theorem ThS.set {n : Nat} {P : Nat → Prop} {bs : List Bool} (h : ThS n P bs) {j : Nat} (hj : j < n) : ThS n (fun k => P k ∨ k = j) (bs.set j true) := by
  refine ⟨by simp [h.len], ?_, fun k hk => ?_⟩
  · rw [List.getElem?_set_ne (by omega)]; exact h.last
  · by_cases e : k = j
    · subst e
      rw [List.getElem?_set_self (by rw [h.len]; omega)]
      simp
    · rw [List.getElem?_set_ne (by omega), h.at_ k hk]
      simp [e]
theorem ThS.iff {n : Nat} {P Q : Nat → Prop} {bs : List Bool} (h : ThS n P bs) (hPQ : ∀ k, k < n → (P k ↔ Q k)) : ThS n Q bs := ⟨h.len, h.last, fun k hk => (h.at_ k hk).trans (hPQ k hk)⟩
theorem ThS.get {n : Nat} {P : Nat → Prop} {bs : List Bool} (h : ThS n P bs) {k : Nat} (hk : k ≤ n) : ∃ b, bs[k]? = some b ∧ (b = true → k < n ∧ P k) ∧ (b = false → k < n → ¬ P k) := by
  have hl : k < bs.length := by rw [h.len]; omega
  refine ⟨bs[k], List.getElem?_eq_getElem hl, fun e => ?_, fun e hk2 hp => ?_⟩
  · have hk2 : k < n := by
      rcases Nat.lt_or_ge k n with h1 | h1
      · exact h1
      · obtain rfl : k = n := by omega
        have := h.last
        rw [List.getElem?_eq_getElem hl, e] at this
        cases this
    exact ⟨hk2, (h.at_ k hk2).1 (by rw [List.getElem?_eq_getElem hl, e])⟩
  · have := (h.at_ k hk2).2 hp
    rw [List.getElem?_eq_getElem hl, e] at this
    cases this
/-- A log that took the first i entries, with room. -/
structure TookL (all : List Pg) (i : Nat) (L : LogM) : Prop where
  all_ : L.all = all.take i
  win : L.win = 1000
  drop : L.dropped = 0
theorem took_start (all : List Pg) : TookL all 0 (.start 1000) := ⟨by simp [LogM.start], rfl, rfl⟩
theorem TookL.push {all : List Pg} {i : Nat} {L : LogM} (h : TookL all i L) (hi : i < all.length) (hl : all.length ≤ 1000) : TookL all (i + 1) (L.push all[i]) := by
  refine ⟨?_, h.win, ?_⟩
  · show L.all ++ [all[i]] = _
    rw [h.all_, List.take_succ_eq_append_getElem hi]
  · show max L.dropped (L.all.length + 1 - L.win) = 0
    rw [h.drop, h.win, h.all_, List.length_take]; omega
theorem TookL.len {all : List Pg} {i : Nat} {L : LogM} (h : TookL all i L) (hi : i ≤ all.length) : L.all.length = i := by rw [h.all_, List.length_take]; omega
theorem hit_any (x : It) : ∀ l : List Pg, (LogM.hit x l).isSome = l.any (fun p => matchB p x)
  | [] => rfl
  | p :: r => by
    unfold LogM.hit
    rw [List.any_cons, ← hit_any x r]
    split
    · rename_i h; rw [h]; rfl
    · rename_i h
      cases hm : matchB p x with
      | true => exact absurd hm h
      | false => cases LogM.hit x r <;> rfl
/-- What the log covers the gate refuses, and no more. -/
theorem gather_end {all : List Pg} {g : GateM} {L : LogM} {ap : Nat} (h : GateM.Room all g) (hap : g.applied = (ap : Int)) (ht : TookL all ap L) (x : It) {a : Nat} (ha : a ≤ ap) :
    L.sinceC (a : Int) = 0 ∧ ((L.covB x (a : Int) = true ∧ g.acceptC x (a : Int) = 18) ∨ (L.covB x (a : Int) = false ∧ g.acceptC x (a : Int) = 0)) := by
  have hle := h.of.le
  have hlen := ht.len (by omega)
  have hk := GateM.room_kept h
  rw [hap, Int.toNat_natCast] at hk
  have hs : L.since (a : Int) = (all.take ap).drop a := by
    unfold LogM.since
    split
    · rename_i h1
      rw [hlen, ht.drop] at h1
      rw [List.drop_eq_nil_of_le]
      rw [List.length_take]; omega
    · rw [ht.all_, Int.toNat_natCast]
  have hc : L.sinceC (a : Int) = 0 := by
    unfold LogM.sinceC
    rw [if_neg (by omega)]
    split
    · rfl
    · rw [ht.drop, if_neg (by omega)]
  refine ⟨hc, ?_⟩
  unfold LogM.covB GateM.acceptC
  rw [hs, hit_any, if_neg (by omega), if_neg (by rw [h.floor]; omega), h.floor, hk, show ((a : Int) - 0).toNat = a by omega]
  cases hm : ((all.take ap).drop a).any (fun p => matchB p x) with
  | true => exact .inl ⟨rfl, by rw [if_pos rfl]⟩
  | false => exact .inr ⟨rfl, by rw [if_neg (by decide)]⟩
/-- The first number that has not arrived is the one behind Applied. -/
theorem first_missing {all : List Pg} {g : GateM} (h : GateM.Room all g) {m : Nat} (hm : m ≤ all.length) (h1 : ∀ k, k < m → GateM.In g g.aside ((k : Int) + 1)) (h2 : m < all.length → ¬ GateM.In g g.aside ((m : Int) + 1)) : g.applied = (m : Int) := by
  have hle := h.of.le
  have h0 : 0 ≤ g.applied := by have := h.ok.len; have := h.ok.lo; omega
  rcases Int.lt_trichotomy g.applied (m : Int) with h3 | h3 | h3
  · exact absurd (show GateM.In g g.aside (g.applied + 1) by have := h1 g.applied.toNat (by omega); rwa [show ((g.applied.toNat : Nat) : Int) = g.applied by omega] at this) (GateM.not_next h.ok)
  · exact h3
  · exact absurd (.inl (by omega)) (h2 (by omega))
end Ad
end Go.Proofs.YtnppicekfjdefaaDoor
