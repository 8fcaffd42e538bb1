/- Contract: the gate's put. Conditions: none beyond the gate's own bounds. -/
import Derived.Test.YtnppicekfjdefaaGreatDoorGateC
import Derived.Test.YtnppicekfjdefaaGreatDoorGateD
namespace Go.Proofs.YtnppicekfjdefaaGreatDoor
open Go.RowKit Pl Ad Go.Maps
attribute [local go_sem] ba_get ba_append ba_extract_end ba_extract_zero ba_extract
set_option maxRecDepth 100000
set_option maxHeartbeats 8000000
set_option linter.unusedVariables false
set_option linter.unusedSimpArgs false
namespace A1
theorem GateAt.mapset {w w' : World} {B R M n' : Nat} {v : Value} {g : GateM} {l l' : List (Int × Pg)} (h : GateAt w B R M v g l) (hm : w'.ownsMap Tryz.prog 3 pgElem M n' (mapD l')) (ht : w.mapTurned w' M) : GateAt w' B R M v g l' := by
  have h1 := touch_turned ht
  exact ⟨h.hR, h.hM, h.box.touch h1 h.neM, h.own.touch h1 (map_neO h.map h.own), map_l hm⟩
theorem GGoes.turned {w w1 w2 : World} {R M : Nat} {v v1 : Value} (h : GGoes w w1 R M v v1) (ht : w1.mapTurned w2 M) : GGoes w w2 R M v v1 := ⟨h.touch.trans' (touch_turned ht) (fun i _ e => .inr (.inl e)), h.lies⟩
theorem GateAt.gm {w : World} {B R M : Nat} {v : Value} {g g' : GateM} {l : List (Int × Pg)} (h : GateAt w B R M v g l) (h1 : g'.win = g.win) (h2 : g'.applied = g.applied) (h3 : g'.floor = g.floor) (h4 : g'.kept = g.kept) : GateAt w B R M v g' l :=
  ⟨h.hR, h.hM, by rw [h1, h2, h3]; exact h.box, by rw [h4]; exact h.own, h.map⟩
/-- The greatest key while the keys are gone through. -/
def MaxI (l : List (Int × Pg)) (left : Lit → Bool) (m : Int) : Prop := (∃ e ∈ l, e.1 = m) ∧ ∀ x ∈ l, left (.int .i64 x.1) = false → x.1 ≤ m
theorem maxI_start {l : List (Int × Pg)} {n : Int} (h : ∃ e ∈ l, e.1 = n) : MaxI l (Maps.has (mapD l)) n := ⟨h, fun x hx hl => by
  rw [mapD_has] at hl
  simp only [GateM.hasK, List.any_eq_false] at hl
  have := hl x hx
  simp at this⟩
theorem maxI_more {l : List (Int × Pg)} {left : Lit → Bool} {m k : Int} (h : MaxI l left m) (hk : ∃ e ∈ l, e.1 = k) : MaxI l (fun z => left z && !z.sameKey (.int .i64 k)) (max m k) := by
  refine ⟨?_, fun x hx hl => ?_⟩
  · rcases Int.le_total m k with h1 | h1
    · rw [Int.max_eq_right h1]; exact hk
    · rw [Int.max_eq_left h1]; exact h.1
  · rcases left_same.1 hl with h3 | h3
    · have := h.2 x hx h3; omega
    · omega
theorem drop_last {l : List (Int × Pg)} {m : Int} (ha : GateM.Asc l) (hm : ∃ e ∈ l, e.1 = m) (h : ∀ x ∈ l, x.1 ≤ m) : l.filter (fun e => !(e.1 == m)) = l.take (l.length - 1) := by
  induction l with
  | nil => rfl
  | cons e r ih =>
    have hc := List.pairwise_cons.1 ha
    cases r with
    | nil =>
      obtain ⟨x, hx, rfl⟩ := hm
      simp at hx
      subst hx
      simp
    | cons e2 r2 =>
      have he : e.1 < m := by
        have := hc.1 e2 (by simp)
        have := h e2 (by simp)
        omega
      rw [List.filter_cons, if_pos (by simp; omega)]
      have hm2 : ∃ x ∈ e2 :: r2, x.1 = m := by
        obtain ⟨x, hx, hxm⟩ := hm
        rcases List.mem_cons.1 hx with rfl | hx
        · omega
        · exact ⟨x, hx, hxm⟩
      rw [ih hc.2 hm2 (fun x hx => h x (by simp [hx]))]
      simp
theorem ins_len (n : Int) (p : Pg) : ∀ l : List (Int × Pg), (GateM.ins n p l).length = l.length + 1
  | [] => rfl
  | (k, q) :: r => by
    unfold GateM.ins
    split
    · simp [ins_len n p r]
    · simp
theorem ins_mem (n : Int) (p : Pg) : ∀ l : List (Int × Pg), (n, p) ∈ GateM.ins n p l
  | [] => by simp [GateM.ins]
  | (k, q) :: r => by
    unfold GateM.ins
    split
    · simp [ins_mem n p r]
    · simp
variable {w : World} {B R M : Nat} {v : Value} {g : GateM} {n : Int} {p : Pg}
theorem put_has (hB : B ≤ w.heap.size) (h : GateAt w B R M v g g.aside) (ho : g.Ok) (h1 : g.applied + 1 < n) (h2 : n ≤ 1099511627776) (hk : GateM.hasK n g.aside = true) :
    Calls Tryz.prog 37 #[ptrV R, .int .i64 n, pgV p] w fun e w' => e = .returned (.tuple #[]) ∧ GateAt w' B R M v (g.put n p) (g.put n p).aside ∧ GGoes w w' R M v v := by
  obtain ⟨pk, pt, pv⟩ := p
  have hap : 0 ≤ g.applied := by have := ho.lo; have := ho.len; omega
  have hb := (Below.refl w.heap.size w).alloc (Nat.le_refl _) (.cells #[.int .i64 pk, .int .i64 pt, .string ⟨pv.toArray⟩] 56)
  have HE := Lib.hid (show g.put n ⟨pk, pt, pv⟩ = g from if_pos hk)
  have HG := Lib.hid h
  have HS1 := Lib.hid (h.older hb)
  obtain ⟨q, hq⟩ : ∃ q, atK n g.aside = q := ⟨_, rfl⟩
  have hlk := lookG HS1.out.map (k := n) (by omega) (by omega)
  rw [hq, hk] at hlk
  obtain ⟨qk, qt, qv⟩ := q
  simp only [pgV] at hlk
  obtain ⟨⟨c0, c1, c2, c3, c4⟩, _, hz⟩ := h.box.facts
  clear h ho hb hk hq
  go_enter Tryz.func37, Tryz.ntmps37
  go_wp2
  refine bodyPost_ret (v := .tuple #[]) (by simp [results, Tryz.results37, go_sem]) rfl ?_
  have hb2 := ((Below.refl w.heap.size w).alloc (Nat.le_refl _) (.cells #[.int .i64 pk, .int .i64 pt, .string ⟨pv.toArray⟩] 56)).alloc (by simp) (.cells #[.int .i64 qk, .int .i64 qt, .string ⟨qv.toArray⟩] 56)
  rw [HE.out]
  exact ⟨rfl, HG.out.older hb2, GGoes.of_below hb2⟩
theorem put_new (hB : B ≤ w.heap.size) (h : GateAt w B R M v g g.aside) (ho : g.Ok) (h1 : g.applied + 1 < n) (h2 : n ≤ 1099511627776) (hk : GateM.hasK n g.aside = false) :
    Calls Tryz.prog 37 #[ptrV R, .int .i64 n, pgV p] w fun e w' => e = .returned (.tuple #[]) ∧ GateAt w' B R M v (g.put n p) (g.put n p).aside ∧ GGoes w w' R M v v := by
  obtain ⟨pk, pt, pv⟩ := p
  have hap : 0 ≤ g.applied := by have := ho.lo; have := ho.len; omega
  have hb := (Below.refl w.heap.size w).alloc (Nat.le_refl _) (.cells #[.int .i64 pk, .int .i64 pt, .string ⟨pv.toArray⟩] 56)
  have HE := Lib.hid (show g.put n ⟨pk, pt, pv⟩ = g.withA ((GateM.ins n ⟨pk, pt, pv⟩ g.aside).take g.win) from if_neg (by rw [hk]; decide))
  have HG := Lib.hid h
  have HS1 := Lib.hid (h.older hb)
  have HN := Lib.hid hk
  have hR := h.box.facts.2.2
  have hM := h.map.lt
  have hfew := ho.few
  have hw2 := ho.win2
  have HFAR := Lib.hid ho.far
  have HASC := Lib.hid (GateM.asc_ins (p := ⟨pk, pt, pv⟩) ho.asc hk)
  obtain ⟨q, hq⟩ : ∃ q, atK n g.aside = q := ⟨_, rfl⟩
  have hlk := lookG HS1.out.map (k := n) (by omega) (by omega)
  rw [hq, hk] at hlk
  obtain ⟨qk, qt, qv⟩ := q
  simp only [pgV] at hlk
  obtain ⟨⟨c0, c1, c2, c3, c4⟩, _, hz⟩ := h.box.facts
  have hb2 := hb.alloc (by simp) (.cells #[.int .i64 qk, .int .i64 qt, .string ⟨qv.toArray⟩] 56)
  have HS2 := Lib.hid (h.older hb2)
  have HB2 := Lib.hid hb2
  have HX2 := Lib.hid ((box3_new w 56 (.int .i64 pk) (.int .i64 pt) (.string ⟨pv.toArray⟩)).alloc (.cells #[.int .i64 qk, .int .i64 qt, .string ⟨qv.toArray⟩] 56))
  clear h ho hb hb2 hk hq
  go_enter Tryz.func37, Tryz.ntmps37
  go_wp2
  clear hlk c0 c1 c2 c3 c4
  obtain ⟨⟨x0, x1, x2, x3, x4⟩, _, hzx⟩ := HS2.out.box.facts
  obtain ⟨⟨d0, d1, d2⟩, _, hzd⟩ := HX2.out.facts
  refine wp_region_held_drew (S := (fun w' => w'.cell? ⟨R, 4, none⟩ = some (.map (some M)) ∧ w'.cell? ⟨w.heap.size, 0, none⟩ = some (.int .i64 pk) ∧ w'.cell? ⟨w.heap.size, 1, none⟩ = some (.int .i64 pt) ∧ w'.cell? ⟨w.heap.size, 2, none⟩ = some (.string ⟨pv.toArray⟩))) (by kernel_rfl) (by exact ⟨x4, d0, d1, d2⟩) (fun hHeld => ?_)
  refine wpAnyH_take (i := 0) (v := ?_) (by simp only [List.getElem?_toArray, List.getElem?_cons_succ, List.getElem?_cons_zero]; rfl) (by kernel_rfl) (by kernel_rfl) (by kernel_rfl) (by intro _ _ _ h; exact h) (Or.inl ⟨by rfl, ?_⟩) (by assumption) ?_
  rotate_left
  focus (intro wT hT; (try dsimp only at hT); go_simp; try with_reducible rfl)
  try simp only [Act.put, List.setIfInBounds_toArray, List.set_cons_zero, List.set_cons_succ]
  refine wpAnyH_take (i := 1) (v := ?_) (by simp only [List.getElem?_toArray, List.getElem?_cons_succ, List.getElem?_cons_zero]; rfl) (by kernel_rfl) (by kernel_rfl) (by kernel_rfl) (by intro _ _ _ h; exact h) (Or.inl ⟨by rfl, ?_⟩) (by assumption) ?_
  rotate_left
  focus (intro wT hT; (try dsimp only at hT); go_simp; try with_reducible rfl)
  try simp only [Act.put, List.setIfInBounds_toArray, List.set_cons_zero, List.set_cons_succ]
  refine wpAnyH_take (i := 2) (v := ?_) (by simp only [List.getElem?_toArray, List.getElem?_cons_succ, List.getElem?_cons_zero]; rfl) (by kernel_rfl) (by kernel_rfl) (by kernel_rfl) (by intro _ _ _ h; exact h) (Or.inl ⟨by rfl, ?_⟩) (by assumption) ?_
  rotate_left
  focus (intro wT hT; (try dsimp only at hT); go_simp; try with_reducible rfl)
  try simp only [Act.put, List.setIfInBounds_toArray, List.set_cons_zero, List.set_cons_succ]
  refine wpAnyH_take (i := 3) (v := ?_) (by simp only [List.getElem?_toArray, List.getElem?_cons_succ, List.getElem?_cons_zero]; rfl) (by kernel_rfl) (by kernel_rfl) (by kernel_rfl) (by intro _ _ _ h; exact h) (Or.inl ⟨by rfl, ?_⟩) (by assumption) ?_
  rotate_left
  focus (intro wT hT; (try dsimp only at hT); go_simp; try with_reducible rfl)
  try simp only [Act.put, List.setIfInBounds_toArray, List.set_cons_zero, List.set_cons_succ]
  refine wpAnyH_take (i := 4) (v := ?_) (by simp only [List.getElem?_toArray, List.getElem?_cons_succ, List.getElem?_cons_zero]; rfl) (by kernel_rfl) (by kernel_rfl) (by kernel_rfl) (by intro _ _ _ h; exact h) (Or.inl ⟨by rfl, ?_⟩) (by assumption) ?_
  rotate_left
  focus (intro wT hT; (try dsimp only at hT); go_simp; try with_reducible rfl)
  try simp only [Act.put, List.setIfInBounds_toArray, List.set_cons_zero, List.set_cons_succ]
  refine wpAnyH_take (i := 5) (v := ?_) (by simp only [List.getElem?_toArray, List.getElem?_cons_succ, List.getElem?_cons_zero]; rfl) (by kernel_rfl) (by kernel_rfl) (by kernel_rfl) (by intro _ _ _ h; exact h) (Or.inl ⟨by rfl, ?_⟩) (by assumption) ?_
  rotate_left
  focus (intro wT hT; (try dsimp only at hT); go_simp; try with_reducible rfl)
  try simp only [Act.put, List.setIfInBounds_toArray, List.set_cons_zero, List.set_cons_succ]
  refine wpAnyH_ready (rs := [6]) (by kernel_rfl) (by simp) (AllReadyH.cons (by simp only [List.getElem?_toArray, List.getElem?_cons_succ, List.getElem?_cons_zero]; rfl) (fun K hK => ?_) AllReadyH.nil)
  refine step_mapUpdate rfl _ _ _ _ rfl _ _ keyedI Tryz.underlying61 pgElem M g.aside.length (mapD g.aside) rfl HS2.out.map.drew (by unfold maxLen; omega) (.int .i64 n) _ _ rfl rfl (keyI (by omega) (by omega)) _ _ (pgElem_mk ⟨pk, pt, pv⟩) ?_
  intro w3 hm3 ht3
  rw [mapD_put g.aside n ⟨pk, pt, pv⟩ HN.out] at hm3
  have hS3 := (HS2.out.older (Below.refl _ _).drew).mapset hm3 ht3
  obtain ⟨⟨z0, z1, z2, z3, z4⟩, _, hz3⟩ := hS3.box.facts
  have hX3 := (touch_turned ht3).block w.heap.size (by simp; omega) (by omega)
  have hX4 : Box3 w3 w.heap.size 56 (.int .i64 pk) (.int .i64 pt) (.string ⟨pv.toArray⟩) := hX3.trans HX2.out
  obtain ⟨⟨y0, y1, y2⟩, _, _⟩ := hX4.facts
  refine hK.out _ _ ?_ (fun hHe3 => ?_)
  focus ((try dsimp only); exact ⟨z4, y0, y1, y2⟩)
  clear hK K
  try simp only [Act.put, List.setIfInBounds_toArray, List.set_cons_zero, List.set_cons_succ]
  refine wpAnyH_done (by kernel_rfl) ?_ _
  obtain ⟨li, hli⟩ : ∃ li, GateM.ins n ⟨pk, pt, pv⟩ g.aside = li := ⟨_, rfl⟩
  have hll : li.length = g.aside.length + 1 := by rw [← hli]; exact ins_len _ _ _
  have hin : ∃ e ∈ li, e.1 = n := by rw [← hli]; exact ⟨_, ins_mem n ⟨pk, pt, pv⟩ g.aside, rfl⟩
  have hbd : ∀ e ∈ li, 0 ≤ e.1 ∧ e.1 ≤ 1099511627776 := fun e he => by
    rw [← hli] at he
    rcases GateM.mem_ins he with rfl | he
    · exact ⟨by show 0 ≤ n; omega, h2⟩
    · have := HFAR.out e he; exact ⟨by omega, this.2⟩
  have HBD := Lib.hid hbd
  clear hbd
  rw [hli] at HE HASC hS3
  have HLI := Lib.hid hli
  have HLL := Lib.hid hll
  have HIN := Lib.hid hin
  have HS3 := Lib.hid hS3
  have HGO := Lib.hid (((GGoes.of_below (R := R) (M := M) (v := v) HB2.out).older (Below.refl _ _).drew).turned ht3)
  have hlb : li.length ≤ 1025 := by omega
  clear hli hll hin hS3 hX3 hX4 hm3 ht3 y0 y1 y2 x0 x1 x2 x3 x4 d0 d1 d2
  go_wp2
  by_cases hroom : g.aside.length + 1 ≤ g.win
  · have HE2 := Lib.hid (show g.put n ⟨pk, pt, pv⟩ = g.withA li by rw [HE.out, List.take_of_length_le (by have := HLL.out; omega)])
    have hll := HLL.out
    have hroom2 : li.length ≤ g.win := by omega
    have hdec : decide ((g.win : Int) < (li.length : Int)) = false := decide_eq_false (by omega)
    have hdec2 : decide (g.win < li.length) = false := decide_eq_false (by omega)
    refine wp_region_held_drew (S := (fun w' => w'.cell? ⟨R, 4, none⟩ = some (.map (some M)) ∧ w'.cell? ⟨R, 0, none⟩ = some (.int .i64 g.win) ∧ w'.ownsMap Tryz.prog 3 pgElem M li.length (mapD li))) (by kernel_rfl) (by exact ⟨z4, z0, HS3.out.map⟩) (fun hHeld => ?_)
    refine wpAnyH_take (i := 0) (v := ?_) (by simp only [List.getElem?_toArray, List.getElem?_cons_succ, List.getElem?_cons_zero]; rfl) (by kernel_rfl) (by kernel_rfl) (by kernel_rfl) (by intro _ _ _ h; exact h) (Or.inl ⟨by rfl, ?_⟩) (by assumption) ?_
    rotate_left
    focus (intro wT hT; (try dsimp only at hT); go_simp; try with_reducible rfl)
    try simp only [Act.put, List.setIfInBounds_toArray, List.set_cons_zero, List.set_cons_succ]
    refine wpAnyH_take (i := 1) (v := ?_) (by simp only [List.getElem?_toArray, List.getElem?_cons_succ, List.getElem?_cons_zero]; rfl) (by kernel_rfl) (by kernel_rfl) (by kernel_rfl) (by intro _ _ _ h; exact h) (Or.inl ⟨by rfl, ?_⟩) (by assumption) ?_
    rotate_left
    focus (intro wT hT; (try dsimp only at hT); go_simp; try with_reducible rfl)
    try simp only [Act.put, List.setIfInBounds_toArray, List.set_cons_zero, List.set_cons_succ]
    refine wpAnyH_take (i := 2) (v := ?_) (by simp only [List.getElem?_toArray, List.getElem?_cons_succ, List.getElem?_cons_zero]; rfl) (by kernel_rfl) (by kernel_rfl) (by kernel_rfl) (by intro _ _ _ h; exact h) (Or.inl ⟨by rfl, ?_⟩) (by assumption) ?_
    rotate_left
    focus (intro wT hT; (try dsimp only at hT); go_simp; try with_reducible rfl)
    try simp only [Act.put, List.setIfInBounds_toArray, List.set_cons_zero, List.set_cons_succ]
    refine wpAnyH_take (i := 3) (v := ?_) (by simp only [List.getElem?_toArray, List.getElem?_cons_succ, List.getElem?_cons_zero]; rfl) (by kernel_rfl) (by kernel_rfl) (by kernel_rfl) (by intro _ _ _ h; exact h) (Or.inl ⟨by rfl, ?_⟩) (by assumption) ?_
    rotate_left
    focus (intro wT hT; (try dsimp only at hT); go_simp; try with_reducible rfl)
    try simp only [Act.put, List.setIfInBounds_toArray, List.set_cons_zero, List.set_cons_succ]
    refine wpAnyH_take (i := 4) (v := ?_) (by simp only [List.getElem?_toArray, List.getElem?_cons_succ, List.getElem?_cons_zero]; rfl) (by kernel_rfl) (by kernel_rfl) (by kernel_rfl) (by intro _ _ _ h; exact h) (Or.inl ⟨by rfl, ?_⟩) (by assumption) ?_
    rotate_left
    focus (intro wT hT; (try dsimp only at hT); obtain ⟨_, _, hT3⟩ := hT; have hln := hT3.len Tryz.underlying61 3; rw [mapD_size] at hln; simp [execOp, resolve, invoke, builtin, hln, Result.andThen]; go_simp; try with_reducible rfl)
    try simp only [Act.put, List.setIfInBounds_toArray, List.set_cons_zero, List.set_cons_succ]
    refine wpAnyH_take (i := 5) (v := ?_) (by simp only [List.getElem?_toArray, List.getElem?_cons_succ, List.getElem?_cons_zero]; rfl) (by kernel_rfl) (by kernel_rfl) (by kernel_rfl) (by intro _ _ _ h; exact h) (Or.inl ⟨by rfl, ?_⟩) (by assumption) ?_
    rotate_left
    focus (intro wT hT; (try dsimp only at hT); go_simp; try with_reducible rfl)
    try simp only [Act.put, List.setIfInBounds_toArray, List.set_cons_zero, List.set_cons_succ]
    refine wpAnyH_take (i := 6) (v := ?_) (by simp only [List.getElem?_toArray, List.getElem?_cons_succ, List.getElem?_cons_zero]; rfl) (by kernel_rfl) (by kernel_rfl) (by kernel_rfl) (by intro _ _ _ h; exact h) (Or.inl ⟨by rfl, ?_⟩) (by assumption) ?_
    rotate_left
    focus (intro wT hT; (try dsimp only at hT); go_simp; try with_reducible rfl)
    try simp only [Act.put, List.setIfInBounds_toArray, List.set_cons_zero, List.set_cons_succ]
    refine wpAnyH_take (i := 7) (v := ?_) (by simp only [List.getElem?_toArray, List.getElem?_cons_succ, List.getElem?_cons_zero]; rfl) (by kernel_rfl) (by kernel_rfl) (by kernel_rfl) (by intro _ _ _ h; exact h) (Or.inl ⟨by rfl, ?_⟩) (by assumption) ?_
    rotate_left
    focus (intro wT hT; (try dsimp only at hT); go_simp; try with_reducible rfl)
    try simp only [Act.put, List.setIfInBounds_toArray, List.set_cons_zero, List.set_cons_succ]
    refine wpAnyH_take (i := 8) (v := ?_) (by simp only [List.getElem?_toArray, List.getElem?_cons_succ, List.getElem?_cons_zero]; rfl) (by kernel_rfl) (by kernel_rfl) (by kernel_rfl) (by intro _ _ _ h; exact h) (Or.inl ⟨by rfl, ?_⟩) (by assumption) ?_
    rotate_left
    focus (intro wT hT; (try dsimp only at hT); go_simp; try with_reducible rfl)
    try simp only [Act.put, List.setIfInBounds_toArray, List.set_cons_zero, List.set_cons_succ]
    refine wpAnyH_take (i := 9) (v := ?_) (by simp only [List.getElem?_toArray, List.getElem?_cons_succ, List.getElem?_cons_zero]; rfl) (by kernel_rfl) (by kernel_rfl) (by kernel_rfl) (by intro _ _ _ h; exact h) (Or.inl ⟨by rfl, ?_⟩) (by assumption) ?_
    rotate_left
    focus (intro wT hT; (try dsimp only at hT); go_simp; try with_reducible rfl)
    try simp only [Act.put, List.setIfInBounds_toArray, List.set_cons_zero, List.set_cons_succ]
    refine wpAnyH_done (by kernel_rfl) ?_ _
    go_wp2
    refine bodyPost_end (v := .tuple #[]) (by simp [results, Tryz.results37, go_sem]) rfl ?_
    rw [HE2.out]
    exact ⟨rfl, (HS3.out.older (Below.refl _ _).drew).gm rfl rfl rfl rfl, HGO.out.older (Below.refl _ _).drew⟩
  · have hll := HLL.out
    have hroom2 : ¬ li.length ≤ g.win := by omega
    have HS4 := Lib.hid (HS3.out.older (Below.refl _ _).drew)
    clear hll
    have hdec : decide ((g.win : Int) < (li.length : Int)) = true := decide_eq_true (by omega)
    have hdec2 : decide (g.win < li.length) = true := decide_eq_true (by omega)
    refine wp_region_held_drew (S := (fun w' => w'.cell? ⟨R, 4, none⟩ = some (.map (some M)) ∧ w'.cell? ⟨R, 0, none⟩ = some (.int .i64 g.win) ∧ w'.ownsMap Tryz.prog 3 pgElem M li.length (mapD li))) (by kernel_rfl) (by exact ⟨z4, z0, HS3.out.map⟩) (fun hHeld => ?_)
    refine wpAnyH_take (i := 0) (v := ?_) (by simp only [List.getElem?_toArray, List.getElem?_cons_succ, List.getElem?_cons_zero]; rfl) (by kernel_rfl) (by kernel_rfl) (by kernel_rfl) (by intro _ _ _ h; exact h) (Or.inl ⟨by rfl, ?_⟩) (by assumption) ?_
    rotate_left
    focus (intro wT hT; (try dsimp only at hT); go_simp; try with_reducible rfl)
    try simp only [Act.put, List.setIfInBounds_toArray, List.set_cons_zero, List.set_cons_succ]
    refine wpAnyH_take (i := 1) (v := ?_) (by simp only [List.getElem?_toArray, List.getElem?_cons_succ, List.getElem?_cons_zero]; rfl) (by kernel_rfl) (by kernel_rfl) (by kernel_rfl) (by intro _ _ _ h; exact h) (Or.inl ⟨by rfl, ?_⟩) (by assumption) ?_
    rotate_left
    focus (intro wT hT; (try dsimp only at hT); go_simp; try with_reducible rfl)
    try simp only [Act.put, List.setIfInBounds_toArray, List.set_cons_zero, List.set_cons_succ]
    refine wpAnyH_take (i := 2) (v := ?_) (by simp only [List.getElem?_toArray, List.getElem?_cons_succ, List.getElem?_cons_zero]; rfl) (by kernel_rfl) (by kernel_rfl) (by kernel_rfl) (by intro _ _ _ h; exact h) (Or.inl ⟨by rfl, ?_⟩) (by assumption) ?_
    rotate_left
    focus (intro wT hT; (try dsimp only at hT); go_simp; try with_reducible rfl)
    try simp only [Act.put, List.setIfInBounds_toArray, List.set_cons_zero, List.set_cons_succ]
    refine wpAnyH_take (i := 3) (v := ?_) (by simp only [List.getElem?_toArray, List.getElem?_cons_succ, List.getElem?_cons_zero]; rfl) (by kernel_rfl) (by kernel_rfl) (by kernel_rfl) (by intro _ _ _ h; exact h) (Or.inl ⟨by rfl, ?_⟩) (by assumption) ?_
    rotate_left
    focus (intro wT hT; (try dsimp only at hT); go_simp; try with_reducible rfl)
    try simp only [Act.put, List.setIfInBounds_toArray, List.set_cons_zero, List.set_cons_succ]
    refine wpAnyH_take (i := 4) (v := ?_) (by simp only [List.getElem?_toArray, List.getElem?_cons_succ, List.getElem?_cons_zero]; rfl) (by kernel_rfl) (by kernel_rfl) (by kernel_rfl) (by intro _ _ _ h; exact h) (Or.inl ⟨by rfl, ?_⟩) (by assumption) ?_
    rotate_left
    focus (intro wT hT; (try dsimp only at hT); obtain ⟨_, _, hT3⟩ := hT; have hln := hT3.len Tryz.underlying61 3; rw [mapD_size] at hln; simp [execOp, resolve, invoke, builtin, hln, Result.andThen]; go_simp; try with_reducible rfl)
    try simp only [Act.put, List.setIfInBounds_toArray, List.set_cons_zero, List.set_cons_succ]
    refine wpAnyH_take (i := 5) (v := ?_) (by simp only [List.getElem?_toArray, List.getElem?_cons_succ, List.getElem?_cons_zero]; rfl) (by kernel_rfl) (by kernel_rfl) (by kernel_rfl) (by intro _ _ _ h; exact h) (Or.inl ⟨by rfl, ?_⟩) (by assumption) ?_
    rotate_left
    focus (intro wT hT; (try dsimp only at hT); go_simp; try with_reducible rfl)
    try simp only [Act.put, List.setIfInBounds_toArray, List.set_cons_zero, List.set_cons_succ]
    refine wpAnyH_take (i := 6) (v := ?_) (by simp only [List.getElem?_toArray, List.getElem?_cons_succ, List.getElem?_cons_zero]; rfl) (by kernel_rfl) (by kernel_rfl) (by kernel_rfl) (by intro _ _ _ h; exact h) (Or.inl ⟨by rfl, ?_⟩) (by assumption) ?_
    rotate_left
    focus (intro wT hT; (try dsimp only at hT); go_simp; try with_reducible rfl)
    try simp only [Act.put, List.setIfInBounds_toArray, List.set_cons_zero, List.set_cons_succ]
    refine wpAnyH_take (i := 7) (v := ?_) (by simp only [List.getElem?_toArray, List.getElem?_cons_succ, List.getElem?_cons_zero]; rfl) (by kernel_rfl) (by kernel_rfl) (by kernel_rfl) (by intro _ _ _ h; exact h) (Or.inl ⟨by rfl, ?_⟩) (by assumption) ?_
    rotate_left
    focus (intro wT hT; (try dsimp only at hT); go_simp; try with_reducible rfl)
    try simp only [Act.put, List.setIfInBounds_toArray, List.set_cons_zero, List.set_cons_succ]
    refine wpAnyH_take (i := 8) (v := ?_) (by simp only [List.getElem?_toArray, List.getElem?_cons_succ, List.getElem?_cons_zero]; rfl) (by kernel_rfl) (by kernel_rfl) (by kernel_rfl) (by intro _ _ _ h; exact h) (Or.inl ⟨by rfl, ?_⟩) (by assumption) ?_
    rotate_left
    focus (intro wT hT; (try dsimp only at hT); go_simp; try with_reducible rfl)
    try simp only [Act.put, List.setIfInBounds_toArray, List.set_cons_zero, List.set_cons_succ]
    refine wpAnyH_take (i := 9) (v := ?_) (by simp only [List.getElem?_toArray, List.getElem?_cons_succ, List.getElem?_cons_zero]; rfl) (by kernel_rfl) (by kernel_rfl) (by kernel_rfl) (by intro _ _ _ h; exact h) (Or.inl ⟨by rfl, ?_⟩) (by assumption) ?_
    rotate_left
    focus (intro wT hT; (try dsimp only at hT); go_simp; try with_reducible rfl)
    try simp only [Act.put, List.setIfInBounds_toArray, List.set_cons_zero, List.set_cons_succ]
    refine wpAnyH_done (by kernel_rfl) ?_ _
    go_wp2_with (first
      | (at_range; refine wpList_range_own _ rfl _ 61 rfl 3 56 keyedI Tryz.underlying61 pgElem M _ _ rfl HS4.out.map ?_; intro w4 hrg4 hg4 hs4)
      | go_in)
    go_frame
    have e41 : w3.drew.heap.size = w3.heap.size := rfl
    simp only [e41]
    clear e41
    have HG4 : Hid (w3.drew.grownBy w4 none) := Lib.hid hg4
    have HR4 := Lib.hid hrg4
    clear hg4 hrg4 hs4
    go_loopw [8] (fun s8 wr => ∃ (m : Int) (left : Lit → Bool) (cnt : Nat), s8 = .int .i64 m ∧ Hid (MaxI li left m) ∧ 0 ≤ m ∧ m ≤ 1099511627776 ∧ wr.ranges Tryz.prog 3 pgElem M w3.heap.size li.length (mapD li) left cnt ∧ Hid (w3.drew.grownBy wr none))
      (fun _ wr => wr.rangeLeft M w3.heap.size)
    case atStart => exact ⟨n, _, _, rfl, Lib.hid (maxI_start HIN.out), by omega, h2, HR4.out, HG4⟩
    case round =>
      obtain ⟨m, left, cnt, rfl, HI, hm0, hm1, hrg, HGW⟩ := hrel
      have HRG := Lib.hid hrg
      have HS5 := Lib.hid (HS4.out.older (below_grownNone HGW.out))
      obtain ⟨⟨x0, x1, x2, x3, x4⟩, _, hzr⟩ := HS5.out.box.facts
      clear hrg HG4 HR4
      go_wp2_with (first
        | (at_next; refine wpList_next_ranges _ rfl _ rfl 3 keyedI pgElem (Value.int .i64) pgV (fun key kl hk => by obtain ⟨x, rfl, _⟩ := Maps.keyOf_int_inv Tryz.underlying3 hk; exact ⟨x, rfl⟩) (fun v y hv => by obtain ⟨p, rfl, _⟩ := pgElem_inv hv; exact ⟨p, rfl⟩) M w3.heap.size _ _ _ _ rfl HRG.out ?_ ?_)
        | go_in)
      · intro _ hl0
        have hd := drop_last HASC.out HI.out.1 (fun x hx => HI.out.2 x hx (hl0 _))
        have HD := Lib.hid hd
        have HO5 := Lib.hid HRG.out.owns
        clear hd hl0
        go_wp2_with (first
          | (at_delete; refine wpList_delete_own _ rfl _ _ 61 3 rfl 56 keyedI Tryz.underlying61 pgElem M li.length (mapD li) rfl HO5.out (.int .i64 m) _ rfl (keyI (by omega) (by omega)) ?_; intro w6 hm6 ht6)
          | go_in)
        refine bodyPost_end (v := .tuple #[]) (by simp [results, Tryz.results37, go_sem]) rfl ?_
        rw [mapD_del, HD.out] at hm6
        have hll := HLL.out
        have HE2 : g.put n ⟨pk, pt, pv⟩ = g.withA (li.take (li.length - 1)) := by
          rw [HE.out]
          congr 2; omega
        rw [HE2]
        exact ⟨rfl, (HS5.out.mapset hm6 ht6).gm rfl rfl rfl rfl, (((HGO.out.older (Below.refl _ _).drew).older (below_grownNone HGW.out)).turned ht6)⟩
      · intro x p kl y yps w5 cnt1 hkey hlk hv hat hrg1 hlt hg1 hs1 hen
        obtain ⟨x', ex, rfl, hwx⟩ := Maps.keyOf_int_inv Tryz.underlying3 hkey
        cases ex
        have hin := key_in hat
        have hx : 0 ≤ x ∧ x ≤ 1099511627776 := by
          obtain ⟨e, he, rfl⟩ := hin
          exact HBD.out e he
        have hx0 := hx.1
        have hx1 := hx.2
        have HN2 := Lib.hid (maxI_more HI.out hin)
        have HG1 := Lib.hid (HGW.out.andThen hg1 (fun j hj => by cases hj; exact Or.inl (Nat.le_refl _)))
        have HR1 := Lib.hid hrg1
        have HL1 := Lib.hid hlt
        clear hin hx hkey hlk hv hat hrg1 hlt hg1 hs1 x0 x1 x2 x3 x4
        go_wp2
        go_roundw
        case rel => exact ⟨max m x, _, cnt1, rfl, HN2, by omega, by omega, HR1.out, HG1⟩
        case measure => rw [HR1.out.left_eq, HRG.out.left_eq]; exact HL1.out
theorem put_any (hB : B ≤ w.heap.size) (h : GateAt w B R M v g g.aside) (ho : g.Ok) (h1 : g.applied + 1 < n) (h2 : n ≤ 1099511627776) :
    Calls Tryz.prog 37 #[ptrV R, .int .i64 n, pgV p] w fun e w' => e = .returned (.tuple #[]) ∧ GateAt w' B R M v (g.put n p) (g.put n p).aside ∧ GGoes w w' R M v v := by
  cases hk : GateM.hasK n g.aside with
  | true => exact put_has hB h ho h1 h2 hk
  | false => exact put_new hB h ho h1 h2 hk
end A1
end Go.Proofs.YtnppicekfjdefaaGreatDoor
