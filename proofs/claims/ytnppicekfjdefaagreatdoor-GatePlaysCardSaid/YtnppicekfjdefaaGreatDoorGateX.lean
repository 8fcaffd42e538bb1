/- Contracts: the reference's gate: aside, Apply. Conditions: a settled gate; numbers up to 2^40. -/
import Derived.Test.YtnppicekfjdefaaGreatDoorGateW
import Derived.Deep.LoopGhost
namespace Go.Proofs.YtnppicekfjdefaaGreatDoor
open Go.RowKit Pl Ad
attribute [local go_sem] ba_get ba_append ba_extract_end ba_extract_zero ba_extract
set_option maxRecDepth 100000
set_option maxHeartbeats 4000000
set_option linter.unusedVariables false
set_option linter.unusedSimpArgs false
namespace Ad
namespace GateM
theorem ins_at (n : Int) (p : Pg) : ∀ (l : List (Int × Pg)) (k : Nat), k ≤ l.length → (∀ e ∈ l.take k, e.1 < n) → (∀ e ∈ l.drop k, n ≤ e.1) → ins n p l = l.take k ++ (n, p) :: l.drop k
  | [], k, _, _, _ => by simp [ins]
  | (m, q) :: r, 0, _, _, h2 => by
    have := h2 (m, q) (by simp)
    simp only at this
    simp only [ins, List.take_zero, List.drop_zero, List.nil_append]
    rw [if_neg (by omega)]
  | (m, q) :: r, k + 1, hk, h1, h2 => by
    have h3 := h1 (m, q) (by simp)
    simp only at h3
    simp only [ins, List.take_succ_cons, List.drop_succ_cons, List.cons_append]
    rw [if_pos h3, ins_at n p r k (by simpa using hk) (fun e he => h1 e (by simp [he])) (fun e he => h2 e (by simpa using he))]
theorem asc_from {l : List (Int × Pg)} (h : Asc l) {k : Nat} (hk : k < l.length) {n : Int} (hn : n ≤ (l[k]).1) : ∀ e ∈ l.drop k, n ≤ e.1 := fun e he => by
  rw [List.drop_eq_getElem_cons hk] at he
  have h2 := List.pairwise_cons.1 (by rw [← List.drop_eq_getElem_cons hk]; exact h.sublist (List.drop_sublist _ _))
  rcases List.mem_cons.1 he with rfl | he
  · exact hn
  · have := h2.1 e he; omega
theorem hasK_no {l : List (Int × Pg)} {n : Int} {k : Nat} (h1 : ∀ e ∈ l.take k, e.1 < n) (h2 : ∀ e ∈ l.drop k, n < e.1) : hasK n l = false := by
  simp only [hasK, List.any_eq_false, beq_iff_eq]
  intro e he
  rw [← List.take_append_drop k l] at he
  rcases List.mem_append.1 he with he | he
  · have := h1 e he; omega
  · have := h2 e he; omega
theorem put_at {g : GateM} {n : Int} {p : Pg} {k : Nat} (hk : k ≤ g.aside.length) (h1 : ∀ e ∈ g.aside.take k, e.1 < n) (h2 : ∀ e ∈ g.aside.drop k, n < e.1) : g.put n p = g.withA ((g.aside.take k ++ (n, p) :: g.aside.drop k).take g.win) := by
  unfold put
  rw [hasK_no h1 h2]
  simp only [Bool.false_eq_true, if_false]
  rw [ins_at n p g.aside k hk h1 (fun e he => by have := h2 e he; omega)]
end GateM
end Ad
namespace A1
attribute [local go_sem] rgV
/-- An entry's variable. -/
def EBox (w : World) (R : Nat) (a b c d : Value) : Prop := w.heap[R]? = some (.cells #[a, b, c, d] 91 (0, 0))
theorem EBox.facts {w : World} {R : Nat} {a b c d : Value} (h : EBox w R a b c d) :
    (w.cell? ⟨R, 0, none⟩ = some a ∧ w.cell? ⟨R, 1, none⟩ = some b ∧ w.cell? ⟨R, 2, none⟩ = some c ∧ w.cell? ⟨R, 3, none⟩ = some d) ∧ R < w.heap.size :=
  ⟨⟨by rw [cell_of_row w R 0 _ _ _ h]; rfl, by rw [cell_of_row w R 1 _ _ _ h]; rfl, by rw [cell_of_row w R 2 _ _ _ h]; rfl, by rw [cell_of_row w R 3 _ _ _ h]; rfl⟩, (Array.getElem?_eq_some_iff.1 h).1⟩
theorem EBox.older {w w' : World} {R : Nat} {a b c d : Value} (h : EBox w R a b c d) (hb : Below w.heap.size w w') : EBox w' R a b c d := (hb.block R h.facts.2).trans h
section
variable {α : Type} {F : α → List Value} {K : Nat} {w : World} {xs : List α}
theorem RowsV.pre {a : Option Addr} {n c k : Nat} (h : RowsV F K w (.slice a n c) xs) (hF : ∀ x, (F x).length = K) (hK : 0 < K) (hn : n = xs.length) (hk : k ≤ xs.length) : SrcAt w (.slice a k c) k ((xs.take k).flatMap F) := by
  have hs := h.src hF hK
  rcases hs with ⟨h1, h2, h3⟩ | ⟨a', c', h1, h2⟩
  · cases h1
    obtain rfl := List.eq_nil_of_length_eq_zero h2
    simp only [List.length_nil] at hk
    obtain rfl : k = 0 := by omega
    exact .inl ⟨rfl, rfl, rfl⟩
  · cases h1
    refine .inr ⟨_, _, rfl, fun j u hu => h2 j u ?_⟩
    have hx : xs.flatMap F = (xs.take k).flatMap F ++ (xs.drop k).flatMap F := by rw [← List.flatMap_append, List.take_append_drop]
    rw [hx, List.getElem?_append_left (List.getElem?_eq_some_iff.1 hu).1]
    exact hu
theorem RowsV.suf {b o n c k : Nat} (h : RowsV F K w (.slice (some ⟨b, o, none⟩) n c) xs) (hF : ∀ x, (F x).length = K) (hK : 0 < K) (hn : n = xs.length) (hk : k ≤ xs.length) : SrcAt w (.slice (some ⟨b, o + k * K, none⟩) (n - k) (c - k)) (n - k) ((xs.drop k).flatMap F) := by
  have hs := h.src hF hK
  rcases hs with ⟨h1, _⟩ | ⟨a', c', h1, h2⟩
  · cases h1
  · cases h1
    refine .inr ⟨_, _, rfl, fun j u hu => ?_⟩
    have hx : xs.flatMap F = (xs.take k).flatMap F ++ (xs.drop k).flatMap F := by rw [← List.flatMap_append, List.take_append_drop]
    have hl : ((xs.take k).flatMap F).length = k * K := by rw [flat_len hF, List.length_take, Nat.min_eq_left hk]
    have := h2 (k * K + j) u (by rw [hx, List.getElem?_append_right (by omega), hl, Nat.add_sub_cancel_left]; exact hu)
    rw [Addr.add_lit] at this ⊢
    rw [Nat.add_assoc]
    exact this
theorem srcAt_zero (w : World) (a : Addr) (c : Nat) : SrcAt w (.slice (some a) 0 c) 0 [] := .inr ⟨_, _, rfl, fun j u hu => by simp at hu⟩
theorem RowsV.takeN {a : Option Addr} {n c m : Nat} (h : RowsV F K w (.slice a n c) xs) (hm : m ≤ xs.length) (hm0 : 0 < m) : RowsV F K w (.slice a m c) (xs.take m) := by
  rcases h with ⟨rfl, _⟩ | ⟨b, o, c', e, h2, h3, h4⟩
  · simp at hm; omega
  · cases e
    refine .inr ⟨b, o, c, by rw [List.length_take, Nat.min_eq_left hm], by rw [List.length_take]; omega, h3, fun i x hx j u hu => h4 i x ?_ j u hu⟩
    rw [List.getElem?_take] at hx
    split at hx
    · exact hx
    · cases hx
theorem ecells_one (l : List (Int × Pg)) : ∀ u ∈ l.flatMap ecells, u.oneCell' = true := by
  intro u hu
  obtain ⟨e, _, he⟩ := List.mem_flatMap.1 hu
  simp only [ecells, List.mem_cons, List.not_mem_nil, or_false] at he
  rcases he with rfl | rfl | rfl | rfl <;> rfl
end
/-- The blocks that aside makes at its head. -/
structure AsS (w wr : World) (g : GateM) (ku au : Value) (n : Int) (p : Pg) : Prop where
  bel : Below w.heap.size w wr
  box : VBox wr w.heap.size (.int .i64 g.applied) (.int .i64 g.floor) (.int .i64 g.win) ku au
  ent : EBox wr (w.heap.size + 1) (.int .i64 n) (.int .i64 p.kind) (.int .i64 p.tenant) (.string ⟨p.value.toArray⟩)
  res : VBox wr (w.heap.size + 1 + 1) (.int .i64 0) (.int .i64 0) (.int .i64 0) (.slice none 0 0) (.slice none 0 0)
theorem AsS.older {w wr w' : World} {g : GateM} {ku au : Value} {n : Int} {p : Pg} (h : AsS w wr g ku au n p) (hb : Below wr.heap.size wr w') : AsS w w' g ku au n p := ⟨h.bel.trans (hb.mono h.bel.size), h.box.older hb, h.ent.older hb, h.res.older hb⟩
theorem AsS.drewN {w wr : World} {g : GateM} {ku au : Value} {n : Int} {p : Pg} (h : AsS w wr g ku au n p) (q : Nat) : AsS w (wr.drewN q) g ku au n p := h.older (below_drewN (Below.refl _ _) q)
theorem asS_new (w : World) (g : GateM) (ku au : Value) (n : Int) (p : Pg) :
    AsS w (((w.alloc (.cells #[.int .i64 g.applied, .int .i64 g.floor, .int .i64 g.win, ku, au] 34)).alloc (.cells #[.int .i64 n, .int .i64 p.kind, .int .i64 p.tenant, .string ⟨p.value.toArray⟩] 91)).alloc (.cells #[.int .i64 0, .int .i64 0, .int .i64 0, .slice none 0 0, .slice none 0 0] 34)) g ku au n p := by
  have h1 := (Below.refl (w.alloc (.cells #[.int .i64 g.applied, .int .i64 g.floor, .int .i64 g.win, ku, au] 34)).heap.size (w.alloc (.cells #[.int .i64 g.applied, .int .i64 g.floor, .int .i64 g.win, ku, au] 34))).alloc (Nat.le_refl _) (.cells #[.int .i64 n, .int .i64 p.kind, .int .i64 p.tenant, .string ⟨p.value.toArray⟩] 91)
  refine ⟨(((Below.refl _ _).alloc (Nat.le_refl _) _).alloc (by simp) _).alloc (by simp; omega) _, ((vbox_new w _ _ _ _ _).older (h1.alloc (by simp) _)), ?_, ?_⟩
  · have h := heap_alloc_new (w.alloc (.cells #[.int .i64 g.applied, .int .i64 g.floor, .int .i64 g.win, ku, au] 34)) (.cells #[.int .i64 n, .int .i64 p.kind, .int .i64 p.tenant, .string ⟨p.value.toArray⟩] 91)
    have h3 : EBox _ _ _ _ _ _ := h
    have h2 := h3.older ((Below.refl _ _).alloc (Nat.le_refl _) (.cells #[.int .i64 0, .int .i64 0, .int .i64 0, .slice none 0 0, .slice none 0 0] 34))
    simpa using h2
  · have h := vbox_new ((w.alloc (.cells #[.int .i64 g.applied, .int .i64 g.floor, .int .i64 g.win, ku, au] 34)).alloc (.cells #[.int .i64 n, .int .i64 p.kind, .int .i64 p.tenant, .string ⟨p.value.toArray⟩] 91)) (.int .i64 0) (.int .i64 0) (.int .i64 0) (.slice none 0 0) (.slice none 0 0)
    simpa using h
theorem aside_ref {w4 : World} {B : Nat} {g : GateM} {l0 l2 : List (Int × Pg)} {a4 : Option Addr} {q4 N m : Nat} {ku au : Value} (hN : l2.length = N) (hown : OwnWin w4 B 91 4 (.slice a4 N q4) N (l2.flatMap ecells)) (hm : m = min N g.win) (hw : 1 ≤ g.win) (h1 : 1 ≤ N) (hr : RefS w4 g l0 ku au) :
    RefS w4 (g.withA (l2.take g.win)) (g.withA (l2.take g.win)).aside ku (.slice a4 m q4) := by
  subst hN
  have h2 := rows_ownF hown ecells_len
  have ht : l2.take g.win = l2.take m := by
    subst hm
    rcases Nat.le_total l2.length g.win with h | h
    · rw [Nat.min_eq_left h, List.take_of_length_le h, List.take_length]
    · rw [Nat.min_eq_right h]
  refine ⟨hr.kept, ?_, hr.tk, ?_⟩
  · show RowsV ecells 4 w4 _ (l2.take g.win)
    rw [ht]
    exact h2.takeN (by omega) (by omega)
  · exact (TypedV.own hown).same (fun q hq => by cases a4 <;> exact hq)
theorem flat_ins (l : List (Int × Pg)) (k : Nat) (n pk pt : Int) (pv : Bs) : (l.take k ++ (n, Pg.mk pk pt pv) :: l.drop k).flatMap ecells = (l.take k).flatMap ecells ++ [.int .i64 n, .int .i64 pk, .int .i64 pt, .string ⟨pv.toArray⟩] ++ (l.drop k).flatMap ecells := by
  rw [List.flatMap_append, List.flatMap_cons, List.append_assoc]
  rfl
theorem refAside_any (g : GateM) (ku au : Value) (n : Int) (p : Pg) (w : World) (ho : g.Ok) (hs : RefS w g g.aside ku au) (hn : n ≤ 1099511627776) :
    Calls Tryz.prog 41 #[rgV g ku au, .agg #[.int .i64 n, .int .i64 p.kind, .int .i64 p.tenant, .string ⟨p.value.toArray⟩]] w fun e w' => ∃ ku' au', e = .returned (rgV (g.put n p) ku' au') ∧ RefS w' (g.put n p) (g.put n p).aside ku' au' ∧ Below w.heap.size w w' := by
  obtain ⟨gf, hgf⟩ : ∃ gf, g.put n p = gf := ⟨_, rfl⟩
  rw [hgf]
  have HGF := Lib.hid hgf
  have HOK := Lib.hid ho
  have HRS := Lib.hid hs
  have hap1 := ho.hi
  have hw1 := ho.win1
  have hw2 := ho.win2
  have hfew := ho.few
  obtain ⟨pk, pt, pv⟩ := p
  obtain ⟨ua, uc, rfl, _⟩ := hs.kept.form
  obtain ⟨ea, ec, rfl, hec⟩ := hs.aside.form
  have HF := Lib.hid (asS_new w g (.slice ua g.kept.length uc) (.slice ea g.aside.length ec) n ⟨pk, pt, pv⟩)
  clear hs hgf ho
  obtain ⟨l, hl⟩ : ∃ l, g.aside = l := ⟨_, rfl⟩
  rw [hl] at HRS HF hec hfew ⊢
  have HL := Lib.hid hl
  clear hl
  go_enter Tryz.func41, Tryz.ntmps41
  go_upto_region 2 with fail
  go_loopg [5] l.length (fun q iv wr => ∃ k : Nat, iv = .int .i64 k ∧ k ≤ l.length ∧ Hid (l.length ≤ q + k) ∧ Hid (∀ e ∈ l.take k, e.1 < n) ∧ AsS w wr g (.slice ua g.kept.length uc) (.slice ea l.length ec) n ⟨pk, pt, pv⟩)
  case atStart => exact ⟨0, rfl, Nat.zero_le _, Lib.hid (by omega), Lib.hid (fun e he => by simp at he), HF.out⟩
  case round =>
    obtain ⟨k, rfl, hk, HQ, HB, s⟩ := hrel
    have HS := Lib.hid s
    clear s
    obtain ⟨⟨c0, c1, c2, c3, c4⟩, ⟨f0, f1, f2, f3, f4⟩, hz⟩ := HS.out.box.facts
    obtain ⟨⟨e0, e1, e2, e3, e4⟩, ⟨j0, j1, j2, j3, j4⟩, hz2⟩ := HS.out.res.facts
    obtain ⟨⟨d0, d1, d2, d3⟩, hz3⟩ := HS.out.ent.facts
    by_cases hlt : k < l.length
    · obtain ⟨b, o, c, e, hc, hbz, hcell⟩ := (HRS.out.aside.below HS.out.bel).at hlt
      cases e
      have HSN := Lib.hid (List.take_succ_eq_append_getElem hlt)
      have HAF := Lib.hid (fun (m : Int) (h : m ≤ (l[k]).1) => GateM.asc_from (l := l) (by rw [← HL.out]; exact HOK.out.asc) hlt h)
      have HFR := Lib.hid (show (l[k]).1 ≤ 1099511627776 ∧ g.applied + 1 < (l[k]).1 from by
        have := HOK.out.far l[k] (by rw [HL.out]; exact List.getElem_mem hlt)
        exact ⟨this.2, this.1⟩)
      have HIN := Lib.hid (List.getElem_mem hlt)
      generalize l[k] = y at hcell HSN HAF HFR HIN
      obtain ⟨yn, yk, yt, yv⟩ := y
      have hf1 := HFR.out.1
      have hf2 := HFR.out.2
      simp only at hf1 hf2
      have q0 : wr.cell? ⟨b, o + k * 4, none⟩ = some (.int .i64 yn) := hcell 0 _ rfl
      have q1 : wr.cell? ⟨b, o + k * 4 + 1, none⟩ = some (.int .i64 yk) := hcell 1 _ rfl
      have q2 : wr.cell? ⟨b, o + k * 4 + 2, none⟩ = some (.int .i64 yt) := hcell 2 _ rfl
      have q3 : wr.cell? ⟨b, o + k * 4 + 3, none⟩ = some (.string ⟨yv.toArray⟩) := hcell 3 _ rfl
      clear hcell
      by_cases h1 : yn < n
      · go_wp2_with fail
        go_quiet (fail)
        go_wp2_with fail
        go_roundg (gk - 1)
        case rel => exact ⟨k + 1, by go_num, by omega, Lib.hid (by have := HQ.out; omega), Lib.hid (fun e he => by
          rw [HSN.out] at he
          rcases List.mem_append.1 he with he | he
          · exact HB.out e he
          · rw [List.mem_singleton.1 he]; exact h1), HS.out.drewN nq⟩
        case measure => have := HQ.out; omega
      · go_wp2_with fail
        go_quiet (fail)
        obtain ⟨wA, hw9⟩ : ∃ wz, wr.drewN nq = wz := ⟨_, rfl⟩
        have HSA := Lib.hid (HS.out.drewN nq)
        have HSAB := Lib.hid (below_drewN (Below.refl wr.heap.size wr) nq)
        have r0 : (wr.drewN nq).cell? ⟨b, o + k * 4, none⟩ = some (.int .i64 yn) := q0
        have r1 : (wr.drewN nq).cell? ⟨b, o + k * 4 + 1, none⟩ = some (.int .i64 yk) := q1
        have r2 : (wr.drewN nq).cell? ⟨b, o + k * 4 + 2, none⟩ = some (.int .i64 yt) := q2
        have r3 : (wr.drewN nq).cell? ⟨b, o + k * 4 + 3, none⟩ = some (.string ⟨yv.toArray⟩) := q3
        rw [hw9] at HSA HSAB r0 r1 r2 r3 ⊢
        clear hw9
        clear q0 q1 q2 q3
        have q0 := r0
        have q1 := r1
        have q2 := r2
        have q3 := r3
        clear r0 r1 r2 r3
        clear c0 c1 c2 c3 c4 f0 f1 f2 f3 f4 e0 e1 e2 e3 e4 j0 j1 j2 j3 j4 d0 d1 d2 d3
        obtain ⟨⟨c0, c1, c2, c3, c4⟩, ⟨f0, f1, f2, f3, f4⟩, hz⟩ := HSA.out.box.facts
        obtain ⟨⟨e0, e1, e2, e3, e4⟩, ⟨j0, j1, j2, j3, j4⟩, hz2⟩ := HSA.out.res.facts
        obtain ⟨⟨d0, d1, d2, d3⟩, hz3⟩ := HSA.out.ent.facts
        go_wp2_with fail
        by_cases h2 : yn = n
        · have hb2 : (yn == n) = true := by rw [beq_iff_eq]; exact h2
          have HE := Lib.hid (show g = gf from by
            rw [← HGF.out]
            exact (if_pos (by rw [HL.out]; exact List.any_eq_true.2 ⟨_, HIN.out, by simpa using h2⟩)).symm)
          clear h2 h1
          go_quiet (fail)
          obtain ⟨wB, hw9⟩ : ∃ wz, wA.drewN nq = wz := ⟨_, rfl⟩
          have HSB := Lib.hid (HSA.out.drewN nq)
          have HSBB := Lib.hid (below_drewN (Below.refl wA.heap.size wA) nq)
          have r0 : (wA.drewN nq).cell? ⟨b, o + k * 4, none⟩ = some (.int .i64 yn) := q0
          have r1 : (wA.drewN nq).cell? ⟨b, o + k * 4 + 1, none⟩ = some (.int .i64 yk) := q1
          have r2 : (wA.drewN nq).cell? ⟨b, o + k * 4 + 2, none⟩ = some (.int .i64 yt) := q2
          have r3 : (wA.drewN nq).cell? ⟨b, o + k * 4 + 3, none⟩ = some (.string ⟨yv.toArray⟩) := q3
          rw [hw9] at HSB HSBB r0 r1 r2 r3 ⊢
          clear hw9
          clear q0 q1 q2 q3
          have q0 := r0
          have q1 := r1
          have q2 := r2
          have q3 := r3
          clear r0 r1 r2 r3
          clear c0 c1 c2 c3 c4 f0 f1 f2 f3 f4 e0 e1 e2 e3 e4 j0 j1 j2 j3 j4 d0 d1 d2 d3
          obtain ⟨⟨c0, c1, c2, c3, c4⟩, ⟨f0, f1, f2, f3, f4⟩, hz⟩ := HSB.out.box.facts
          obtain ⟨⟨e0, e1, e2, e3, e4⟩, ⟨j0, j1, j2, j3, j4⟩, hz2⟩ := HSB.out.res.facts
          obtain ⟨⟨d0, d1, d2, d3⟩, hz3⟩ := HSB.out.ent.facts
          go_wp2_with fail
          obtain ⟨⟨z0, z1, z2, z3, z4⟩, _, _⟩ := (HSB.out.res.store (.int .i64 g.applied) (.int .i64 g.floor) (.int .i64 g.win) (.slice ua g.kept.length uc) (.slice (some ⟨b, o, none⟩) l.length ec)).facts
          refine bodyPost_ret (v := .agg #[.int .i64 g.applied, .int .i64 g.floor, .int .i64 g.win, .slice ua g.kept.length uc, .slice (some ⟨b, o, none⟩) l.length ec]) (by simp [results, Tryz.results41, go_sem, z0, z1, z2, z3, z4]) rfl ?_
          have h9 := (HRS.out.below HSB.out.bel).store HSB.out.res (.int .i64 g.applied) (.int .i64 g.floor) (.int .i64 g.win) (.slice ua g.kept.length uc) (.slice (some ⟨b, o, none⟩) l.length ec)
          exact ⟨_, _, by rw [← HE.out], by rw [← HE.out, HL.out]; exact h9, below_store HSB.out.bel (by omega) _ _ _ _ _⟩
        · have hb2 : (yn == n) = false := by rw [beq_eq_false_iff_ne]; exact h2
          have HGT := Lib.hid (HAF.out (n + 1) (by show n + 1 ≤ yn; omega))
          clear h2 h1
          go_quiet (fail)
          obtain ⟨wB, hw9⟩ : ∃ wz, wA.drewN nq = wz := ⟨_, rfl⟩
          have HSB := Lib.hid (HSA.out.drewN nq)
          have HSBB := Lib.hid (below_drewN (Below.refl wA.heap.size wA) nq)
          have r0 : (wA.drewN nq).cell? ⟨b, o + k * 4, none⟩ = some (.int .i64 yn) := q0
          have r1 : (wA.drewN nq).cell? ⟨b, o + k * 4 + 1, none⟩ = some (.int .i64 yk) := q1
          have r2 : (wA.drewN nq).cell? ⟨b, o + k * 4 + 2, none⟩ = some (.int .i64 yt) := q2
          have r3 : (wA.drewN nq).cell? ⟨b, o + k * 4 + 3, none⟩ = some (.string ⟨yv.toArray⟩) := q3
          rw [hw9] at HSB HSBB r0 r1 r2 r3 ⊢
          clear hw9
          clear q0 q1 q2 q3
          have q0 := r0
          have q1 := r1
          have q2 := r2
          have q3 := r3
          clear r0 r1 r2 r3
          clear c0 c1 c2 c3 c4 f0 f1 f2 f3 f4 e0 e1 e2 e3 e4 j0 j1 j2 j3 j4 d0 d1 d2 d3
          obtain ⟨⟨c0, c1, c2, c3, c4⟩, ⟨f0, f1, f2, f3, f4⟩, hz⟩ := HSB.out.box.facts
          obtain ⟨⟨e0, e1, e2, e3, e4⟩, ⟨j0, j1, j2, j3, j4⟩, hz2⟩ := HSB.out.res.facts
          obtain ⟨⟨d0, d1, d2, d3⟩, hz3⟩ := HSB.out.ent.facts
          have HPA := Lib.hid (show g.withA ((l.take k ++ (n, ⟨pk, pt, pv⟩) :: l.drop k).take g.win) = gf by
            rw [← HGF.out, GateM.put_at (k := k) (by rw [HL.out]; omega) (by rw [HL.out]; exact HB.out) (by rw [HL.out]; intro e he; have := HGT.out e he; omega), HL.out])
          have HU1 := Lib.hid (HRS.out.aside.below HSB.out.bel)
          have HBZ := Lib.hid HSB.out.bel.size
          have hkec : k ≤ ec := by omega
          have hbz9 := HSB.out.bel.size
          go_upto_region 6 with fail
          go_cut [6] (fun s6 wx => ∃ a3 q3, s6 = .slice a3 (k + 1) q3 ∧ OwnWin wx wB.heap.size 91 4 (.slice a3 (k + 1) q3) (k + 1) ((l.take k).flatMap ecells ++ [.int .i64 n, .int .i64 pk, .int .i64 pt, .string ⟨pv.toArray⟩]) ∧ Below wB.heap.size wB wx)
          case first =>
            go_region_law
                ((first
                  | (refine step_appw tyREs (by rfl) _ _ (by rfl) wB.heap.size (.slice (some ⟨wB.heap.size, 0, none⟩) 0 0) 0 [] (by rfl) (own_empty (heap_alloc_new wB _) (Nat.le_refl _)).drew (by first | (simp; done) | (simp; omega)) (.slice (some ⟨b, o, none⟩) k ec) k ((l.take k).flatMap ecells) (by rfl) ((HU1.out.alloc _).drew.pre ecells_len (by decide) rfl hk) (by rw [flat_len ecells_len, List.length_take, Nat.min_eq_left hk]) (ecells_one _) (by omega) ?_; intro v2 w2 hown2 hgrow2 hlies2; rw [Nat.zero_add, List.nil_append] at hown2; obtain ⟨a2, q2, rfl, hq2⟩ := hown2.form; have hb2 : Below wB.heap.size wB w2 := below_grown ((Below.refl wB.heap.size wB).alloc (Nat.le_refl _) _).drew hgrow2 (by first | (simp; done) | (simp; omega)) (fun q hq => by simp [Value.ownBlock] at hq; omega); have hs2 := hb2.size; obtain ⟨⟨p0, p1, p2, p3⟩, _⟩ := (HSB.out.older hb2).ent.facts)
                  | (refine step_appw tyREs (by rfl) _ _ (by rfl) wB.heap.size (.slice (some ⟨wB.heap.size, 0, none⟩) 0 0) 0 [] (by rfl) ((own_empty (heap_alloc_new wB _) (Nat.le_refl _)).alloc _).drew (by first | (simp; done) | (simp; omega)) (.slice (some ⟨b, o, none⟩) k ec) k ((l.take k).flatMap ecells) (by rfl) (((HU1.out.alloc _).alloc _).drew.pre ecells_len (by decide) rfl hk) (by rw [flat_len ecells_len, List.length_take, Nat.min_eq_left hk]) (ecells_one _) (by omega) ?_; intro v2 w2 hown2 hgrow2 hlies2; rw [Nat.zero_add, List.nil_append] at hown2; obtain ⟨a2, q2, rfl, hq2⟩ := hown2.form; have hb2 : Below wB.heap.size wB w2 := below_grown (((Below.refl wB.heap.size wB).alloc (Nat.le_refl _) _).alloc (by first | (simp; done) | (simp; omega)) _).drew hgrow2 (by first | (simp; done) | (simp; omega)) (fun q hq => by simp [Value.ownBlock] at hq; omega); have hs2 := hb2.size; obtain ⟨⟨p0, p1, p2, p3⟩, _⟩ := (HSB.out.older hb2).ent.facts; have hP : w2.heap[wB.heap.size + 1]? = some (.cells #[.int .i64 n, .int .i64 pk, .int .i64 pt, .string ⟨pv.toArray⟩] 91 (0, 0)) := (hgrow2.block _ (by first | (simp; done) | (simp; omega)) (by simp [Value.ownBlock])).trans (heap_next wB _ _))
                  | (refine step_appw tyREs (by rfl) _ _ (by rfl) wB.heap.size (.slice (some ⟨wB.heap.size + 1, 0, none⟩) 0 0) 0 [] (by rfl) (own_empty (heap_alloc_next wB _ _) (by omega)).drew (by first | (simp; done) | (simp; omega)) (.slice (some ⟨b, o, none⟩) k ec) k ((l.take k).flatMap ecells) (by rfl) (((HU1.out.alloc _).alloc _).drew.pre ecells_len (by decide) rfl hk) (by rw [flat_len ecells_len, List.length_take, Nat.min_eq_left hk]) (ecells_one _) (by omega) ?_; intro v2 w2 hown2 hgrow2 hlies2; rw [Nat.zero_add, List.nil_append] at hown2; obtain ⟨a2, q2, rfl, hq2⟩ := hown2.form; have hb2 : Below wB.heap.size wB w2 := below_grown (((Below.refl wB.heap.size wB).alloc (Nat.le_refl _) _).alloc (by first | (simp; done) | (simp; omega)) _).drew hgrow2 (by first | (simp; done) | (simp; omega)) (fun q hq => by simp [Value.ownBlock] at hq; omega); have hs2 := hb2.size; obtain ⟨⟨p0, p1, p2, p3⟩, _⟩ := (HSB.out.older hb2).ent.facts; have hP : w2.heap[wB.heap.size]? = some (.cells #[.int .i64 n, .int .i64 pk, .int .i64 pt, .string ⟨pv.toArray⟩] 91 (0, 0)) := (hgrow2.block _ (by first | omega | (simp; omega)) (by simp [Value.ownBlock])).trans (heap_first wB _ _))
                  | (refine step_appw tyREs (by rfl) _ _ (by rfl) wB.heap.size (.slice a2 k q2) k ((l.take k).flatMap ecells) (by rfl) (hown2.alloc _) (by first | omega | (simp; omega)) (.slice (some ⟨w2.heap.size, 0, none⟩) 1 1) 1 [.int .i64 n, .int .i64 pk, .int .i64 pt, .string ⟨pv.toArray⟩] (by rfl) (SrcAt.one (heap_alloc_new w2 _)) (by rfl) (by simp [Value.oneCell']) (by omega) ?_; intro v3 w3 hown3 hgrow3 hlies3; obtain ⟨a3, q3, rfl, hq3⟩ := hown3.form; have hb3 : Below wB.heap.size wB w3 := below_grown (hb2.alloc (by omega) _) hgrow3 (by first | omega | (simp; omega)) (fun q hq => (hown2.lt q hq).1))
                  | (refine step_appw tyREs (by rfl) _ _ (by rfl) wB.heap.size (.slice a2 k q2) k ((l.take k).flatMap ecells) (by rfl) hown2 (by first | omega | (simp; omega)) (.slice (some ⟨wB.heap.size + 1, 0, none⟩) 1 1) 1 [.int .i64 n, .int .i64 pk, .int .i64 pt, .string ⟨pv.toArray⟩] (by rfl) (SrcAt.one hP) (by rfl) (by simp [Value.oneCell']) (by omega) ?_; intro v3 w3 hown3 hgrow3 hlies3; obtain ⟨a3, q3, rfl, hq3⟩ := hown3.form; have hb3 : Below wB.heap.size wB w3 := below_grown hb2 hgrow3 (by first | omega | (simp; omega)) (fun q hq => (hown2.lt q hq).1))
                  | (refine step_appw tyREs (by rfl) _ _ (by rfl) wB.heap.size (.slice a2 k q2) k ((l.take k).flatMap ecells) (by rfl) hown2 (by first | omega | (simp; omega)) (.slice (some ⟨wB.heap.size, 0, none⟩) 1 1) 1 [.int .i64 n, .int .i64 pk, .int .i64 pt, .string ⟨pv.toArray⟩] (by rfl) (SrcAt.one hP) (by rfl) (by simp [Value.oneCell']) (by omega) ?_; intro v3 w3 hown3 hgrow3 hlies3; obtain ⟨a3, q3, rfl, hq3⟩ := hown3.form; have hb3 : Below wB.heap.size wB w3 := below_grown hb2 hgrow3 (by first | omega | (simp; omega)) (fun q hq => (hown2.lt q hq).1))))
            all_goals
              go_wp2
              go_meet
              exact ⟨a3, q3, rfl, hown3, hb3⟩
          case rest =>
            obtain ⟨a3, q3, rfl, hown, hbx⟩ := hcut
            have HO := Lib.hid hown
            have HBX := Lib.hid hbx
            have HS3 := Lib.hid (HSB.out.older hbx)
            have hkq : k + 1 ≤ q3 := by obtain ⟨_, _, e, h⟩ := hown.form; cases e; exact h
            clear hown hbx c0 c1 c2 c3 c4 f0 f1 f2 f3 f4 e0 e1 e2 e3 e4 j0 j1 j2 j3 j4 d0 d1 d2 d3
            obtain ⟨⟨c0, c1, c2, c3, c4⟩, ⟨f0, f1, f2, f3, f4⟩, hz6⟩ := HS3.out.box.facts
            have hne : ¬ k = ec := by omega
            have hne2 : ¬ ec = k := by omega
            have HSRC := Lib.hid ((HRS.out.aside.below HS3.out.bel).suf ecells_len (by decide) rfl hk)
            go_upto_region 7 with fail
            go_wp2_with (at_builtin; refine wpList_appw tyREs (by rfl) _ _ (by rfl) wB.heap.size (.slice a3 (k + 1) q3) (k + 1) _ (by rfl) HO.out HBX.out.size _ (l.length - k) ((l.drop k).flatMap ecells) (by rfl) (HSRC.out) (by rw [flat_len ecells_len, List.length_drop]) (ecells_one _) (by omega) ?_; intro v4 w4 hown4 hgrow4 hlies4; obtain ⟨a4, q4, rfl, hq4⟩ := hown4.form; have HB4 := Lib.hid (below_grown HBX.out hgrow4 HBX.out.size (fun q hq => (HO.out.lt q hq).1)); have HO4 := Lib.hid hown4; have HS4 := Lib.hid (HSB.out.older HB4.out); clear hown4 hgrow4 hlies4 c0 c1 c2 c3 c4 f0 f1 f2 f3 f4; obtain ⟨⟨c0, c1, c2, c3, c4⟩, ⟨f0, f1, f2, f3, f4⟩, hz⟩ := HS4.out.box.facts; obtain ⟨⟨e0, e1, e2, e3, e4⟩, ⟨j0, j1, j2, j3, j4⟩, hz2⟩ := HS4.out.res.facts)
            have HRF := Lib.hid (aside_ref (m := (min ((k : Int) + 1 + ((l.length - k : Nat) : Int)) (g.win : Int)).toNat) (l2 := l.take k ++ (n, Pg.mk pk pt pv) :: l.drop k) (N := k + 1 + (l.length - k)) (by simp only [List.length_append, List.length_take, List.length_cons, List.length_drop]; omega) (by rw [flat_ins]; exact HO4.out) (by omega) hw1 (by omega) (HRS.out.below (HSB.out.older HB4.out).bel))
            have HG4 := Lib.hid (HS4.out.box)
            have HZ4 := Lib.hid (HS4.out.res.other (q := w.heap.size) (by omega) 4 (.slice a4 (min ((k : Int) + 1 + ((l.length - k : Nat) : Int)) (g.win : Int)).toNat q4))
            obtain ⟨⟨z0, z1, z2, z3, z4⟩, _, _⟩ := (HZ4.out.store (.int .i64 g.applied) (.int .i64 g.floor) (.int .i64 g.win) (.slice ua g.kept.length uc) (.slice a4 (min ((k : Int) + 1 + ((l.length - k : Nat) : Int)) (g.win : Int)).toNat q4)).facts
            refine bodyPost_ret (v := .agg #[.int .i64 g.applied, .int .i64 g.floor, .int .i64 g.win, .slice ua g.kept.length uc, .slice a4 (min ((k : Int) + 1 + ((l.length - k : Nat) : Int)) (g.win : Int)).toNat q4]) (by simp [results, Tryz.results41, go_sem, z0, z1, z2, z3, z4]) rfl ?_
            rw [HPA.out] at HRF
            have h9 := (HRF.out.set HG4.out 4 (.slice a4 (min ((k : Int) + 1 + ((l.length - k : Nat) : Int)) (g.win : Int)).toNat q4)).store HZ4.out (.int .i64 g.applied) (.int .i64 g.floor) (.int .i64 g.win) (.slice ua g.kept.length uc) (.slice a4 (min ((k : Int) + 1 + ((l.length - k : Nat) : Int)) (g.win : Int)).toNat q4)
            exact ⟨_, _, by rw [← HPA.out]; rfl, h9, below_store (HS4.out.bel.setCell (p := ⟨w.heap.size, 4, none⟩) (Nat.le_refl _) _) (by omega) _ _ _ _ _⟩
    · obtain rfl : k = l.length := by omega
      have HPA := Lib.hid (show g.withA ((l.take l.length ++ (n, ⟨pk, pt, pv⟩) :: l.drop l.length).take g.win) = gf by
        rw [← HGF.out, GateM.put_at (k := l.length) (by rw [HL.out]; omega) (by rw [HL.out]; exact HB.out) (by rw [HL.out, List.drop_eq_nil_of_le (by omega)]; intro e he; cases he), HL.out])
      go_wp2_with fail
      go_quiet (fail)
      obtain ⟨wA, hw9⟩ : ∃ wz, wr.drewN nq = wz := ⟨_, rfl⟩
      have HSA := Lib.hid (HS.out.drewN nq)
      have HSAB := Lib.hid (below_drewN (Below.refl wr.heap.size wr) nq)
      rw [hw9] at HSA HSAB ⊢
      clear hw9
      clear c0 c1 c2 c3 c4 f0 f1 f2 f3 f4 e0 e1 e2 e3 e4 j0 j1 j2 j3 j4 d0 d1 d2 d3
      obtain ⟨⟨c0, c1, c2, c3, c4⟩, ⟨f0, f1, f2, f3, f4⟩, hz⟩ := HSA.out.box.facts
      obtain ⟨⟨e0, e1, e2, e3, e4⟩, ⟨j0, j1, j2, j3, j4⟩, hz2⟩ := HSA.out.res.facts
      obtain ⟨⟨d0, d1, d2, d3⟩, hz3⟩ := HSA.out.ent.facts
      go_wp2_with fail
      go_quiet (fail)
      obtain ⟨wB, hw9⟩ : ∃ wz, wA.drewN nq = wz := ⟨_, rfl⟩
      have HSB := Lib.hid (HSA.out.drewN nq)
      have HSBB := Lib.hid (below_drewN (Below.refl wA.heap.size wA) nq)
      rw [hw9] at HSB HSBB ⊢
      clear hw9
      clear c0 c1 c2 c3 c4 f0 f1 f2 f3 f4 e0 e1 e2 e3 e4 j0 j1 j2 j3 j4 d0 d1 d2 d3
      obtain ⟨⟨c0, c1, c2, c3, c4⟩, ⟨f0, f1, f2, f3, f4⟩, hz⟩ := HSB.out.box.facts
      obtain ⟨⟨e0, e1, e2, e3, e4⟩, ⟨j0, j1, j2, j3, j4⟩, hz2⟩ := HSB.out.res.facts
      obtain ⟨⟨d0, d1, d2, d3⟩, hz3⟩ := HSB.out.ent.facts
      have HU1 := Lib.hid (HRS.out.aside.below HSB.out.bel)
      have HBZ := Lib.hid HSB.out.bel.size
      have hkec : l.length ≤ ec := by omega
      have hbz9 := HSB.out.bel.size
      go_upto_region 6 with fail
      go_cut [6] (fun s6 wx => ∃ a3 q3, s6 = .slice a3 (l.length + 1) q3 ∧ OwnWin wx wB.heap.size 91 4 (.slice a3 (l.length + 1) q3) (l.length + 1) ((l.take l.length).flatMap ecells ++ [.int .i64 n, .int .i64 pk, .int .i64 pt, .string ⟨pv.toArray⟩]) ∧ Below wB.heap.size wB wx)
      case first =>
        go_region_law
            ((first
              | (refine step_appw tyREs (by rfl) _ _ (by rfl) wB.heap.size (.slice (some ⟨wB.heap.size, 0, none⟩) 0 0) 0 [] (by rfl) (own_empty (heap_alloc_new wB _) (Nat.le_refl _)).drew (by first | (simp; done) | (simp; omega)) (.slice ea l.length ec) l.length ((l.take l.length).flatMap ecells) (by rfl) ((HU1.out.alloc _).drew.pre ecells_len (by decide) rfl (Nat.le_refl _)) (by rw [flat_len ecells_len, List.length_take, Nat.min_eq_left (Nat.le_refl _)]) (ecells_one _) (by omega) ?_; intro v2 w2 hown2 hgrow2 hlies2; rw [Nat.zero_add, List.nil_append] at hown2; obtain ⟨a2, q2, rfl, hq2⟩ := hown2.form; have hb2 : Below wB.heap.size wB w2 := below_grown ((Below.refl wB.heap.size wB).alloc (Nat.le_refl _) _).drew hgrow2 (by first | (simp; done) | (simp; omega)) (fun q hq => by simp [Value.ownBlock] at hq; omega); have hs2 := hb2.size; obtain ⟨⟨p0, p1, p2, p3⟩, _⟩ := (HSB.out.older hb2).ent.facts)
              | (refine step_appw tyREs (by rfl) _ _ (by rfl) wB.heap.size (.slice (some ⟨wB.heap.size, 0, none⟩) 0 0) 0 [] (by rfl) ((own_empty (heap_alloc_new wB _) (Nat.le_refl _)).alloc _).drew (by first | (simp; done) | (simp; omega)) (.slice ea l.length ec) l.length ((l.take l.length).flatMap ecells) (by rfl) (((HU1.out.alloc _).alloc _).drew.pre ecells_len (by decide) rfl (Nat.le_refl _)) (by rw [flat_len ecells_len, List.length_take, Nat.min_eq_left (Nat.le_refl _)]) (ecells_one _) (by omega) ?_; intro v2 w2 hown2 hgrow2 hlies2; rw [Nat.zero_add, List.nil_append] at hown2; obtain ⟨a2, q2, rfl, hq2⟩ := hown2.form; have hb2 : Below wB.heap.size wB w2 := below_grown (((Below.refl wB.heap.size wB).alloc (Nat.le_refl _) _).alloc (by first | (simp; done) | (simp; omega)) _).drew hgrow2 (by first | (simp; done) | (simp; omega)) (fun q hq => by simp [Value.ownBlock] at hq; omega); have hs2 := hb2.size; obtain ⟨⟨p0, p1, p2, p3⟩, _⟩ := (HSB.out.older hb2).ent.facts; have hP : w2.heap[wB.heap.size + 1]? = some (.cells #[.int .i64 n, .int .i64 pk, .int .i64 pt, .string ⟨pv.toArray⟩] 91 (0, 0)) := (hgrow2.block _ (by first | (simp; done) | (simp; omega)) (by simp [Value.ownBlock])).trans (heap_next wB _ _))
              | (refine step_appw tyREs (by rfl) _ _ (by rfl) wB.heap.size (.slice (some ⟨wB.heap.size + 1, 0, none⟩) 0 0) 0 [] (by rfl) (own_empty (heap_alloc_next wB _ _) (by omega)).drew (by first | (simp; done) | (simp; omega)) (.slice ea l.length ec) l.length ((l.take l.length).flatMap ecells) (by rfl) (((HU1.out.alloc _).alloc _).drew.pre ecells_len (by decide) rfl (Nat.le_refl _)) (by rw [flat_len ecells_len, List.length_take, Nat.min_eq_left (Nat.le_refl _)]) (ecells_one _) (by omega) ?_; intro v2 w2 hown2 hgrow2 hlies2; rw [Nat.zero_add, List.nil_append] at hown2; obtain ⟨a2, q2, rfl, hq2⟩ := hown2.form; have hb2 : Below wB.heap.size wB w2 := below_grown (((Below.refl wB.heap.size wB).alloc (Nat.le_refl _) _).alloc (by first | (simp; done) | (simp; omega)) _).drew hgrow2 (by first | (simp; done) | (simp; omega)) (fun q hq => by simp [Value.ownBlock] at hq; omega); have hs2 := hb2.size; obtain ⟨⟨p0, p1, p2, p3⟩, _⟩ := (HSB.out.older hb2).ent.facts; have hP : w2.heap[wB.heap.size]? = some (.cells #[.int .i64 n, .int .i64 pk, .int .i64 pt, .string ⟨pv.toArray⟩] 91 (0, 0)) := (hgrow2.block _ (by first | omega | (simp; omega)) (by simp [Value.ownBlock])).trans (heap_first wB _ _))
              | (refine step_appw tyREs (by rfl) _ _ (by rfl) wB.heap.size (.slice a2 l.length q2) l.length ((l.take l.length).flatMap ecells) (by rfl) (hown2.alloc _) (by first | omega | (simp; omega)) (.slice (some ⟨w2.heap.size, 0, none⟩) 1 1) 1 [.int .i64 n, .int .i64 pk, .int .i64 pt, .string ⟨pv.toArray⟩] (by rfl) (SrcAt.one (heap_alloc_new w2 _)) (by rfl) (by simp [Value.oneCell']) (by omega) ?_; intro v3 w3 hown3 hgrow3 hlies3; obtain ⟨a3, q3, rfl, hq3⟩ := hown3.form; have hb3 : Below wB.heap.size wB w3 := below_grown (hb2.alloc (by omega) _) hgrow3 (by first | omega | (simp; omega)) (fun q hq => (hown2.lt q hq).1))
              | (refine step_appw tyREs (by rfl) _ _ (by rfl) wB.heap.size (.slice a2 l.length q2) l.length ((l.take l.length).flatMap ecells) (by rfl) hown2 (by first | omega | (simp; omega)) (.slice (some ⟨wB.heap.size + 1, 0, none⟩) 1 1) 1 [.int .i64 n, .int .i64 pk, .int .i64 pt, .string ⟨pv.toArray⟩] (by rfl) (SrcAt.one hP) (by rfl) (by simp [Value.oneCell']) (by omega) ?_; intro v3 w3 hown3 hgrow3 hlies3; obtain ⟨a3, q3, rfl, hq3⟩ := hown3.form; have hb3 : Below wB.heap.size wB w3 := below_grown hb2 hgrow3 (by first | omega | (simp; omega)) (fun q hq => (hown2.lt q hq).1))
              | (refine step_appw tyREs (by rfl) _ _ (by rfl) wB.heap.size (.slice a2 l.length q2) l.length ((l.take l.length).flatMap ecells) (by rfl) hown2 (by first | omega | (simp; omega)) (.slice (some ⟨wB.heap.size, 0, none⟩) 1 1) 1 [.int .i64 n, .int .i64 pk, .int .i64 pt, .string ⟨pv.toArray⟩] (by rfl) (SrcAt.one hP) (by rfl) (by simp [Value.oneCell']) (by omega) ?_; intro v3 w3 hown3 hgrow3 hlies3; obtain ⟨a3, q3, rfl, hq3⟩ := hown3.form; have hb3 : Below wB.heap.size wB w3 := below_grown hb2 hgrow3 (by first | omega | (simp; omega)) (fun q hq => (hown2.lt q hq).1))))
        all_goals
          go_wp2
          go_meet
          exact ⟨a3, q3, rfl, hown3, hb3⟩
      case rest =>
        obtain ⟨a3, q3, rfl, hown, hbx⟩ := hcut
        have HO := Lib.hid hown
        have HBX := Lib.hid hbx
        have HS3 := Lib.hid (HSB.out.older hbx)
        have hkq : l.length + 1 ≤ q3 := by obtain ⟨_, _, e, h⟩ := hown.form; cases e; exact h
        clear hown hbx c0 c1 c2 c3 c4 f0 f1 f2 f3 f4 e0 e1 e2 e3 e4 j0 j1 j2 j3 j4 d0 d1 d2 d3
        obtain ⟨⟨c0, c1, c2, c3, c4⟩, ⟨f0, f1, f2, f3, f4⟩, hz6⟩ := HS3.out.box.facts
        have hle0 : l.length ≤ ec := hec
        cases ea with
        | none =>
          have hl0 : l = [] := by
            rcases HRS.out.aside with ⟨h, _⟩ | ⟨b, o, c, e, _⟩
            · exact h
            · simp at e
          have hec0 : ec = 0 := by
            rcases HRS.out.aside with ⟨_, h | ⟨a, c, h⟩⟩ | ⟨b, o, c, e, _⟩
            · simp only [Value.slice.injEq] at h; exact h.2.2
            · simp at h
            · simp at e
          have hll : l.length = 0 := by rw [hl0]; rfl
          subst hl0 hec0
          simp only [List.length_nil] at c0 c1 c2 c3 c4
          go_upto_region 7 with fail
          go_wp2_with (at_builtin; refine wpList_appw tyREs (by rfl) _ _ (by rfl) wB.heap.size (.slice a3 (([] : List (Int × Pg)).length + 1) q3) (([] : List (Int × Pg)).length + 1) _ (by rfl) HO.out HBX.out.size _ 0 [] (by rfl) (.inl ⟨rfl, rfl, rfl⟩) (by rfl) (fun u hu => by cases hu) (by omega) ?_; intro v4 w4 hown4 hgrow4 hlies4; obtain ⟨a4, q4, rfl, hq4⟩ := hown4.form; have HB4 := Lib.hid (below_grown HBX.out hgrow4 HBX.out.size (fun q hq => (HO.out.lt q hq).1)); have HO4 := Lib.hid hown4; have HS4 := Lib.hid (HSB.out.older HB4.out); clear hown4 hgrow4 hlies4 c0 c1 c2 c3 c4 f0 f1 f2 f3 f4; obtain ⟨⟨c0, c1, c2, c3, c4⟩, ⟨f0, f1, f2, f3, f4⟩, hz⟩ := HS4.out.box.facts; obtain ⟨⟨e0, e1, e2, e3, e4⟩, ⟨j0, j1, j2, j3, j4⟩, hz2⟩ := HS4.out.res.facts)
          have HRF := Lib.hid (aside_ref (m := (min (1 : Int) (g.win : Int)).toNat) (l2 := ([] : List (Int × Pg)).take ([] : List (Int × Pg)).length ++ (n, Pg.mk pk pt pv) :: ([] : List (Int × Pg)).drop ([] : List (Int × Pg)).length) (N := ([] : List (Int × Pg)).length + 1 + 0) (by simp only [List.length_append, List.length_take, List.length_cons, List.length_drop]; omega) (by rw [flat_ins, List.drop_length, List.flatMap_nil]; exact HO4.out) (by simp only [List.length_nil]; omega) hw1 (by omega) (HRS.out.below (HSB.out.older HB4.out).bel))
          have HG4 := Lib.hid (HS4.out.box)
          have HZ4 := Lib.hid (HS4.out.res.other (q := w.heap.size) (by omega) 4 (.slice a4 (min (1 : Int) (g.win : Int)).toNat q4))
          obtain ⟨⟨z0, z1, z2, z3, z4⟩, _, _⟩ := (HZ4.out.store (.int .i64 g.applied) (.int .i64 g.floor) (.int .i64 g.win) (.slice ua g.kept.length uc) (.slice a4 (min (1 : Int) (g.win : Int)).toNat q4)).facts
          refine bodyPost_ret (v := .agg #[.int .i64 g.applied, .int .i64 g.floor, .int .i64 g.win, .slice ua g.kept.length uc, .slice a4 (min (1 : Int) (g.win : Int)).toNat q4]) (by simp [results, Tryz.results41, go_sem, z0, z1, z2, z3, z4]) rfl ?_
          rw [HPA.out] at HRF
          have h9 := (HRF.out.set HG4.out 4 (.slice a4 (min (1 : Int) (g.win : Int)).toNat q4)).store HZ4.out (.int .i64 g.applied) (.int .i64 g.floor) (.int .i64 g.win) (.slice ua g.kept.length uc) (.slice a4 (min (1 : Int) (g.win : Int)).toNat q4)
          exact ⟨_, _, by rw [← HPA.out]; rfl, h9, below_store (HS4.out.bel.setCell (p := ⟨w.heap.size, 4, none⟩) (Nat.le_refl _) _) (by omega) _ _ _ _ _⟩
        | some a =>
          obtain ⟨ab, ao, asp⟩ := a
          by_cases hck : ec = l.length
          · subst hck
            go_upto_region 7 with fail
            go_wp2_with (at_builtin; refine wpList_appw tyREs (by rfl) _ _ (by rfl) wB.heap.size (.slice a3 (l.length + 1) q3) (l.length + 1) _ (by rfl) HO.out HBX.out.size _ 0 [] (by rfl) (srcAt_zero _ _ _) (by rfl) (fun u hu => by cases hu) (by omega) ?_; intro v4 w4 hown4 hgrow4 hlies4; obtain ⟨a4, q4, rfl, hq4⟩ := hown4.form; have HB4 := Lib.hid (below_grown HBX.out hgrow4 HBX.out.size (fun q hq => (HO.out.lt q hq).1)); have HO4 := Lib.hid hown4; have HS4 := Lib.hid (HSB.out.older HB4.out); clear hown4 hgrow4 hlies4 c0 c1 c2 c3 c4 f0 f1 f2 f3 f4; obtain ⟨⟨c0, c1, c2, c3, c4⟩, ⟨f0, f1, f2, f3, f4⟩, hz⟩ := HS4.out.box.facts; obtain ⟨⟨e0, e1, e2, e3, e4⟩, ⟨j0, j1, j2, j3, j4⟩, hz2⟩ := HS4.out.res.facts)
            have HRF := Lib.hid (aside_ref (m := (min ((l.length : Int) + 1) (g.win : Int)).toNat) (l2 := l.take l.length ++ (n, Pg.mk pk pt pv) :: l.drop l.length) (N := l.length + 1 + 0) (by simp only [List.length_append, List.length_take, List.length_cons, List.length_drop]; omega) (by rw [flat_ins, List.drop_length, List.flatMap_nil]; exact HO4.out) (by omega) hw1 (by omega) (HRS.out.below (HSB.out.older HB4.out).bel))
            have HG4 := Lib.hid (HS4.out.box)
            have HZ4 := Lib.hid (HS4.out.res.other (q := w.heap.size) (by omega) 4 (.slice a4 (min ((l.length : Int) + 1) (g.win : Int)).toNat q4))
            obtain ⟨⟨z0, z1, z2, z3, z4⟩, _, _⟩ := (HZ4.out.store (.int .i64 g.applied) (.int .i64 g.floor) (.int .i64 g.win) (.slice ua g.kept.length uc) (.slice a4 (min ((l.length : Int) + 1) (g.win : Int)).toNat q4)).facts
            refine bodyPost_ret (v := .agg #[.int .i64 g.applied, .int .i64 g.floor, .int .i64 g.win, .slice ua g.kept.length uc, .slice a4 (min ((l.length : Int) + 1) (g.win : Int)).toNat q4]) (by simp [results, Tryz.results41, go_sem, z0, z1, z2, z3, z4]) rfl ?_
            rw [HPA.out] at HRF
            have h9 := (HRF.out.set HG4.out 4 (.slice a4 (min ((l.length : Int) + 1) (g.win : Int)).toNat q4)).store HZ4.out (.int .i64 g.applied) (.int .i64 g.floor) (.int .i64 g.win) (.slice ua g.kept.length uc) (.slice a4 (min ((l.length : Int) + 1) (g.win : Int)).toNat q4)
            exact ⟨_, _, by rw [← HPA.out]; rfl, h9, below_store (HS4.out.bel.setCell (p := ⟨w.heap.size, 4, none⟩) (Nat.le_refl _) _) (by omega) _ _ _ _ _⟩
          · have hne : ¬ l.length = ec := fun e => hck e.symm
            go_upto_region 7 with fail
            go_wp2_with (at_builtin; refine wpList_appw tyREs (by rfl) _ _ (by rfl) wB.heap.size (.slice a3 (l.length + 1) q3) (l.length + 1) _ (by rfl) HO.out HBX.out.size _ 0 [] (by rfl) (srcAt_zero _ _ _) (by rfl) (fun u hu => by cases hu) (by omega) ?_; intro v4 w4 hown4 hgrow4 hlies4; obtain ⟨a4, q4, rfl, hq4⟩ := hown4.form; have HB4 := Lib.hid (below_grown HBX.out hgrow4 HBX.out.size (fun q hq => (HO.out.lt q hq).1)); have HO4 := Lib.hid hown4; have HS4 := Lib.hid (HSB.out.older HB4.out); clear hown4 hgrow4 hlies4 c0 c1 c2 c3 c4 f0 f1 f2 f3 f4; obtain ⟨⟨c0, c1, c2, c3, c4⟩, ⟨f0, f1, f2, f3, f4⟩, hz⟩ := HS4.out.box.facts; obtain ⟨⟨e0, e1, e2, e3, e4⟩, ⟨j0, j1, j2, j3, j4⟩, hz2⟩ := HS4.out.res.facts)
            have HRF := Lib.hid (aside_ref (m := (min ((l.length : Int) + 1) (g.win : Int)).toNat) (l2 := l.take l.length ++ (n, Pg.mk pk pt pv) :: l.drop l.length) (N := l.length + 1 + 0) (by simp only [List.length_append, List.length_take, List.length_cons, List.length_drop]; omega) (by rw [flat_ins, List.drop_length, List.flatMap_nil]; exact HO4.out) (by omega) hw1 (by omega) (HRS.out.below (HSB.out.older HB4.out).bel))
            have HG4 := Lib.hid (HS4.out.box)
            have HZ4 := Lib.hid (HS4.out.res.other (q := w.heap.size) (by omega) 4 (.slice a4 (min ((l.length : Int) + 1) (g.win : Int)).toNat q4))
            obtain ⟨⟨z0, z1, z2, z3, z4⟩, _, _⟩ := (HZ4.out.store (.int .i64 g.applied) (.int .i64 g.floor) (.int .i64 g.win) (.slice ua g.kept.length uc) (.slice a4 (min ((l.length : Int) + 1) (g.win : Int)).toNat q4)).facts
            refine bodyPost_ret (v := .agg #[.int .i64 g.applied, .int .i64 g.floor, .int .i64 g.win, .slice ua g.kept.length uc, .slice a4 (min ((l.length : Int) + 1) (g.win : Int)).toNat q4]) (by simp [results, Tryz.results41, go_sem, z0, z1, z2, z3, z4]) rfl ?_
            rw [HPA.out] at HRF
            have h9 := (HRF.out.set HG4.out 4 (.slice a4 (min ((l.length : Int) + 1) (g.win : Int)).toNat q4)).store HZ4.out (.int .i64 g.applied) (.int .i64 g.floor) (.int .i64 g.win) (.slice ua g.kept.length uc) (.slice a4 (min ((l.length : Int) + 1) (g.win : Int)).toNat q4)
            exact ⟨_, _, by rw [← HPA.out]; rfl, h9, below_store (HS4.out.bel.setCell (p := ⟨w.heap.size, 4, none⟩) (Nat.le_refl _) _) (by omega) _ _ _ _ _⟩
end A1
end Go.Proofs.YtnppicekfjdefaaGreatDoor
