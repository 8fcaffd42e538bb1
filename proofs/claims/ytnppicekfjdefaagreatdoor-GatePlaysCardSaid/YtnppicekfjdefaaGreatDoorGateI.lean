/- Contract: the gate's Jump. Conditions: the gate's own bounds. -/
import Derived.Test.YtnppicekfjdefaaGreatDoorGateF
namespace Go.Proofs.YtnppicekfjdefaaGreatDoor
open Go.RowKit Pl Ad Go.Maps
attribute [local go_sem] ba_get ba_append ba_extract_end ba_extract_zero ba_extract
set_option maxRecDepth 100000
set_option maxHeartbeats 8000000
set_option linter.unusedVariables false
set_option linter.unusedSimpArgs false
namespace A1
theorem follow_filter : ∀ (l : List (Int × Pg)) (g : GateM), GateM.Asc l → g.follow l = g.follow (l.filter fun e => decide (g.applied < e.1))
  | [], _, _ => rfl
  | (k, p) :: r, g, ha => by
    have hc := List.pairwise_cons.1 ha
    by_cases hk : k ≤ g.applied
    · rw [GateM.follow, if_pos hk, List.filter_cons, if_neg (by simp; omega)]
      exact follow_filter r g hc.2
    · have hall : ((k, p) :: r).filter (fun e => decide (g.applied < e.1)) = (k, p) :: r := by
        rw [List.filter_eq_self]
        intro e he
        rcases List.mem_cons.1 he with rfl | he
        · simp; omega
        · have := hc.1 e he; simp at this ⊢; omega
      rw [hall]
/-- What is left of the entries aside while the keys are gone through. -/
def keptA (n : Int) (l : List (Int × Pg)) (left : Lit → Bool) : List (Int × Pg) := l.filter fun e => decide (n < e.1) || left (.int .i64 e.1)
theorem keptA_start (n : Int) (l : List (Int × Pg)) : keptA n l (Maps.has (mapD l)) = l := by
  unfold keptA
  rw [List.filter_eq_self]
  intro e he
  rw [mapD_has]
  simp only [GateM.hasK, Bool.or_eq_true, List.any_eq_true]
  exact .inr ⟨e, he, by simp⟩
theorem keptA_end {n : Int} {l : List (Int × Pg)} {left : Lit → Bool} (h : ∀ kl, left kl = false) : keptA n l left = l.filter fun e => decide (n < e.1) := by
  unfold keptA
  congr 1
  funext e
  rw [h, Bool.or_false]
theorem keptA_stay {n k : Int} {l : List (Int × Pg)} {left : Lit → Bool} (hk : n < k) : keptA n l (fun z => left z && !z.sameKey (.int .i64 k)) = keptA n l left := by
  unfold keptA
  apply List.filter_congr
  intro e _
  show (decide (n < e.1) || (left (.int .i64 e.1) && !(Lit.int .i64 e.1).sameKey (.int .i64 k))) = (decide (n < e.1) || left (.int .i64 e.1))
  rw [same_i]
  by_cases he : e.1 = k
  · rw [decide_eq_true (show n < e.1 by omega)]; rfl
  · rw [beq_eq_false_iff_ne.2 he]; simp
theorem keptA_drop {n k : Int} {l : List (Int × Pg)} {left : Lit → Bool} (hk : k ≤ n) : keptA n l (fun z => left z && !z.sameKey (.int .i64 k)) = (keptA n l left).filter fun e => !(e.1 == k) := by
  unfold keptA
  rw [List.filter_filter]
  apply List.filter_congr
  intro e _
  show (decide (n < e.1) || (left (.int .i64 e.1) && !(Lit.int .i64 e.1).sameKey (.int .i64 k))) = ((!(e.1 == k)) && (decide (n < e.1) || left (.int .i64 e.1)))
  rw [same_i]
  by_cases he : e.1 = k
  · rw [decide_eq_false (show ¬ n < e.1 by omega), beq_iff_eq.2 he]; simp
  · rw [beq_eq_false_iff_ne.2 he]; simp
theorem GateAt.jumped {w : World} {B R M : Nat} {v : Value} {g : GateM} {l : List (Int × Pg)} (h : GateAt w B R M v g l) (n : Int) : GateAt (((w.setCell ⟨R, 1, none⟩ (.int .i64 n)).setCell ⟨R, 2, none⟩ (.int .i64 n)).setCell ⟨R, 3, none⟩ (.slice none 0 0)) B R M (.slice none 0 0) ⟨g.win, n, n, [], []⟩ l := by
  have ht : Touch (fun k => k = R) w (((w.setCell ⟨R, 1, none⟩ (.int .i64 n)).setCell ⟨R, 2, none⟩ (.int .i64 n)).setCell ⟨R, 3, none⟩ (.slice none 0 0)) := (((Touch.refl (fun k => k = R) w).setCell (a := ⟨R, 1, none⟩) rfl _).setCell (a := ⟨R, 2, none⟩) rfl _).setCell (a := ⟨R, 3, none⟩) rfl _
  exact ⟨h.hR, h.hM, gbox_set3 (gbox_set2 (gbox_set1 h.box n) n) _, OwnWin.nil _ _ _ _, map_touch h.map ht (fun e => h.neM e.symm)⟩
theorem ggoes_jumped {w : World} {R M : Nat} {v : Value} (n : Int) : GGoes w (((w.setCell ⟨R, 1, none⟩ (.int .i64 n)).setCell ⟨R, 2, none⟩ (.int .i64 n)).setCell ⟨R, 3, none⟩ (.slice none 0 0)) R M v (.slice none 0 0) :=
  ⟨(((Touch.refl _ w).setCell (a := ⟨R, 1, none⟩) (.inl rfl) _).setCell (a := ⟨R, 2, none⟩) (.inl rfl) _).setCell (a := ⟨R, 3, none⟩) (.inl rfl) _, fun q hq => by cases hq⟩
theorem GateAt.iter {w w' : World} {B R M r : Nat} {g : GateM} {l : List (Int × Pg)} (h : GateAt w B R M (.slice none 0 0) g l) (hk : g.kept = []) (hg : w.grownBy w' (some r)) (h1 : R ≠ r) (h2 : M ≠ r) : GateAt w' B R M (.slice none 0 0) g l :=
  ⟨h.hR, h.hM, (hg.block R h.box.facts.2.2 (by simpa using h1)).trans h.box, by rw [hk]; exact OwnWin.nil _ _ _ _, h.map.kept hg (by simpa using h2)⟩
theorem GGoes.iter {w w1 w' : World} {R M r : Nat} {v v1 : Value} (h : GGoes w w1 R M v v1) (hg : w1.grownBy w' (some r)) (hr : w.heap.size ≤ r) : GGoes w w' R M v v1 :=
  ⟨h.touch.trans' (Touch.of_grown (S := fun k => k = r) hg (fun k hk => by cases hk; rfl)) (fun i hi e => by subst e; omega), h.lies⟩
theorem jump_near {g : GateM} (ho : g.Ok) {n : Int} (h0 : 0 ≤ n) (h1 : n ≤ 1099511627776) : GateM.Near ⟨g.win, n, n, [], []⟩ (g.aside.filter fun e => decide (n < e.1)) :=
  near_sub (g := ⟨g.win, n, n, [], []⟩) (l := g.aside) ⟨ho.win1, ho.win2, h0, h1, by simp, by simp, ho.asc, (fun e he => (ho.far e he).2), ho.few, (fun e he => by cases he), ho.sizeA⟩ List.filter_sublist
theorem jump_eq {g : GateM} (ho : g.Ok) {n : Int} (h1 : g.applied < n) (h2 : n ≤ 1099511627776) : g.jump n = GateM.follow ⟨g.win, n, n, [], []⟩ (g.aside.filter fun e => decide (n < e.1)) := by
  unfold GateM.jump
  rw [if_neg (by omega)]
  exact follow_filter g.aside ⟨g.win, n, n, [], []⟩ ho.asc
theorem gateJump_no (B R M : Nat) (v : Value) (g : GateM) (n : Int) (w : World) (h : GateAt w B R M v g g.aside) (hn : n ≤ g.applied ∨ 1099511627776 < n) :
    Calls Tryz.prog 23 #[ptrV R, .int .i64 n] w fun e w' => e = .returned (.int .i64 g.applied) ∧ w = w' := by
  obtain ⟨⟨c0, c1, c2, c3, c4⟩, _, hz⟩ := h.box.facts
  clear h
  by_cases h1 : n ≤ g.applied
  · go_enter Tryz.func23, Tryz.ntmps23
    go_wp2
    go_ret
    exact ⟨rfl, rfl⟩
  · have h2 : 1099511627776 < n := by omega
    go_enter Tryz.func23, Tryz.ntmps23
    go_wp2
    go_ret
    exact ⟨rfl, rfl⟩
theorem gateJump_go (B R M : Nat) (v : Value) (g : GateM) (n : Int) (w : World) (h : GateAt w B R M v g g.aside) (ho : g.Ok) (hB : B ≤ w.heap.size) (hn : g.applied < n) (hn2 : n ≤ 1099511627776) :
    Calls Tryz.prog 23 #[ptrV R, .int .i64 n] w fun e w' => ∃ v', e = .returned (.int .i64 (g.jump n).applied) ∧ GateAt w' B R M v' (g.jump n) (g.jump n).aside ∧ GGoes w w' R M v v' := by
  have hap : 0 ≤ g.applied := by have := ho.lo; have := ho.len; omega
  have HG := Lib.hid h
  have HO := Lib.hid ho
  obtain ⟨⟨c0, c1, c2, c3, c4⟩, ⟨f0, f1, f2, f3, f4⟩, hz⟩ := h.box.facts
  have h1 : ¬ n ≤ g.applied := by omega
  have h2 : ¬ 1099511627776 < n := by omega
  clear h ho
  go_enter Tryz.func23, Tryz.ntmps23
  have HJ := Lib.hid (HG.out.jumped n)
  have HGJ := Lib.hid (ggoes_jumped (w := w) (R := R) (M := M) (v := v) n)
  go_wp2_with (first
    | (at_range; refine wpList_range_own _ rfl _ 61 rfl 3 56 keyedI Tryz.underlying61 pgElem M _ _ rfl HJ.out.map ?_; intro w4 hrg4 hg4 hs4)
    | go_in)
  have hsz : (((w.setCell ⟨R, 1, none⟩ (.int .i64 n)).setCell ⟨R, 2, none⟩ (.int .i64 n)).setCell ⟨R, 3, none⟩ (.slice none 0 0)).heap.size = w.heap.size := by simp
  rw [hsz] at hrg4
  clear hsz
  have HG4 : Hid (World.grownBy _ w4 none) := Lib.hid hg4
  have HR4 : Hid (w4.ranges Tryz.prog 3 pgElem M w.heap.size g.aside.length (mapD (keptA n g.aside (Maps.has (mapD g.aside)))) (Maps.has (mapD g.aside)) _) := Lib.hid (by rw [keptA_start]; exact hrg4)
  have HFAR := Lib.hid (fun e he => (HO.out.far e he))
  clear hg4 hrg4 hs4 c0 c1 c2 c3 c4 f0 f1 f2 f3 f4
  go_loopw [5] (fun _ wr => ∃ (left : Lit → Bool) (cnt : Nat), wr.ranges Tryz.prog 3 pgElem M w.heap.size g.aside.length (mapD (keptA n g.aside left)) left cnt ∧ Hid (GateAt wr B R M (.slice none 0 0) ⟨g.win, n, n, [], []⟩ (keptA n g.aside left)) ∧ Hid (GGoes w wr R M v (.slice none 0 0)))
    (fun _ wr => wr.rangeLeft M w.heap.size)
  case atStart => exact ⟨_, _, HR4.out, Lib.hid (by rw [keptA_start]; exact HJ.out.older (below_grownNone HG4.out)), Lib.hid (HGJ.out.older (below_grownNone HG4.out))⟩
  case round =>
    obtain ⟨left, cnt, hrg, HGA, HGG⟩ := hrel
    have HRG := Lib.hid hrg
    obtain ⟨⟨x0, x1, x2, x3, x4⟩, _, hzr⟩ := HGA.out.box.facts
    clear hrg HG4 HR4
    go_wp2_with (first
      | (at_next; refine wpList_next_ranges _ rfl _ rfl 3 keyedI pgElem (Value.int .i64) pgV (fun key kl hk => by obtain ⟨x, rfl, _⟩ := Maps.keyOf_int_inv Tryz.underlying3 hk; exact ⟨x, rfl⟩) (fun v y hv => by obtain ⟨p, rfl, _⟩ := pgElem_inv hv; exact ⟨p, rfl⟩) M w.heap.size _ _ _ _ rfl HRG.out ?_ ?_)
      | go_in)
    · intro _ hl0
      have hke := keptA_end (n := n) (l := g.aside) hl0
      obtain ⟨l', hl'⟩ : ∃ l', g.aside.filter (fun e => decide (n < e.1)) = l' := ⟨_, rfl⟩
      have hnear := jump_near HO.out (n := n) (by omega) hn2
      have hje := jump_eq HO.out (n := n) hn hn2
      have hlow : ∀ e ∈ l', n + 1 ≤ e.1 := fun e he => by
        rw [← hl'] at he
        have := (List.mem_filter.1 he).2
        simp at this
        omega
      rw [hl'] at hke hnear hje
      have HA1 : Hid (GateAt wr B R M (.slice none 0 0) ⟨g.win, n, n, [], []⟩ l') := Lib.hid (by have h := HGA.out; rw [hke] at h; exact h)
      have HJE := Lib.hid hje
      have hlk := lookG HA1.out.map (k := n + 1) (by omega) (by omega)
      clear hke hje hl' hl0
      rcases next_head hnear.asc hlow with ⟨i1, i2⟩ | ⟨p, r, i1, i2, i3, i4, i5⟩
      · obtain ⟨q, hq⟩ : ∃ q, atK (n + 1) l' = q := ⟨_, rfl⟩
        rw [hq, i1] at hlk
        obtain ⟨qk, qt, qv⟩ := q
        simp only [pgV] at hlk
        have HF := Lib.hid (show g.jump n = GateM.withA ⟨g.win, n, n, [], []⟩ l' by rw [HJE.out, follow_far i2])
        clear hq hnear hlow i1 i2
        go_wp2_with fail
        go_ret
        rw [HF.out]
        exact ⟨_, rfl, (HA1.out.older ((Below.refl _ _).alloc (Nat.le_refl _) _)).gm rfl rfl rfl rfl, HGG.out.older ((Below.refl _ _).alloc (Nat.le_refl _) _)⟩
      · rw [i3, i2] at hlk
        obtain ⟨pk, pt, pv⟩ := p
        simp only [pgV] at hlk
        have hm : (n + 1, (⟨pk, pt, pv⟩ : Pg)) ∈ l' := by rw [i1]; simp
        have hps := hnear.sizeA _ hm
        have hph := hnear.hiA _ hm
        simp only at hps hph
        have HI := Lib.hid (show AddI (g.jump n) true ⟨g.win, n, n, [], []⟩ l' ⟨pk, pt, pv⟩ from .go _ _ _ hnear hps hph hlow (by rw [i4, HJE.out, i1, GateM.follow, if_neg (by simp only; omega), if_pos rfl]))
        have hal := (Below.refl wr.heap.size wr).alloc (Nat.le_refl _) (.cells #[.int .i64 pk, .int .i64 pt, .string ⟨pv.toArray⟩] 56)
        have HA2 := Lib.hid (HA1.out.older hal)
        have HG2 := Lib.hid (HGG.out.older hal)
        have hBr : B ≤ wr.heap.size := Nat.le_trans hB HGG.out.touch.size
        clear hnear hlow i1 i2 i3 i4 i5 hm hps hph hal
        go_wp2_with (go_at_call 36; refine (add_any (B := B) (p := ⟨pk, pt, pv⟩) (by simp; omega) _ HA2.out HI.out).mono ?_; rintro e w6 ⟨v6, rfl, hg6, hs6⟩; have HA6 := Lib.hid hg6; have HS6 := Lib.hid hs6; clear hg6 hs6 x0 x1 x2 x3 x4; obtain ⟨⟨x0, x1, x2, x3, x4⟩, _, hz6⟩ := HA6.out.box.facts)
        go_ret
        exact ⟨v6, rfl, HA6.out, HG2.out.trans HS6.out⟩
    · intro x p kl y yps w5 cnt1 hkey hlk hv hat hrg1 hlt hg1 hs1 hen
      obtain ⟨x', ex, rfl, hwx⟩ := Maps.keyOf_int_inv Tryz.underlying3 hkey
      cases ex
      have hin := key_in hat
      have hx : g.applied + 1 < x ∧ x ≤ 1099511627776 := by
        obtain ⟨e, he, rfl⟩ := hin
        exact HO.out.far e (List.mem_filter.1 he).1
      have hx0 := hx.1
      have hx1 := hx.2
      have hMr := HRG.out.ne
      have hRz : R < w.heap.size := hz
      have HA5 := Lib.hid (HGA.out.iter rfl hg1 (by omega) (fun e => hMr e.symm))
      have HS5 := Lib.hid (HGG.out.iter hg1 (Nat.le_refl _))
      have HR1 := Lib.hid hrg1
      have HL1 := Lib.hid hlt
      have HEN := Lib.hid hen
      clear x0 x1 x2 x3 x4
      obtain ⟨⟨x0, x1, x2, x3, x4⟩, _, hzr1⟩ := HA5.out.box.facts
      clear hin hx hkey hlk hv hat hrg1 hlt hg1 hs1
      by_cases hle : x ≤ n
      · go_wp2_with (first
          | (at_delete; refine wpList_delete_ranges _ rfl _ _ 61 3 rfl 56 keyedI Tryz.underlying61 pgElem M w.heap.size _ _ _ _ rfl HR1.out (.int .i64 x) _ rfl (keyI (by omega) (by omega)) ?_; intro w6 cnt2 hrg2 hle2 hturn)
          | go_in)
        rw [Maps.strike_twice, mapD_del, ← keptA_drop hle] at hrg2
        have hm6 : w6.ownsMap Tryz.prog 3 pgElem M _ _ := hrg2.owns
        go_roundw
        case rel => exact ⟨_, ⟨cnt2, hrg2⟩, Lib.hid (HA5.out.mapset hm6 hturn), Lib.hid (HS5.out.turned hturn)⟩
        case measure => rw [hrg2.left_eq, HRG.out.left_eq]; have := HL1.out; omega
      · go_wp2
        go_roundw
        case rel => exact ⟨(fun z => left z && !z.sameKey (.int .i64 x)), cnt1, by rw [keptA_stay (k := x) (by omega)]; exact HR1.out, Lib.hid (by rw [keptA_stay (k := x) (by omega)]; exact HA5.out), HS5⟩
        case measure => rw [HR1.out.left_eq, HRG.out.left_eq]; exact HL1.out
theorem gateJump (B R M : Nat) (v : Value) (g : GateM) (n : Int) (w : World) (h : GateAt w B R M v g g.aside) (ho : g.Ok) (hB : B ≤ w.heap.size) :
    Calls Tryz.prog 23 #[ptrV R, .int .i64 n] w fun e w' => ∃ v', e = .returned (.int .i64 (g.jump n).applied) ∧ GateAt w' B R M v' (g.jump n) (g.jump n).aside ∧ GGoes w w' R M v v' := by
  by_cases hn : n ≤ g.applied ∨ 1099511627776 < n
  · refine (gateJump_no B R M v g n w h hn).mono fun e w' he => ?_
    obtain ⟨rfl, rfl⟩ := he
    rw [show g.jump n = g from if_pos hn]
    exact ⟨v, rfl, h, GGoes.of_below (Below.refl _ _)⟩
  · exact gateJump_go B R M v g n w h ho hB (by omega) (by omega)
end A1
end Go.Proofs.YtnppicekfjdefaaGreatDoor
