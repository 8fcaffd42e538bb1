/- Contract: the laws' is over the log of purges. Conditions: at most a million purges. -/
import Derived.Test.YtijjggbiljkalaaDoorPlogY
import Derived.Deep.DeepCutAuto
namespace Go.Proofs.YtijjggbiljkalaaDoor
open Go.RowKit Pl Ad
attribute [local go_sem] ba_get ba_append ba_extract_end ba_extract_zero ba_extract
set_option maxRecDepth 100000
set_option maxHeartbeats 8000000
set_option linter.unusedVariables false
set_option linter.unusedSimpArgs false
namespace A1
attribute [local go_sem] guard_pg eql_pg neq_pg
/-- A round's state. -/
structure IsS (w wr : World) (R : Nat) (v u : Value) (L : LogM) : Prop where
  bel : Below w.heap.size w wr
  log : LogAt wr 0 R v L
  ref : RefOwn wr 0 u L
  box : Box3 wr w.heap.size 51 u (.int .i64 L.dropped) (.int .i64 L.win)
theorem IsS.older {w w1 w2 : World} {R : Nat} {v u : Value} {L : LogM} (h : IsS w w1 R v u L) (hb : Below w1.heap.size w1 w2) : IsS w w2 R v u L := ⟨h.bel.trans (hb.mono h.bel.size), h.log.below hb, h.ref.older hb, h.box.older hb⟩

/-- A block that is none of these. -/
structure Off (w : World) (R : Nat) (v u : Value) (g : Nat) : Prop where
  log : R ≠ g
  own : ∀ q, v.ownBlock = some q → ¬ q = g
  ref : ∀ q, u.ownBlock = some q → ¬ q = g
  old : w.heap.size < g
theorem IsS.off {w wx : World} {R g : Nat} {v u : Value} {L : LogM} (h : IsS w wx R v u L) (hg : wx.heap.size ≤ g) : Off w R v u g := by
  have h1 := h.log.box.facts.2.2
  have h2 := h.box.facts.2.2
  exact ⟨by omega, fun q hq => by have := (h.log.own.lt q hq).2; omega, fun q hq => by have := (OwnWin.lt h.ref q hq).2; omega, by omega⟩
theorem IsS.set {w wr : World} {R g : Nat} {v u : Value} {L : LogM} (h : IsS w wr R v u L) (ho : Off w R v u g) (i : Nat) (x : Value) : IsS w (wr.setCell ⟨g, i, none⟩ x) R v u L := by
  have ht := touch_set1 wr g i x
  exact ⟨h.bel.setCell (p := ⟨g, i, none⟩) (Nat.le_of_lt ho.old) x, ⟨h.log.hR, box3_touch h.log.box ht ho.log, h.log.own.touch ht ho.own⟩, OwnWin.touch h.ref ht ho.ref, box3_touch h.box ht (by have := ho.old; omega)⟩
/-- The row that is blanked. -/
def ZRow (w : World) (e : Nat) (a : Option Addr) (n : Nat) : Prop := ∀ g o, a = some ⟨g, o, none⟩ → RowAt w g e (o + n * 3)
theorem ZRow.set {w : World} {e n g o : Nat} (h : ZRow w e (some ⟨g, o, none⟩) n) (i : Nat) (x : Value) : ZRow (w.setCell ⟨g, i, none⟩ x) e (some ⟨g, o, none⟩) n := fun g' o' e' => by
  cases e'
  exact (h g o rfl).set i x
theorem ZRow.of {w : World} {B e n c : Nat} {a : Option Addr} {xs : List Value} (h : OwnWin w B e 3 (.slice a n c) n xs) : ZRow w e a n := fun g o e' => by
  subst e'
  exact (OwnWin.row h).1
theorem since_len (L : LogM) (n : Int) : (L.since n).length ≤ L.all.length := by
  unfold LogM.since
  split
  · simp
  · simp
theorem getC_zero {L : LogM} {n : Int} (h : L.getC n = 0) : 1 ≤ n ∧ n ≤ L.all.length := by
  unfold LogM.getC at h
  split at h
  · cases h
  · omega
theorem getP_at {L : LogM} {m : Nat} (h : L.getC ((m : Int) + 1) = 0) (hm : m < L.all.length) : getP L ((m : Int) + 1) = L.all[m] := by
  unfold getP
  rw [if_pos h, List.getD_eq_getElem?_getD, show ((m : Int) + 1 - 1).toNat = m by omega, List.getElem?_eq_getElem hm]
  rfl
theorem getP_none {L : LogM} {n c : Int} (h : L.getC n = c) (hc : ¬ c = 0) : getP L n = ⟨0, 0, []⟩ := by
  unfold getP
  rw [if_neg (by rw [h]; exact hc)]
theorem is_any (w : World) (B B' R : Nat) (v u : Value) (L : LogM) (n : Int) (h : LogAt w B R v L) (hu : RefOwn w B' u L) (ho : L.Ok) (hl : L.all.length ≤ 999990) :
    Calls Tryd.prog 27 #[ptrV R, refV u L, .int .i64 n] w fun e w' => e = .returned (.bool true) ∧ Below w.heap.size w w' := by
  have hb0 := (Below.refl w.heap.size w).alloc (Nat.le_refl _) (.cells #[u, .int .i64 L.dropped, .int .i64 L.win] 51)
  have HS := Lib.hid (show IsS w _ R v u L from ⟨hb0, ⟨Nat.zero_le _, h.box.older hb0, (h.own.older hb0).mono (fun _ _ => Nat.zero_le _)⟩, OwnWin.mono (hu.older hb0) (fun _ _ => Nat.zero_le _), box3_new w _ _ _ _⟩)
  have HO := Lib.hid ho
  have HD := Lib.hid ho.drop
  have hl2 : L.all.length ≤ 1000000 := by omega
  have hd2 : L.dropped ≤ 1000000 := by have := ho.drop; omega
  obtain ⟨ua, uc, rfl, huc⟩ := hu.form
  obtain ⟨⟨c0, c1, c2⟩, _, hz⟩ := HS.out.box.facts
  clear hb0 h hu ho
  have i1 : IntKind.i64.wrap ((L.dropped : Int) + 1) = (L.dropped : Int) + 1 := IntWalk.i64_in _ (by omega)
  go_enter Tryd.func27, Tryd.ntmps27
  go_wp2_with fail
  go_quiet ((first | (go_at_call 17; exact Calls.quiet_of (plogLast_any 0 R v L _ (HS.out.log.below (below_drewN (Below.refl _ _) _)) HD.out hl2)) | (go_at_call 18; exact Calls.quiet_of_same ((plogFirst_any 0 R v L _ (HS.out.log.below (below_drewN (Below.refl _ _) _))).mono fun e w' h => ⟨h.1, h.2.symm⟩))))
  have HS1 := Lib.hid (HS.out.older (below_drewN (Below.refl _ _) nq))
  go_wp2
  go_loopw [7] (fun i wr => ∃ j : Nat, j ≤ L.all.length + 4 ∧ i = .int .i64 ((j : Int) - 1) ∧ IsS w wr R v (.slice ua L.all.length uc) L) (fun i _ => L.all.length + 4 - (intOf i + 1).toNat)
  case atStart => exact ⟨0, Nat.zero_le _, rfl, HS1.out⟩
  case round =>
    obtain ⟨j, hj, rfl, s⟩ := hrel
    have HR := Lib.hid s
    obtain ⟨⟨c0, c1, c2⟩, _, hz⟩ := s.box.facts
    clear s
    by_cases hlt : j < L.all.length + 4
    · have i2 : IntKind.i64.wrap ((L.all.length : Int) + 2) = (L.all.length : Int) + 2 := IntWalk.i64_in _ (by omega)
      go_upto_if 43 with fail
      go_cut [8] (fun s8 wx => ∃ kk : Int, s8 = .int .i64 kk ∧ wx = wr)
      case first =>
        by_cases hj2 : j = L.all.length + 3
        · go_wp2
          all_goals (go_meet; exact ⟨_, rfl, rfl⟩)
        · go_wp2
          all_goals (go_meet; exact ⟨_, rfl, rfl⟩)
      case rest =>
        obtain ⟨kk, rfl, rfl⟩ := hcut
        obtain ⟨q, hq⟩ : ∃ q, getP L kk = q := ⟨_, rfl⟩
        obtain ⟨cc, hcc⟩ : ∃ cc, L.getC kk = cc := ⟨_, rfl⟩
        have HQ := Lib.hid hq
        have HCC := Lib.hid hcc
        clear hq hcc
        obtain ⟨qk, qt, qv⟩ := q
        go_wp2_with fail
        refine (plogGet_any 0 R v L kk _ HR.out.log HO.out hl2).mono ?_
        rw [HQ.out, HCC.out]
        rintro e w1 ⟨rfl, hb1⟩
        have HR1 := Lib.hid ((HR.out.older hb1).older ((Below.refl _ _).alloc (Nat.le_refl _) (.cells #[.int .i64 qk, .int .i64 qt, .string ⟨qv.toArray⟩] 37)))
        have HX1 := Lib.hid (box3_new w1 37 (.int .i64 qk) (.int .i64 qt) (.string ⟨qv.toArray⟩))
        obtain ⟨⟨c0, c1, c2⟩, _, hz⟩ := HR1.out.box.facts
        clear hb1
        go_wp2_with fail
        refine (plogRGet (.slice ua L.all.length uc) L kk _ ⟨_, _, rfl⟩).mono ?_
        rw [HCC.out]
        rintro e w2 ⟨rfl, hb2⟩
        have HR2 := Lib.hid (HR1.out.older hb2)
        have HX2 := Lib.hid (HX1.out.older hb2)
        obtain ⟨⟨c0, c1, c2⟩, _, hz⟩ := HR2.out.box.facts
        obtain ⟨⟨d0, d1, d2⟩, _, hz1⟩ := HX2.out.facts
        clear hb2
        go_upto_region 11 with fail
        go_cut [81] (fun s81 wx => s81 = .bool false ∧ IsS w wx R v (.slice ua L.all.length uc) L)
        case first =>
          by_cases hc0 : cc = 0
          · subst hc0
            have hk1 : 1 ≤ kk ∧ kk ≤ L.all.length := getC_zero HCC.out
            obtain ⟨m, rfl⟩ : ∃ m : Nat, kk = (m : Int) + 1 := ⟨(kk - 1).toNat, by omega⟩
            have hm : m < L.all.length := by omega
            have hq := HQ.out
            rw [getP_at HCC.out hm] at hq
            obtain ⟨b, o, c, e, hc, hbz, hcell⟩ := (rows_own HR2.out.ref).at hm
            cases e
            rw [hq] at hcell
            have p0 := hcell 0 _ rfl
            have p1 := hcell 1 _ rfl
            have p2 := hcell 2 _ rfl
            rw [Nat.add_zero] at p0
            rw [← Nat.add_assoc] at p1 p2
            have i3 : IntKind.i64.wrap (m : Int) = m := IntWalk.i64_in _ (by omega)
            have hwz : w.heap.size < w2.heap.size := HR2.out.box.facts.2.2
            have HBX := Lib.hid HR2.out.box
            clear hcell hq hk1
            refine wp_region_held_drew (S := fun w' => w'.cell? ⟨w.heap.size, 0, none⟩ = some (.slice (some ⟨b, o, none⟩) L.all.length uc) ∧ w'.cell? ⟨w1.heap.size, 0, none⟩ = some (.int .i64 qk) ∧ w'.cell? ⟨w1.heap.size, 1, none⟩ = some (.int .i64 qt) ∧ w'.cell? ⟨w1.heap.size, 2, none⟩ = some (.string ⟨qv.toArray⟩) ∧ w'.cell? ⟨b, o + m * 3, none⟩ = some (.int .i64 qk) ∧ w'.cell? ⟨b, o + m * 3 + 1, none⟩ = some (.int .i64 qt) ∧ w'.cell? ⟨b, o + m * 3 + 2, none⟩ = some (.string ⟨qv.toArray⟩)) (by kernel_rfl) (by exact ⟨c0, d0, d1, d2, p0, p1, p2⟩) (fun hHeld => ?_)
            refine wpAnyH_take (i := 0) (v := ?_) (by simp only [List.getElem?_toArray, List.getElem?_cons_succ, List.getElem?_cons_zero]; rfl) (by kernel_rfl) (by kernel_rfl) (by kernel_rfl) (by intro _ _ _ h; exact h) (Or.inl ⟨by rfl, ?_⟩) (by assumption) ?_
            rotate_left
            focus (intro wT hT; (try dsimp only at hT); go_simp; try with_reducible rfl)
            try simp only [Act.put, List.setIfInBounds_toArray, List.set_cons_zero, List.set_cons_succ]
            refine wpAnyH_take (i := 2) (v := ?_) (by simp only [List.getElem?_toArray, List.getElem?_cons_succ, List.getElem?_cons_zero]; rfl) (by kernel_rfl) (by kernel_rfl) (by kernel_rfl) (by intro _ _ _ h; exact h) (Or.inl ⟨by rfl, ?_⟩) (by assumption) ?_
            rotate_left
            focus (intro wT hT; (try dsimp only at hT); go_simp; try with_reducible rfl)
            try simp only [Act.put, List.setIfInBounds_toArray, List.set_cons_zero, List.set_cons_succ]
            refine wpAnyH_ready (rs := [1]) (by kernel_rfl) (by simp) (AllReadyH.cons (by simp only [List.getElem?_toArray, List.getElem?_cons_succ, List.getElem?_cons_zero]; rfl) (fun K hK => ?_) AllReadyH.nil)
            go_simp
            go_at_call 23; refine (num_codeV 0 _).mono ?_; rintro e w' ⟨rfl, rfl⟩
            go_wp2_with fail
            refine hK.out _ _ (by assumption) (fun hHe2 => ?_)
            clear hK K
            try simp only [Act.put, List.setIfInBounds_toArray, List.set_cons_zero, List.set_cons_succ]
            refine wpAnyH_take (i := 3) (v := ?_) (by simp only [List.getElem?_toArray, List.getElem?_cons_succ, List.getElem?_cons_zero]; rfl) (by kernel_rfl) (by kernel_rfl) (by kernel_rfl) (by intro _ _ _ h; exact h) (Or.inl ⟨by rfl, ?_⟩) (by assumption) ?_
            rotate_left
            focus (intro wT hT; (try dsimp only at hT); go_simp; try with_reducible rfl)
            try simp only [Act.put, List.setIfInBounds_toArray, List.set_cons_zero, List.set_cons_succ]
            refine wpAnyH_take (i := 4) (v := ?_) (by simp only [List.getElem?_toArray, List.getElem?_cons_succ, List.getElem?_cons_zero]; rfl) (by kernel_rfl) (by kernel_rfl) (by kernel_rfl) (by intro _ _ _ h; exact h) (Or.inl ⟨by rfl, ?_⟩) (by assumption) ?_
            rotate_left
            focus (intro wT hT; (try dsimp only at hT); go_simp; try with_reducible rfl)
            try simp only [Act.put, List.setIfInBounds_toArray, List.set_cons_zero, List.set_cons_succ]
            refine wpAnyH_take (i := 5) (v := ?_) (by simp only [List.getElem?_toArray, List.getElem?_cons_succ, List.getElem?_cons_zero]; rfl) (by kernel_rfl) (by kernel_rfl) (by kernel_rfl) (by intro _ _ _ h; exact h) (Or.inl ⟨by rfl, ?_⟩) (by assumption) ?_
            rotate_left
            focus (intro wT hT; (try dsimp only at hT); go_simp; try with_reducible rfl)
            try simp only [Act.put, List.setIfInBounds_toArray, List.set_cons_zero, List.set_cons_succ]
            refine wpAnyH_take (i := 6) (v := ?_) (by simp only [List.getElem?_toArray, List.getElem?_cons_succ, List.getElem?_cons_zero]; rfl) (by kernel_rfl) (by kernel_rfl) (by kernel_rfl) (by intro _ _ _ h; exact h) (Or.inl ⟨by rfl, ?_⟩) (by assumption) ?_
            rotate_left
            focus (intro wT hT; (try dsimp only at hT); go_simp; try with_reducible rfl)
            try simp only [Act.put, List.setIfInBounds_toArray, List.set_cons_zero, List.set_cons_succ]
            refine wpAnyH_take (i := 7) (v := ?_) (by simp only [List.getElem?_toArray, List.getElem?_cons_succ, List.getElem?_cons_zero]; rfl) (by kernel_rfl) (by kernel_rfl) (by kernel_rfl) (by intro _ _ _ h; exact h) (Or.inl ⟨by rfl, ?_⟩) (by assumption) ?_
            rotate_left
            focus (intro wT hT; (try dsimp only at hT); go_simp; try with_reducible rfl)
            try simp only [Act.put, List.setIfInBounds_toArray, List.set_cons_zero, List.set_cons_succ]
            refine wpAnyH_take (i := 8) (v := ?_) (by simp only [List.getElem?_toArray, List.getElem?_cons_succ, List.getElem?_cons_zero]; rfl) (by kernel_rfl) (by kernel_rfl) (by kernel_rfl) (by intro _ _ _ h; exact h) (Or.inl ⟨by rfl, ?_⟩) (by assumption) ?_
            rotate_left
            focus (intro wT hT; (try dsimp only at hT); go_simp; try with_reducible rfl)
            try simp only [Act.put, List.setIfInBounds_toArray, List.set_cons_zero, List.set_cons_succ]
            refine wpAnyH_take (i := 9) (v := ?_) (by simp only [List.getElem?_toArray, List.getElem?_cons_succ, List.getElem?_cons_zero]; rfl) (by kernel_rfl) (by kernel_rfl) (by kernel_rfl) (by intro _ _ _ h; exact h) (Or.inl ⟨by rfl, ?_⟩) (by assumption) ?_
            rotate_left
            focus (intro wT hT; (try dsimp only at hT); go_simp; try with_reducible rfl)
            try simp only [Act.put, List.setIfInBounds_toArray, List.set_cons_zero, List.set_cons_succ]
            refine wpAnyH_take (i := 10) (v := ?_) (by simp only [List.getElem?_toArray, List.getElem?_cons_succ, List.getElem?_cons_zero]; rfl) (by kernel_rfl) (by kernel_rfl) (by kernel_rfl) (by intro _ _ _ h; exact h) (Or.inl ⟨by rfl, ?_⟩) (by assumption) ?_
            rotate_left
            focus (intro wT hT; (try dsimp only at hT); go_simp; try with_reducible rfl)
            try simp only [Act.put, List.setIfInBounds_toArray, List.set_cons_zero, List.set_cons_succ]
            refine wpAnyH_take (i := 11) (v := ?_) (by simp only [List.getElem?_toArray, List.getElem?_cons_succ, List.getElem?_cons_zero]; rfl) (by kernel_rfl) (by kernel_rfl) (by kernel_rfl) (by intro _ _ _ h; exact h) (Or.inl ⟨by rfl, ?_⟩) (by assumption) ?_
            rotate_left
            focus (intro wT hT; (try dsimp only at hT); go_simp; try with_reducible rfl)
            try simp only [Act.put, List.setIfInBounds_toArray, List.set_cons_zero, List.set_cons_succ]
            refine wpAnyH_take (i := 12) (v := ?_) (by simp only [List.getElem?_toArray, List.getElem?_cons_succ, List.getElem?_cons_zero]; rfl) (by kernel_rfl) (by kernel_rfl) (by kernel_rfl) (by intro _ _ _ h; exact h) (Or.inl ⟨by rfl, ?_⟩) (by assumption) ?_
            rotate_left
            focus (intro wT hT; (try dsimp only at hT); go_simp; try with_reducible rfl)
            try simp only [Act.put, List.setIfInBounds_toArray, List.set_cons_zero, List.set_cons_succ]
            refine wpAnyH_take (i := 13) (v := ?_) (by simp only [List.getElem?_toArray, List.getElem?_cons_succ, List.getElem?_cons_zero]; rfl) (by kernel_rfl) (by kernel_rfl) (by kernel_rfl) (by intro _ _ _ h; exact h) (Or.inl ⟨by rfl, ?_⟩) (by assumption) ?_
            rotate_left
            focus (intro wT hT; (try dsimp only at hT); go_simp; try with_reducible rfl)
            try simp only [Act.put, List.setIfInBounds_toArray, List.set_cons_zero, List.set_cons_succ]
            refine wpAnyH_take (i := 14) (v := ?_) (by simp only [List.getElem?_toArray, List.getElem?_cons_succ, List.getElem?_cons_zero]; rfl) (by kernel_rfl) (by kernel_rfl) (by kernel_rfl) (by intro _ _ _ h; exact h) (Or.inl ⟨by rfl, ?_⟩) (by assumption) ?_
            rotate_left
            focus (intro wT hT; (try dsimp only at hT); go_simp; try with_reducible rfl)
            try simp only [Act.put, List.setIfInBounds_toArray, List.set_cons_zero, List.set_cons_succ]
            refine wpAnyH_ready (rs := [15]) (by kernel_rfl) (by simp) (AllReadyH.cons (by simp only [List.getElem?_toArray, List.getElem?_cons_succ, List.getElem?_cons_zero]; rfl) (fun K hK => ?_) AllReadyH.nil)
            go_simp
            go_at_call 21; refine (of36_any ⟨qk, qt, qv⟩ _).mono ?_; rintro e w9 ⟨rfl, hb9⟩; obtain ⟨⟨x0, x1, x2⟩, _, hz9⟩ := (HX2.out.drew.older hb9).facts; obtain ⟨⟨y0, y1, y2⟩, _, hz8⟩ := (HBX.out.drew.older hb9).facts; have z0 := (hb9.cell (p := ⟨b, o + m * 3, none⟩) hbz).trans p0; have z1 := (hb9.cell (p := ⟨b, o + m * 3 + 1, none⟩) hbz).trans p1; have z2 := (hb9.cell (p := ⟨b, o + m * 3 + 2, none⟩) hbz).trans p2
            go_wp2_with fail
            refine hK.out _ _ (by exact ⟨y0, x0, x1, x2, z0, z1, z2⟩) (fun hHe3 => ?_)
            clear hK K
            try simp only [Act.put, List.setIfInBounds_toArray, List.set_cons_zero, List.set_cons_succ]
            refine wpAnyH_take (i := 16) (v := ?_) (by simp only [List.getElem?_toArray, List.getElem?_cons_succ, List.getElem?_cons_zero]; rfl) (by kernel_rfl) (by kernel_rfl) (by kernel_rfl) (by intro _ _ _ h; exact h) (Or.inl ⟨by rfl, ?_⟩) (by assumption) ?_
            rotate_left
            focus (intro wT hT; (try dsimp only at hT); go_simp; try with_reducible rfl)
            try simp only [Act.put, List.setIfInBounds_toArray, List.set_cons_zero, List.set_cons_succ]
            refine wpAnyH_take (i := 17) (v := ?_) (by simp only [List.getElem?_toArray, List.getElem?_cons_succ, List.getElem?_cons_zero]; rfl) (by kernel_rfl) (by kernel_rfl) (by kernel_rfl) (by intro _ _ _ h; exact h) (Or.inl ⟨by rfl, ?_⟩) (by assumption) ?_
            rotate_left
            focus (intro wT hT; (try dsimp only at hT); go_simp; try with_reducible rfl)
            try simp only [Act.put, List.setIfInBounds_toArray, List.set_cons_zero, List.set_cons_succ]
            refine wpAnyH_take (i := 18) (v := ?_) (by simp only [List.getElem?_toArray, List.getElem?_cons_succ, List.getElem?_cons_zero]; rfl) (by kernel_rfl) (by kernel_rfl) (by kernel_rfl) (by intro _ _ _ h; exact h) (Or.inl ⟨by rfl, ?_⟩) (by assumption) ?_
            rotate_left
            focus (intro wT hT; (try dsimp only at hT); go_simp; try with_reducible rfl)
            try simp only [Act.put, List.setIfInBounds_toArray, List.set_cons_zero, List.set_cons_succ]
            refine wpAnyH_take (i := 19) (v := ?_) (by simp only [List.getElem?_toArray, List.getElem?_cons_succ, List.getElem?_cons_zero]; rfl) (by kernel_rfl) (by kernel_rfl) (by kernel_rfl) (by intro _ _ _ h; exact h) (Or.inl ⟨by rfl, ?_⟩) (by assumption) ?_
            rotate_left
            focus (intro wT hT; (try dsimp only at hT); go_simp; try with_reducible rfl)
            try simp only [Act.put, List.setIfInBounds_toArray, List.set_cons_zero, List.set_cons_succ]
            refine wpAnyH_take (i := 20) (v := ?_) (by simp only [List.getElem?_toArray, List.getElem?_cons_succ, List.getElem?_cons_zero]; rfl) (by kernel_rfl) (by kernel_rfl) (by kernel_rfl) (by intro _ _ _ h; exact h) (Or.inl ⟨by rfl, ?_⟩) (by assumption) ?_
            rotate_left
            focus (intro wT hT; (try dsimp only at hT); go_simp; try with_reducible rfl)
            try simp only [Act.put, List.setIfInBounds_toArray, List.set_cons_zero, List.set_cons_succ]
            refine wpAnyH_take (i := 21) (v := ?_) (by simp only [List.getElem?_toArray, List.getElem?_cons_succ, List.getElem?_cons_zero]; rfl) (by kernel_rfl) (by kernel_rfl) (by kernel_rfl) (by intro _ _ _ h; exact h) (Or.inl ⟨by rfl, ?_⟩) (by assumption) ?_
            rotate_left
            focus (intro wT hT; (try dsimp only at hT); go_simp; try with_reducible rfl)
            try simp only [Act.put, List.setIfInBounds_toArray, List.set_cons_zero, List.set_cons_succ]
            refine wpAnyH_take (i := 22) (v := ?_) (by simp only [List.getElem?_toArray, List.getElem?_cons_succ, List.getElem?_cons_zero]; rfl) (by kernel_rfl) (by kernel_rfl) (by kernel_rfl) (by intro _ _ _ h; exact h) (Or.inl ⟨by rfl, ?_⟩) (by assumption) ?_
            rotate_left
            focus (intro wT hT; (try dsimp only at hT); go_simp; try with_reducible rfl)
            try simp only [Act.put, List.setIfInBounds_toArray, List.set_cons_zero, List.set_cons_succ]
            refine wpAnyH_take (i := 23) (v := undef) (by simp only [List.getElem?_toArray, List.getElem?_cons_succ, List.getElem?_cons_zero]; rfl) (by kernel_rfl) (by kernel_rfl) (by kernel_rfl) (by intro _ _ _ h; exact h) (Or.inr ⟨by rfl, rfl⟩) (by assumption) ?_
            try simp only [Act.put, List.setIfInBounds_toArray, List.set_cons_zero, List.set_cons_succ]
            refine wpAnyH_take (i := 24) (v := undef) (by simp only [List.getElem?_toArray, List.getElem?_cons_succ, List.getElem?_cons_zero]; rfl) (by kernel_rfl) (by kernel_rfl) (by kernel_rfl) (by intro _ _ _ h; exact h) (Or.inr ⟨by rfl, rfl⟩) (by assumption) ?_
            try simp only [Act.put, List.setIfInBounds_toArray, List.set_cons_zero, List.set_cons_succ]
            refine wpAnyH_take (i := 25) (v := undef) (by simp only [List.getElem?_toArray, List.getElem?_cons_succ, List.getElem?_cons_zero]; rfl) (by kernel_rfl) (by kernel_rfl) (by kernel_rfl) (by intro _ _ _ h; exact h) (Or.inr ⟨by rfl, rfl⟩) (by assumption) ?_
            try simp only [Act.put, List.setIfInBounds_toArray, List.set_cons_zero, List.set_cons_succ]
            refine wpAnyH_take (i := 26) (v := ?_) (by simp only [List.getElem?_toArray, List.getElem?_cons_succ, List.getElem?_cons_zero]; rfl) (by kernel_rfl) (by kernel_rfl) (by kernel_rfl) (by intro _ _ _ h; exact h) (Or.inl ⟨by rfl, ?_⟩) (by assumption) ?_
            rotate_left
            focus (intro wT hT; (try dsimp only at hT); go_simp; try with_reducible rfl)
            try simp only [Act.put, List.setIfInBounds_toArray, List.set_cons_zero, List.set_cons_succ]
            refine wpAnyH_take (i := 27) (v := ?_) (by simp only [List.getElem?_toArray, List.getElem?_cons_succ, List.getElem?_cons_zero]; rfl) (by kernel_rfl) (by kernel_rfl) (by kernel_rfl) (by intro _ _ _ h; exact h) (Or.inl ⟨by rfl, ?_⟩) (by assumption) ?_
            rotate_left
            focus (intro wT hT; (try dsimp only at hT); go_simp; try with_reducible rfl)
            try simp only [Act.put, List.setIfInBounds_toArray, List.set_cons_zero, List.set_cons_succ]
            refine wpAnyH_done (by kernel_rfl) ?_ _
            all_goals
              go_wp2
              go_meet
              exact ⟨rfl, (HR2.out.older (Below.refl _ _).drew).older hb9⟩
          · have hc1 : (cc == 0) = false := by simpa using hc0
            have hc2 : (cc != 0) = true := by simpa using hc0
            have hq := HQ.out
            rw [getP_none HCC.out hc0] at hq
            injection hq with e1 e2 e3
            subst e1 e2 e3
            clear hc0
            go_quiet ((go_at_call 23; exact Calls.quiet_of_same ((num_codeV cc _).mono fun e w' h => ⟨h.1, h.2.symm⟩)))
            all_goals
              go_wp2
              go_meet
              exact ⟨rfl, HR2.out.older (below_drewN (Below.refl _ _) _)⟩
        case rest =>
          obtain ⟨rfl, hs3⟩ := hcut
          have HR3 := Lib.hid hs3
          obtain ⟨⟨c0, c1, c2⟩, _, hz⟩ := hs3.box.facts
          clear hs3
          obtain ⟨sc, hsc⟩ : ∃ sc, L.sinceC kk = sc := ⟨_, rfl⟩
          have HSC := Lib.hid hsc
          have hN := since_len L kk
          obtain ⟨ls, hls⟩ : ∃ ls, L.since kk = ls := ⟨_, rfl⟩
          rw [hls] at hN
          have HLS := Lib.hid hls
          clear hsc hls
          go_wp2_with fail
          refine (plogSince_any 0 R v L kk _ HR3.out.log HO.out hl2).mono ?_
          rw [HSC.out, HLS.out]
          rintro e w4 ⟨lu, rfl, hlu, hb4⟩
          have HR4 := Lib.hid (HR3.out.older hb4)
          obtain ⟨la, lc, rfl, _⟩ := hlu.form
          have HLU := Lib.hid hlu
          have HOFF : Hid (∀ g o, la = some ⟨g, o, none⟩ → Off w R v (.slice ua L.all.length uc) g) := Lib.hid fun g o e => HR3.out.off (by subst e; exact (OwnWin.row hlu).2)
          obtain ⟨⟨c0, c1, c2⟩, _, hz⟩ := HR4.out.box.facts
          clear hb4 hlu
          go_wp2_with fail
          refine (plogRSince 0 (.slice ua L.all.length uc) L kk _ HR4.out.ref hl2).mono ?_
          rw [HSC.out, HLS.out]
          rintro e w5 ⟨lv, rfl, hlv, hb5⟩
          have HR5 := Lib.hid (HR4.out.older hb5)
          have HLU5 := Lib.hid (HLU.out.older hb5)
          obtain ⟨lb, ld, rfl, _⟩ := hlv.form
          have HLV := Lib.hid hlv
          clear hb5 hlv
          go_wp2_with (first | (go_at_call 23; refine (num_codeV sc _).mono ?_; rintro e w' ⟨rfl, rfl⟩) | (go_at_call 57; refine (are_any ls _ _ _ (rows_own HLU5.out) HLV.out (by omega)).mono ?_; rintro e w6 ⟨rfl, hb6⟩))
          have HR6 := Lib.hid (HR5.out.older hb6)
          have HZ6 := Lib.hid (ZRow.of (HLU5.out.older hb6))
          clear hb6
          go_loopw [14] (fun jv wr => ∃ k : Nat, k ≤ ls.length ∧ jv = .int .i64 k ∧ IsS w wr R v (.slice ua L.all.length uc) L ∧ ZRow wr 37 la ls.length) (fun i _ => ls.length - (intOf i).toNat)
          case atStart => exact ⟨0, Nat.zero_le _, rfl, HR6.out, HZ6.out⟩
          case round =>
            obtain ⟨k, hk, rfl, s, z⟩ := hrel
            have HS7 := Lib.hid s
            have HZ7 := Lib.hid z
            clear s z
            by_cases hlt2 : k < ls.length
            · obtain ⟨g, lo, c, e, _⟩ := HLU5.out.cells (by omega)
              cases e
              have hrow := HZ7.out g lo rfl
              obtain ⟨y0, q0⟩ := hrow.cell (i := lo + k * 3) (by omega)
              obtain ⟨y1, q1⟩ := hrow.cell (i := lo + k * 3 + 1) (by omega)
              obtain ⟨y2, q2⟩ := hrow.cell (i := lo + k * 3 + 2) (by omega)
              have f0 := hrow.frozen (lo + k * 3)
              have f1 := hrow.frozen (lo + k * 3 + 1)
              have f2 := hrow.frozen (lo + k * 3 + 2)
              have HO7 := Lib.hid (HOFF.out g lo rfl)
              clear hrow
              go_wp2
              go_roundw
              case rel => exact ⟨k + 1, by omega, by go_num, ((HS7.out.set HO7.out _ _).set HO7.out _ _).set HO7.out _ _, ((HZ7.out.set _ _).set _ _).set _ _⟩
              case measure => simp [intOf]; omega
            · go_wp2
              go_roundw
              case rel => exact ⟨j + 1, by omega, by congr 1; omega, HS7.out⟩
              case measure => simp [intOf]; omega
    · go_wp2
      go_ret
      exact ⟨rfl, HR.out.bel⟩
end A1
end Go.Proofs.YtijjggbiljkalaaDoor
