/- Contracts: what the laws over the gate share: short, fits, window, first, Of. Conditions: at most a million purges. -/
import Derived.Test.YtnppicekfjdefaaGreatDoorGateG
import Derived.Test.YtnppicekfjdefaaGreatDoorPlogF
import Derived.Test.YtnppicekfjdefaaGreatDoorOpenG
namespace Go.Proofs.YtnppicekfjdefaaGreatDoor
open Go.RowKit Pl Ad
attribute [local go_sem] ba_get ba_append ba_extract_end ba_extract_zero ba_extract
set_option maxRecDepth 100000
set_option maxHeartbeats 4000000
set_option linter.unusedVariables false
set_option linter.unusedSimpArgs false
namespace Ad
def shortB (l : List Pg) : Bool := l.all (fun p => decide (p.value.length ≤ 1200)) && decide (l.length ≤ 40)
theorem shortB_bad {l : List Pg} {a : Pg} (hm : a ∈ l) (h : ¬ a.value.length ≤ 1200) : shortB l = false := by
  unfold shortB
  rw [Bool.and_eq_false_iff]
  refine .inl ?_
  rw [Bool.eq_false_iff]
  intro h2
  exact h (by simpa using List.all_eq_true.1 h2 a hm)
theorem shortB_good {l : List Pg} (h : ∀ a ∈ l, a.value.length ≤ 1200) : shortB l = decide (l.length ≤ 40) := by
  unfold shortB
  rw [show l.all (fun p => decide (p.value.length ≤ 1200)) = true from List.all_eq_true.2 fun x hx => decide_eq_true (h x hx)]
  rfl
theorem shortB_true {l : List Pg} (h : shortB l = true) : (∀ a ∈ l, a.value.length ≤ 1200) ∧ l.length ≤ 40 := by
  unfold shortB at h
  rw [Bool.and_eq_true, decide_eq_true_eq] at h
  exact ⟨fun x hx => by simpa using List.all_eq_true.1 h.1 x hx, h.2⟩
def fitsG (l : List GAct) : Bool := l.all (fun a => shortB a.list) && decide (l.length ≤ 40)
theorem fitsG_bad {l : List GAct} {a : GAct} (hm : a ∈ l) (h : shortB a.list = false) : fitsG l = false := by
  unfold fitsG
  rw [Bool.and_eq_false_iff]
  refine .inl ?_
  rw [Bool.eq_false_iff]
  intro h2
  have := List.all_eq_true.1 h2 a hm
  rw [h] at this; cases this
theorem fitsG_good {l : List GAct} (h : ∀ a ∈ l, shortB a.list = true) : fitsG l = decide (l.length ≤ 40) := by
  unfold fitsG
  rw [show l.all (fun a => shortB a.list) = true from List.all_eq_true.2 fun x hx => h x hx]
  rfl
theorem fitsG_true {l : List GAct} (h : fitsG l = true) : (∀ a ∈ l, shortB a.list = true) ∧ l.length ≤ 40 := by
  unfold fitsG at h
  rw [Bool.and_eq_true, decide_eq_true_eq] at h
  exact ⟨fun x hx => List.all_eq_true.1 h.1 x hx, h.2⟩
end Ad
namespace A1
theorem short38_any (v : Value) (l : List Pg) (w : World) (hv : RowsV pcells 3 w v l) (hl : l.length ≤ 9223372036854775807) :
    Calls Tryz.prog 19 #[v] w fun e w' => e = .returned (.bool (shortB l)) ∧ w = w' := by
  have HV := Lib.hid hv
  obtain ⟨va, vc, rfl, hvc⟩ := hv.form
  clear hv
  go_enter Tryz.func19, Tryz.ntmps19
  go_wp2
  go_loop [3] (fun i => ∃ k : Nat, k ≤ l.length ∧ i = .int .i64 k ∧ Hid (∀ x ∈ l.take k, x.value.length ≤ 1200)) (fun i => l.length - (intOf i).toNat)
  case atStart => exact ⟨0, Nat.zero_le _, rfl, fun x hx => by simp at hx⟩
  case round =>
    obtain ⟨k, hk, rfl, H⟩ := hrel
    by_cases hlt : k < l.length
    · obtain ⟨b, o, c, e, hc, hb, hcell⟩ := HV.out.at hlt
      cases e
      have c4 := hcell 2 _ rfl
      rw [show o + (k * 3 + 2) = o + k * 3 + 2 by omega] at c4
      have H2 := Lib.hid (take_snoc hlt)
      have HM := Lib.hid (List.getElem_mem hlt)
      clear hcell
      generalize hx : l[k] = y at H2 HM c4
      clear hx
      by_cases hy : y.value.length ≤ 1200
      · have HN := Lib.hid (show ∀ z ∈ l.take (k + 1), z.value.length ≤ 1200 by
          rw [H2.out]
          intro z hz
          rcases List.mem_append.1 hz with hz | hz
          · exact H.out z hz
          · rw [List.mem_singleton.1 hz]; exact hy)
        go_wp2
        go_round
        case rel => exact ⟨k + 1, by omega, by go_num, HN.out⟩
        case measure => simp [intOf]; omega
      · have HN := Lib.hid (shortB_bad HM.out hy)
        go_wp2
        go_ret
        exact ⟨ret_bool' HN.out.symm, rfl⟩
    · have HN := Lib.hid (shortB_good (l := l) (by have h := H.out; rw [List.take_of_length_le (by omega)] at h; exact h))
      have HD := Lib.hid (show decide ((l.length : Int) ≤ 40) = decide (l.length ≤ 40) by rw [decide_eq_decide]; omega)
      go_wp2
      go_ret
      exact ⟨ret_bool' (by rw [HN.out, ← HD.out]), rfl⟩
theorem fits38_any (v : Value) (acts : List GAct) (w : World) (hv : RowsV actG 3 w v acts) (hl : acts.length ≤ 9223372036854775807) (ha : ∀ a ∈ acts, RowsV pcells 3 w a.u a.list ∧ a.list.length ≤ 9223372036854775807) :
    Calls Tryz.prog 6 #[v] w fun e w' => e = .returned (.bool (fitsG acts)) ∧ w = w' := by
  have HV := Lib.hid hv
  have HA := Lib.hid ha
  obtain ⟨va, vc, rfl, hvc⟩ := hv.form
  clear hv ha
  go_enter Tryz.func6, Tryz.ntmps6
  go_wp2
  go_loop [3] (fun i => ∃ k : Nat, k ≤ acts.length ∧ i = .int .i64 k ∧ Hid (∀ x ∈ acts.take k, shortB x.list = true)) (fun i => acts.length - (intOf i).toNat)
  case atStart => exact ⟨0, Nat.zero_le _, rfl, fun x hx => by simp at hx⟩
  case round =>
    obtain ⟨k, hk, rfl, H⟩ := hrel
    by_cases hlt : k < acts.length
    · obtain ⟨b, o, c, e, hc, hb, hcell⟩ := HV.out.at hlt
      cases e
      have c4 := hcell 2 _ rfl
      rw [show o + (k * 3 + 2) = o + k * 3 + 2 by omega] at c4
      have H2 := Lib.hid (take_snoc hlt)
      have HM := Lib.hid (List.getElem_mem hlt)
      clear hcell
      generalize hx : acts[k] = y at H2 HM c4
      clear hx
      have HY := Lib.hid (HA.out y HM.out)
      cases hy : shortB y.list with
      | true =>
        have HN := Lib.hid (show ∀ z ∈ acts.take (k + 1), shortB z.list = true by
          rw [H2.out]
          intro z hz
          rcases List.mem_append.1 hz with hz | hz
          · exact H.out z hz
          · rw [List.mem_singleton.1 hz]; exact hy)
        have HB := Lib.hid hy
        clear hy
        go_wp2_with (go_at_call 19; refine (short38_any _ y.list _ HY.out.1 HY.out.2).mono ?_; rw [HB.out]; rintro e w2 ⟨rfl, rfl⟩)
        go_round
        case rel => exact ⟨k + 1, by omega, by go_num, HN.out⟩
        case measure => simp [intOf]; omega
      | false =>
        have HN := Lib.hid (fitsG_bad HM.out hy)
        have HB := Lib.hid hy
        clear hy
        go_wp2_with (go_at_call 19; refine (short38_any _ y.list _ HY.out.1 HY.out.2).mono ?_; rw [HB.out]; rintro e w2 ⟨rfl, rfl⟩)
        go_ret
        exact ⟨ret_bool' HN.out.symm, rfl⟩
    · have HN := Lib.hid (fitsG_good (l := acts) (by have h := H.out; rw [List.take_of_length_le (by omega)] at h; exact h))
      have HD := Lib.hid (show decide ((acts.length : Int) ≤ 40) = decide (acts.length ≤ 40) by rw [decide_eq_decide]; omega)
      go_wp2
      go_ret
      exact ⟨ret_bool' (by rw [HN.out, ← HD.out]), rfl⟩
theorem window38_any (n : Int) (w : World) (h0 : 0 ≤ n) (h1 : n < 256) :
    Calls Tryz.prog 8 #[.int .u8 n] w fun e w' => e = .returned (.int .i64 (1 + n % 24)) ∧ w = w' := by
  go_enter Tryz.func8, Tryz.ntmps8
  go_wp2
  go_ret
  exact ⟨rfl, rfl⟩
theorem clipG_any (a lo hi : Int) (w : World) : Calls Tryz.prog 42 #[.int .i64 a, .int .i64 lo, .int .i64 hi] w fun e w' => e = .returned (.int .i64 (max lo (min a hi))) ∧ w = w' := by
  go_enter Tryz.func42, Tryz.ntmps42
  go_wp2
  go_ret
  exact ⟨rfl, rfl⟩
def clip50 (n : Int) : Int := max (-1125899906842624) (min n 1125899906842624)
theorem first38_any (j : Bool) (n : Int) (u : Value) (w : World) (hu : u.oneCell' = true) :
    Calls Tryz.prog 22 #[.agg #[.bool j, .int .i64 n, u]] w fun e w' => e = .returned (.int .i64 (clip50 n)) ∧ Below w.heap.size w w' := by
  go_enter Tryz.func22, Tryz.ntmps22
  go_wp2_with (go_at_call 42; refine (clipG_any _ _ _ _).mono ?_; rintro e w2 ⟨rfl, rfl⟩)
  go_ret
  exact ⟨rfl, (Below.refl _ _).alloc (Nat.le_refl _) _⟩
theorem of38_any (v : Value) (l : List Pg) (w : World) (hv : RowsV pcells 3 w v l) (hl : l.length ≤ 1000000) :
    Calls Tryz.prog 24 #[v] w fun e w' => ∃ u, e = .returned u ∧ OwnWin w' w.heap.size 56 3 u l.length (pvals l) ∧ Below w.heap.size w w' := by
  have HV := Lib.hid hv
  obtain ⟨va, vc, rfl, hvc⟩ := hv.form
  clear hv
  go_enter Tryz.func24, Tryz.ntmps24
  go_wp2
  go_loopw [3, 4] (fun u i wr => ∃ k : Nat, k ≤ l.length ∧ i = .int .i64 k ∧ OwnWin wr w.heap.size 56 3 u k (pvals (l.take k)) ∧ Below w.heap.size w wr) (fun _ i _ => l.length - (intOf i).toNat)
  case atStart => exact ⟨0, Nat.zero_le _, rfl, OwnWin.nil _ _ _ _, Below.refl _ _⟩
  case round =>
    obtain ⟨k, hk, rfl, ho, hb⟩ := hrel
    have HO := Lib.hid ho
    have HB := Lib.hid hb
    have hbz := hb.size
    obtain ⟨ua, uc, rfl, huc⟩ := ho.form
    clear ho
    by_cases hlt : k < l.length
    · obtain ⟨b, o, c, e, hc, hbz, hcell⟩ := (HV.out.below hb).at hlt
      cases e
      have p0 := hcell 0 _ rfl
      have p1 := hcell 1 _ rfl
      have p2 := hcell 2 _ rfl
      rw [Nat.add_zero] at p0
      rw [← Nat.add_assoc] at p1 p2
      have HSN := Lib.hid (take_snoc hlt)
      clear hcell hb
      generalize l[k] = y at p0 p1 p2 HSN
      obtain ⟨yk, yt, yv⟩ := y
      go_wp2_with (first | (go_at_call 43; refine (of36_any ⟨yk, yt, yv⟩ _).mono ?_; rintro e w4 ⟨rfl, hb4⟩; have hwc := hb4.size) | (at_builtin; have h1 : OwnWin w4 w.heap.size 56 3 (.slice ua k uc) k (pvals (l.take k)) := HO.out.older hb4; have h2 := SrcAt.one (heap_alloc_new w4 (.cells #[.int .i64 yk, .int .i64 yt, .string ⟨yv.toArray⟩] 56)) (c := 1); refine wpList_appw tyPgs (by rfl) _ _ (by rfl) w.heap.size _ k _ (by rfl) (h1.alloc _) (by simp; omega) _ 1 _ (by rfl) h2 (by rfl) (by simp [Value.oneCell']) (by omega) ?_; intro v' w5 hown5 hgrow5 hlies5; obtain ⟨a5, q5, rfl, hq5⟩ := hown5.form))
      go_roundw
      case rel => exact ⟨k + 1, by omega, by go_num, by rw [HSN.out, pvals_append, pvals_one]; exact hown5, below_grown ((HB.out.trans (hb4.mono HB.out.size)).alloc (by omega) _) hgrow5 (by simp <;> omega) (fun q hq => (HO.out.lt q hq).1)⟩
      case measure => simp [intOf]; omega
    · have hke : k = l.length := by omega
      subst hke
      go_wp2
      go_ret
      exact ⟨_, rfl, by have h := HO.out; rw [List.take_length] at h; exact h, HB.out⟩
end A1
end Go.Proofs.YtnppicekfjdefaaGreatDoor
