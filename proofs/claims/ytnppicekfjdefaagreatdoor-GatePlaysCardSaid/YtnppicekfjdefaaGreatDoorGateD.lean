/- Contract: the gate's Missing. Conditions: the gate's own bounds. -/
import Derived.Test.YtnppicekfjdefaaGreatDoorGateB
import Derived.WalkKit
namespace Go.Proofs.YtnppicekfjdefaaGreatDoor
open Go.RowKit Pl Ad Go.Maps
attribute [local go_sem] ba_get ba_append ba_extract_end ba_extract_zero ba_extract
set_option maxRecDepth 100000
set_option maxHeartbeats 4000000
set_option linter.unusedVariables false
set_option linter.unusedSimpArgs false
namespace A1
/-- What Missing's second result is while the keys are gone through: left tells what is still to come. -/
def MissI (ap : Int) (l : List (Int × Pg)) (left : Lit → Bool) (tt : Int) : Prop :=
  ((∀ e ∈ l, left (.int .i64 e.1) = true) ∧ tt = ap) ∨ ∃ e ∈ l, left (.int .i64 e.1) = false ∧ tt = e.1 - 1 ∧ ∀ x ∈ l, left (.int .i64 x.1) = false → e.1 ≤ x.1
theorem missI_start (ap : Int) (l : List (Int × Pg)) : MissI ap l (Maps.has (mapD l)) ap := .inl ⟨fun e he => by rw [mapD_has]; simp only [GateM.hasK, List.any_eq_true]; exact ⟨e, he, by simp⟩, rfl⟩
theorem left_same {left : Lit → Bool} {k x : Int} : (left (.int .i64 x) && !(Lit.int .i64 x).sameKey (.int .i64 k)) = false ↔ left (.int .i64 x) = false ∨ x = k := by
  rw [same_i]
  cases left (.int .i64 x) <;> simp
theorem missI_more {ap tt k : Int} {l : List (Int × Pg)} {left : Lit → Bool} (h : MissI ap l left tt) (hm : ∃ e ∈ l, e.1 = k) (hfar : ∀ e ∈ l, ap + 1 < e.1) :
    MissI ap l (fun z => left z && !z.sameKey (.int .i64 k)) (if tt = ap ∨ k - 1 < tt then k - 1 else tt) := by
  obtain ⟨ek, hek, rfl⟩ := hm
  right
  rcases h with ⟨h1, rfl⟩ | ⟨e, he, h1, rfl, h2⟩
  · refine ⟨ek, hek, left_same.2 (.inr rfl), by rw [if_pos (.inl rfl)], fun x hx hl => ?_⟩
    rcases left_same.1 hl with h3 | h3
    · rw [h1 x hx] at h3; cases h3
    · omega
  · have := hfar e he
    by_cases hlt : ek.1 - 1 < e.1 - 1
    · refine ⟨ek, hek, left_same.2 (.inr rfl), by rw [if_pos (.inr hlt)], fun x hx hl => ?_⟩
      rcases left_same.1 hl with h3 | h3
      · have := h2 x hx h3; omega
      · omega
    · refine ⟨e, he, left_same.2 (.inl h1), by rw [if_neg (by omega)], fun x hx hl => ?_⟩
      rcases left_same.1 hl with h3 | h3
      · exact h2 x hx h3
      · omega
theorem missI_end {tt : Int} {g : GateM} {left : Lit → Bool} (h : MissI g.applied g.aside left tt) (hl : ∀ kl, left kl = false) (ha : GateM.Asc g.aside) : tt = g.missTo := by
  unfold GateM.missTo
  rcases h with ⟨h1, rfl⟩ | ⟨e, he, h1, rfl, h2⟩
  · cases hg : g.aside with
    | nil => rfl
    | cons x r => rw [hg] at h1; have := h1 x (by simp); rw [hl] at this; cases this
  · cases hg : g.aside with
    | nil => rw [hg] at he; cases he
    | cons x r =>
      rw [hg] at he h2 ha
      have h3 := h2 x (by simp) (hl _)
      rcases List.mem_cons.1 he with rfl | he
      · rfl
      · have := (List.pairwise_cons.1 ha).1 e he
        simp only; omega
theorem key_in {l : List (Int × Pg)} {x : Int} {y : DataW Unit} (h : ∀ zd, (mapD l).atKey (.int .i64 x) zd = y) : ∃ e ∈ l, e.1 = x := by
  have hh := Maps.has_true_of_atKey h
  rw [mapD_has] at hh
  simp only [GateM.hasK, List.any_eq_true, beq_iff_eq] at hh
  exact hh
theorem below_grownNone {w w' : World} (h : w.grownBy w' none) : Below w.heap.size w w' := ⟨h.os, h.tape, h.output, h.size, fun k hk => h.block k hk (by simp)⟩
theorem gateMissing (B R M : Nat) (v : Value) (g : GateM) (w : World) (h : GateAt w B R M v g g.aside) (ho : g.Ok) :
    Calls Tryz.prog 25 #[ptrV R] w fun e w' => e = .returned (.tuple #[.int .i64 g.applied, .int .i64 g.missTo]) ∧ Below w.heap.size w w' := by
  have HG := Lib.hid h
  have HO := Lib.hid ho
  obtain ⟨⟨c0, c1, c2, c3, c4⟩, _, hz⟩ := h.box.facts
  have hap : 0 ≤ g.applied := by have := ho.lo; have := ho.len; omega
  have hap2 := ho.hi
  clear h ho
  go_enter Tryz.func25, Tryz.ntmps25
  go_wp2_with (first
    | (at_range; refine wpList_range_own _ rfl _ 61 rfl 3 56 keyedI Tryz.underlying61 pgElem M _ _ rfl HG.out.map ?_; intro w0 hrg0 hg0 hs0)
    | go_in)
  go_frame
  go_loopw [3] (fun s3 wr => ∃ (tt : Int) (left : Lit → Bool) (cnt : Nat), s3 = .int .i64 tt ∧ Hid (MissI g.applied g.aside left tt) ∧ 0 ≤ tt ∧ tt ≤ 1099511627776 ∧ wr.ranges Tryz.prog 3 pgElem M w.heap.size g.aside.length (mapD g.aside) left cnt ∧ w.grownBy wr none)
    (fun _ wr => wr.rangeLeft M w.heap.size)
  case atStart => exact ⟨_, _, _, rfl, Lib.hid (missI_start _ _), hap, hap2, hrg0, hg0⟩
  case round =>
    obtain ⟨tt, left, cnt, rfl, HI, ht0, ht1, hrg, hgw⟩ := hrel
    have HGW := Lib.hid hgw
    have HRG := Lib.hid hrg
    obtain ⟨⟨x0, x1, x2, x3, x4⟩, _, hzr⟩ := (HG.out.box.older (below_grownNone hgw)).facts
    clear hrg hgw hrg0 hg0
    go_wp2_with (first
      | (at_next; refine wpList_next_ranges _ rfl _ rfl 3 keyedI pgElem (Value.int .i64) pgV (fun key kl hk => by obtain ⟨x, rfl, _⟩ := Maps.keyOf_int_inv Tryz.underlying3 hk; exact ⟨x, rfl⟩) (fun v y hv => by obtain ⟨p, rfl, _⟩ := pgElem_inv hv; exact ⟨p, rfl⟩) M w.heap.size _ _ _ _ rfl HRG.out ?_ ?_)
      | go_in)
    · intro _ hl0
      have HE := Lib.hid (missI_end HI.out hl0 HO.out.asc)
      go_wp2
      go_ret2
      exact ⟨by rw [← HE.out]; rfl, below_grownNone HGW.out⟩
    · intro x p kl y yps w1 cnt1 hkey hlk hv hat hrg1 hlt hg1 hs1 hen
      obtain ⟨x', ex, rfl, hwx⟩ := Maps.keyOf_int_inv Tryz.underlying3 hkey
      cases ex
      have hin := key_in hat
      have hx : g.applied + 1 < x ∧ x ≤ 1099511627776 := by
        obtain ⟨e, he, rfl⟩ := hin
        exact HO.out.far e he
      have hx0 := hx.1
      have hx1 := hx.2
      have HN := Lib.hid (missI_more HI.out hin (fun e he => (HO.out.far e he).1))
      have HG1 := Lib.hid (HGW.out.andThen hg1 (fun j hj => by cases hj; exact Or.inl (Nat.le_refl _)))
      have HR1 := Lib.hid hrg1
      have HL1 := Lib.hid hlt
      have HEN := Lib.hid hen
      clear x0 x1 x2 x3 x4
      obtain ⟨⟨x0, x1, x2, x3, x4⟩, _, hzr1⟩ := (HG.out.box.older (below_grownNone HG1.out)).facts
      clear hin hx hkey hlk hv hat hrg1 hlt hg1 hs1
      by_cases ht : tt = g.applied
      · subst ht
        have HN2 := Lib.hid (show MissI g.applied g.aside _ (x - 1) by have h := HN.out; rw [if_pos (.inl rfl)] at h; exact h)
        go_wp2
        go_roundw
        case rel => exact ⟨x - 1, _, cnt1, rfl, HN2, by omega, by omega, HR1.out, HG1.out⟩
        case measure => rw [HR1.out.left_eq, HRG.out.left_eq]; exact HL1.out
      · have hb : (tt == g.applied) = false := by simpa using ht
        by_cases hlt : x - 1 < tt
        · have HN2 := Lib.hid (show MissI g.applied g.aside _ (x - 1) by have h := HN.out; rw [if_pos (.inr hlt)] at h; exact h)
          clear ht
          go_wp2
          go_roundw
          case rel => exact ⟨x - 1, _, cnt1, rfl, HN2, by omega, by omega, HR1.out, HG1.out⟩
          case measure => rw [HR1.out.left_eq, HRG.out.left_eq]; exact HL1.out
        · have HN2 := Lib.hid (show MissI g.applied g.aside _ tt by have h := HN.out; rw [if_neg (by omega)] at h; exact h)
          clear ht
          go_wp2
          go_roundw
          case rel => exact ⟨tt, _, cnt1, rfl, HN2, by omega, by omega, HR1.out, HG1.out⟩
          case measure => rw [HR1.out.left_eq, HRG.out.left_eq]; exact HL1.out
end A1
end Go.Proofs.YtnppicekfjdefaaGreatDoor
