/- Plain Lean: a gate grows. No condition. -/
import Derived.Test.YtnppicekfjdefaaGreatDoorGLawB
namespace Go.Proofs.YtnppicekfjdefaaGreatDoor.Ad
open Pl
namespace GateM
structure Grow (g h : GateM) : Prop where
  ap : g.applied ≤ h.applied
  fl : g.floor ≤ h.floor
  kept : ∀ n : Int, h.floor ≤ n → n ≤ g.applied → ∃ t, h.kept.drop (n - h.floor).toNat = g.kept.drop (n - g.floor).toNat ++ t
theorem Grow.refl (g : GateM) : Grow g g := ⟨Int.le_refl _, Int.le_refl _, fun n _ _ => ⟨[], by simp⟩⟩
theorem Grow.trans {g h k : GateM} (a : Grow g h) (b : Grow h k) : Grow g k := by
  refine ⟨Int.le_trans a.ap b.ap, Int.le_trans a.fl b.fl, fun n h1 h2 => ?_⟩
  obtain ⟨s, hs⟩ := a.kept n (Int.le_trans b.fl h1) h2
  obtain ⟨t, ht⟩ := b.kept n h1 (Int.le_trans h2 a.ap)
  exact ⟨s ++ t, by rw [ht, hs, List.append_assoc]⟩
theorem Grow.withA {g h : GateM} (a : Grow g h) (l : List (Int × Pg)) : Grow g (h.withA l) := ⟨a.ap, a.fl, a.kept⟩
theorem push_grow (g : GateM) (p : Pg) (hl : (g.kept.length : Int) = g.applied - g.floor) : Grow g (g.push p) ∧ (((g.push p).kept.length : Int) = (g.push p).applied - (g.push p).floor) := by
  unfold push
  split
  · refine ⟨⟨by simp only; omega, by simp only; omega, fun n h1 h2 => ⟨[p], ?_⟩⟩, ?_⟩
    · simp only at h1 ⊢
      rw [List.drop_drop, show 1 + (n - (g.floor + 1)).toNat = (n - g.floor).toNat by omega]
      exact List.drop_append_of_le_length (by omega)
    · simp only [List.length_drop, List.length_append, List.length_cons, List.length_nil]; omega
  · refine ⟨⟨by simp only; omega, by simp only; omega, fun n h1 h2 => ⟨[p], ?_⟩⟩, ?_⟩
    · simp only at h1 ⊢
      exact List.drop_append_of_le_length (by omega)
    · simp only [List.length_append, List.length_cons, List.length_nil]; omega
theorem follow_grow : ∀ (l : List (Int × Pg)) (g : GateM), (g.kept.length : Int) = g.applied - g.floor → Grow g (g.follow l)
  | [], g, _ => (Grow.refl g).withA []
  | (n, p) :: r, g, hl => by
    unfold follow
    split
    · exact follow_grow r g hl
    · split
      · obtain ⟨h1, h2⟩ := push_grow g p hl
        exact h1.trans (follow_grow r _ h2)
      · exact (Grow.refl g).withA _
theorem one_grow (g : GateM) (n : Int) (p : Pg) (hl : (g.kept.length : Int) = g.applied - g.floor) : Grow g (g.one n p) := by
  unfold one
  split
  · exact Grow.refl g
  · split
    · obtain ⟨h1, h2⟩ := push_grow g p hl
      exact h1.trans (follow_grow _ _ h2)
    · unfold put
      split
      · exact Grow.refl g
      · exact (Grow.refl g).withA _
theorem apply_grow : ∀ (l : List Pg) (g : GateM) (n : Int), g.Ok → (∀ p ∈ l, p.value.length ≤ 134217728) → Grow g (g.apply n l)
  | [], g, _, _, _ => Grow.refl g
  | p :: r, g, n, ho, hs => by
    unfold apply
    split
    · rename_i hc
      exact (one_grow g n p ho.len).trans (apply_grow r _ _ (ok_one ho (hs p (by simp)) hc.2) (fun q hq => hs q (by simp [hq])))
    · exact Grow.refl g
theorem jump_grow (g : GateM) (n : Int) (ho : g.Ok) : Grow g (g.jump n) := by
  unfold jump
  split
  · exact Grow.refl g
  · rename_i hn
    have := ho.len
    refine Grow.trans (h := ⟨g.win, n, n, [], []⟩) ⟨by simp only; omega, by simp only; omega, fun m h1 h2 => ?_⟩ (follow_grow _ _ (by simp))
    simp only at h1; omega
theorem ok_doA {g : GateM} (a : GAct) (ho : g.Ok) (hs : ∀ p ∈ a.list, p.value.length ≤ 134217728) : (g.doA a).Ok := by
  unfold doA
  split
  · exact ok_jump ho _
  · exact ok_apply ho hs
theorem doA_grow (g : GateM) (a : GAct) (ho : g.Ok) (hs : ∀ p ∈ a.list, p.value.length ≤ 134217728) : Grow g (g.doA a) := by
  unfold doA
  split
  · exact jump_grow g _ ho
  · exact apply_grow _ g _ ho hs
theorem acceptC_grow {g h : GateM} (a : Grow g h) {x : It} {n : Int} (hr : g.acceptC x n = 18) : h.acceptC x n = 18 := by
  unfold acceptC at hr ⊢
  have h1 := a.ap
  have h2 := a.fl
  by_cases h0 : n < 0 ∨ g.applied < n
  · rw [if_pos h0] at hr; cases hr
  rw [if_neg h0] at hr
  rw [if_neg (by omega)]
  by_cases h3 : n < h.floor
  · rw [if_pos h3]
  rw [if_neg h3]
  rw [if_neg (by omega)] at hr
  obtain ⟨t, ht⟩ := a.kept n (by omega) (by omega)
  split at hr
  · rename_i hm
    rw [ht, List.any_append, hm]; rfl
  · cases hr
end GateM
end Go.Proofs.YtnppicekfjdefaaGreatDoor.Ad
