/- Contract: the reference's Parse. Conditions: texts of at most 2^29 bytes. The error codes of Parse, in the words of its contracts. No condition. -/
import Derived.Test.YtbpbopjlcidefaaDoorAddr8
import Derived.Test.YtbpbopjlcidefaaDoorAddr1
import Derived.Deep.RegionLaw
section
namespace Go.Proofs.YtbpbopjlcidefaaDoor
open Go.RowKit Pl Ad
attribute [local go_sem] ba_get conv_one conv_one_drewN ba_append ba_extract
set_option maxRecDepth 100000
set_option maxHeartbeats 4000000
set_option linter.unusedVariables false
namespace A1
attribute [local go_sem] optS_some
/-- What the reference's Parse returns: the address' value, the number of the error. -/
def codeOf : Except Int Adr → Int
  | .ok _ => 0
  | .error n => n

theorem Box.set1 {w : World} {R T : Nat} {v0 v1 v2 v3 : Value} (h : Box w R T v0 v1 v2 v3) (u : Value) : Box (w.setCell ⟨R, 1, none⟩ u) R T v0 u v2 v3 := by
  unfold Box at h ⊢
  simp [World.setCell, Array.getElem?_modify, h]
theorem Box.set2 {w : World} {R T : Nat} {v0 v1 v2 v3 : Value} (h : Box w R T v0 v1 v2 v3) (u : Value) : Box (w.setCell ⟨R, 2, none⟩ u) R T v0 v1 u v3 := by
  unfold Box at h ⊢
  simp [World.setCell, Array.getElem?_modify, h]
theorem pathC {h q : Bs} {xs : List Bs} {has : Bool} {r : Except Int Adr} (hr : r = match dotsL xs [] with
        | none => .error 27
        | some left => if (adText h (slashed left) q has).length > 1024 then .error 5 else .ok ⟨h, slashed left, q, has⟩) :
    (dotsR xs = none → r = .error 27) ∧ (∀ l, dotsR xs = some l → ((adText h l q has).length > 1024 → r = .error 5) ∧ (¬ (adText h l q has).length > 1024 → r = .ok ⟨h, l, q, has⟩)) := by
  subst hr
  unfold dotsR
  cases dotsL xs [] with
  | none => exact ⟨fun _ => rfl, fun l hl => (by cases hl)⟩
  | some left =>
    refine ⟨fun x => (by cases x), fun l hl => ?_⟩
    cases hl
    exact ⟨fun x => if_pos x, fun x => if_neg x⟩

theorem cutAt_forms (t : Bs) : cutAt 63 t = (t, [], false) ∧ 63 ∉ t ∨ ∃ p q, t = p ++ 63 :: q ∧ 63 ∉ p ∧ cutAt 63 t = (p, q, true) := by
  by_cases h : (63 : UInt8) ∈ t
  · rcases indexByte_one 63 t with ⟨_, h2⟩ | ⟨p, q, rfl, h2, _⟩
    · exact absurd h h2
    · exact .inr ⟨p, q, rfl, h2, cutAt_hit 63 q p h2⟩
  · exact .inl ⟨cutAt_miss 63 t h, h⟩

theorem dots_len (u l : Bs) (h : (dotsL (splitOn 47 u) []).map slashed = some l) (hu : u.length ≤ 536870912) : l.length ≤ 536870913 := by
  cases hd : dotsL (splitOn 47 u) [] with
  | none => rw [hd] at h; cases h
  | some left =>
    rw [hd] at h
    cases h
    have := dotsL_room (splitOn 47 u) [] left hd
    rw [room_nil, room_splitOn] at this
    unfold room at this
    omega

end A1
end Go.Proofs.YtbpbopjlcidefaaDoor
end

section
namespace Go.Proofs.YtbpbopjlcidefaaDoor
open Go.RowKit Pl Ad
namespace A1
theorem parseV_ok (a : Adr) : parseV (.ok a) = adV a := rfl
theorem parseV_err (n : Int) : parseV (.error n) = ad0 := rfl
theorem codeOf_ok (a : Adr) : codeOf (.ok a) = 0 := rfl
theorem codeOf_err (n : Int) : codeOf (.error n) = n := rfl
theorem parse_code {h t : Bs} {n : Int} (hp : parse h t = .error n) : ¬ n = 0 := by
  rcases parse_ways h t with ⟨_, e⟩ | ⟨_, _, e⟩ | ⟨_, _, _, _, _, _, e⟩ | ⟨_, _, _, _, u, _, _, _, _, e⟩
  · rw [e] at hp; cases hp; decide
  · rw [e] at hp; cases hp; decide
  · rw [e] at hp; cases hp; decide
  · rw [e] at hp
    cases hd : dotsL (splitOn 47 u) [] with
    | none => rw [hd] at hp; cases hp; decide
    | some left =>
      rw [hd] at hp
      simp only at hp
      split at hp <;> cases hp
      decide

end A1
end Go.Proofs.YtbpbopjlcidefaaDoor
end
