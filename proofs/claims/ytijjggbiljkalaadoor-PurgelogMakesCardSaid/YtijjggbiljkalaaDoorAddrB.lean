/- Contract: address.Parse, in one statement. Conditions: texts of at most 2^29 bytes. -/
import Derived.Test.YtijjggbiljkalaaDoorAddrA
namespace Go.Proofs.YtijjggbiljkalaaDoor
open Go.RowKit Pl Ad
namespace A1

def parseV : Except Int Adr → Value
  | .ok a => adV a
  | .error _ => ad0
def parseE : Except Int Adr → Value
  | .ok _ => .nilIface
  | .error n => errV n

theorem head_47 {p : Bs} (h : p.head? = some 47) : ∃ u, p = 47 :: u := by
  cases p with
  | nil => cases h
  | cons x t => simp at h; exact ⟨t, by rw [h]⟩

/-- The ways through Parse. -/
theorem parse_ways (h t : Bs) :
    (hostOk h = false ∧ parse h t = .error 8) ∨
    (hostOk h = true ∧ (cutAt 63 t).1.head? ≠ some 47 ∧ parse h t = .error 27) ∨
    (hostOk h = true ∧ ∃ p q has, cutAt 63 t = (47 :: p, q, has) ∧ (canon (47 :: p) marksP = none ∨ canon q marksQ = none) ∧ parse h t = .error 27) ∨
    (hostOk h = true ∧ ∃ p q has u q2, cutAt 63 t = (47 :: p, q, has) ∧ canon (47 :: p) marksP = some (47 :: u) ∧ canon q marksQ = some q2 ∧
      parse h t = match dotsL (splitOn 47 u) [] with
        | none => .error 27
        | some left => if (adText (lower h) (slashed left) q2 has).length > 1024 then .error 5 else .ok ⟨lower h, slashed left, q2, has⟩) := by
  cases hk : hostOk h with
  | false => exact .inl ⟨rfl, by simp [parse, hk]⟩
  | true =>
    refine .inr ?_
    by_cases hs : (cutAt 63 t).1.head? = some 47
    · refine .inr ?_
      obtain ⟨p, hp⟩ := head_47 hs
      have hcut : cutAt 63 t = (47 :: p, (cutAt 63 t).2.1, (cutAt 63 t).2.2) := by rw [← hp]
      cases hc1 : canon (47 :: p) marksP with
      | none => exact .inl ⟨rfl, p, _, _, hcut, .inl hc1, by simp [parse, hk, hp, hc1]⟩
      | some p2 =>
        cases hc2 : canon (cutAt 63 t).2.1 marksQ with
        | none => exact .inl ⟨rfl, p, _, _, hcut, .inr hc2, by simp [parse, hk, hp, hc1, hc2]⟩
        | some q2 =>
          obtain ⟨u, rfl, hu⟩ := canon_slash p p2 hc1
          refine .inr ⟨rfl, p, _, _, u, q2, hcut, hc1, hc2, ?_⟩
          simp [parse, hk, hp, hc1, hc2]
          rfl
    · exact .inl ⟨rfl, hs, by simp [parse, hk, hs]⟩

theorem path_parse (h : Bs) (xs : List Bs) (q : Bs) (has : Bool) (r : Except Int Adr)
    (hr : r = match dotsL xs [] with
        | none => .error 27
        | some left => if (adText h (slashed left) q has).length > 1024 then .error 5 else .ok ⟨h, slashed left, q, has⟩) : pathV h xs q has = parseV r ∧ pathE h xs q has = parseE r := by
  subst hr
  unfold pathV pathE
  cases dotsL xs [] with
  | none => exact ⟨rfl, rfl⟩
  | some left =>
    simp only
    split <;> exact ⟨rfl, rfl⟩

theorem parse_any (h t : Bs) (w : World) (hh : h.length ≤ 536870912) (ht : t.length ≤ 536870912) (hr : Ready w) :
    Calls Tryd.prog 72 #[.string ⟨h.toArray⟩, .string ⟨t.toArray⟩] w fun e w' => e = .returned (.tuple #[parseV (parse h t), parseE (parse h t)]) ∧ Below w.heap.size w w' := by
  have hcl := cutAt_len 63 t
  rcases parse_ways h t with ⟨hk, e⟩ | ⟨hk, hs, e⟩ | ⟨hk, p, q, has, hs, hc, e⟩ | ⟨hk, p, q, has, u, q2, hs, hc1, hc2, e⟩
  · rw [e]; exact parse_host h t w hh hr hk
  · rw [e]; exact parse_slash h t w hh ht hr hk hs
  · rw [hs] at hcl; simp at hcl
    rw [e]; exact parse_canon h t p q has w hh ht (by omega) (by omega) hr hk hs hc
  · rw [hs] at hcl; simp at hcl
    obtain ⟨e1, e2⟩ := path_parse (lower h) (splitOn 47 u) q2 has _ e
    rw [← e1, ← e2]
    exact parse_dots h t p q u q2 has w hh ht (by omega) (by omega) hr hk hs hc1 hc2

theorem parse_ok {h t : Bs} {a : Adr} (w : World) (hh : h.length ≤ 536870912) (ht : t.length ≤ 536870912) (hr : Ready w) (hp : parse h t = .ok a) :
    Calls Tryd.prog 72 #[.string ⟨h.toArray⟩, .string ⟨t.toArray⟩] w fun e w' => e = .returned (.tuple #[adV a, .nilIface]) ∧ Below w.heap.size w w' := by
  have := parse_any h t w hh ht hr
  rw [hp] at this; exact this
theorem parse_err {h t : Bs} {n : Int} (w : World) (hh : h.length ≤ 536870912) (ht : t.length ≤ 536870912) (hr : Ready w) (hp : parse h t = .error n) :
    Calls Tryd.prog 72 #[.string ⟨h.toArray⟩, .string ⟨t.toArray⟩] w fun e w' => e = .returned (.tuple #[ad0, errV n]) ∧ Below w.heap.size w w' := by
  have := parse_any h t w hh ht hr
  rw [hp] at this; exact this
end A1
end Go.Proofs.YtijjggbiljkalaaDoor
