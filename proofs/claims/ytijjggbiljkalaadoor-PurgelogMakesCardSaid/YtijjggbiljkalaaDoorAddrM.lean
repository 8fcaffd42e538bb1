/- Plain Lean: the segments of a path and the arguments of a query. No condition. -/
import Derived.Test.YtijjggbiljkalaaDoorAddrL
namespace Go.Proofs.YtijjggbiljkalaaDoor.Ad
open Pl

/-- The segments of a path. -/
def segs (p : Bs) : List Bs := if (cutAt 47 p).2.2 then splitOn 47 (cutAt 47 p).2.1 else []
theorem cutAt_ways (c : UInt8) (l : Bs) : (c ∉ l ∧ cutAt c l = (l, [], false)) ∨ ∃ p q, l = p ++ c :: q ∧ c ∉ p ∧ cutAt c l = (p, q, true) := by
  rcases indexByte_one c l with ⟨_, h⟩ | ⟨p, q, rfl, h, _⟩
  · exact .inl ⟨h, cutAt_miss c l h⟩
  · exact .inr ⟨p, q, rfl, h, cutAt_hit c q p h⟩
theorem segs_miss {p : Bs} (h : (47 : UInt8) ∉ p) : segs p = [] := by simp [segs, cutAt_miss 47 p h]
theorem segs_hit {p q : Bs} (h : (47 : UInt8) ∉ p) : segs (p ++ 47 :: q) = splitOn 47 q := by simp [segs, cutAt_hit 47 q p h]
/-- The reference's way: all parts but the first. -/
theorem segs_split (p : Bs) : (splitOn 47 p).drop 1 = segs p := by
  rcases cutAt_ways 47 p with ⟨h, _⟩ | ⟨a, q, rfl, h, _⟩
  · rw [segs_miss h, splitOn, splitAcc_miss 47 [] p h]; rfl
  · rw [segs_hit h, splitOn_append, splitOn, splitAcc_miss 47 [] a h]; rfl
theorem slashed_splitAcc : ∀ (acc q : Bs), slashed (splitAcc 47 acc q) = 47 :: (acc ++ q)
  | acc, [] => by rw [splitAcc, slashed_one]; simp
  | acc, b :: t => by
    rw [splitAcc]
    split
    · rename_i hb
      rw [show acc :: splitAcc 47 [] t = [acc] ++ splitAcc 47 [] t from rfl, slashed_append, slashed_one, slashed_splitAcc [] t, hb]; simp
    · rw [slashed_splitAcc]; simp
/-- What follows the first slash, with it. -/
theorem slashed_segs (p : Bs) : slashed (segs p) = p.drop (cutAt 47 p).1.length := by
  rcases cutAt_ways 47 p with ⟨h, e⟩ | ⟨a, q, rfl, h, e⟩
  · rw [segs_miss h, e]; simp [slashed]
  · rw [segs_hit h, e, splitOn, slashed_splitAcc]; simp

/-- Does a part of a query have the name, with '=' behind it? -/
def argIs (n x : Bs) : Bool := (n ++ [61]).isPrefixOf x
def argFind (n : Bs) : List Bs → Option Bs
  | [] => none
  | x :: r => if argIs n x then some (x.drop (n.length + 1)) else argFind n r
/-- The value of an argument of a query. -/
def argL (q n : Bs) (has : Bool) : Option Bs := if has then argFind n (splitOn 38 q) else none
theorem argFind_nil (n : Bs) : argFind n [] = none := rfl
theorem argFind_hit {n x : Bs} (r : List Bs) (h : argIs n x = true) : argFind n (x :: r) = some (x.drop (n.length + 1)) := by simp [argFind, h]
theorem argFind_miss {n x : Bs} (r : List Bs) (h : argIs n x = false) : argFind n (x :: r) = argFind n r := by simp [argFind, h]
theorem argIs_take (n x : Bs) : argIs n x = (decide (n.length < x.length) && (x.take n.length == n) && decide (x.getD n.length 0 = 61)) := by
  rw [Bool.eq_iff_iff]
  simp only [argIs, List.isPrefixOf_iff_prefix, Bool.and_eq_true, decide_eq_true_eq, beq_iff_eq]
  constructor
  · rintro ⟨t, rfl⟩
    refine ⟨⟨by simp, by simp⟩, ?_⟩
    simp [List.getD]
  · rintro ⟨⟨h1, h2⟩, h3⟩
    refine ⟨x.drop (n.length + 1), ?_⟩
    have h4 : x[n.length] = 61 := by simpa [List.getD, h1] using h3
    conv => rhs; rw [← List.take_append_drop n.length x, drop_cons h1, h2, h4]
    simp
theorem argIs_eq (n v : Bs) : argIs n (n ++ 61 :: v) = true := by
  simp only [argIs, List.isPrefixOf_iff_prefix]
  exact ⟨v, by simp⟩
theorem drop_arg (n v : Bs) : (n ++ 61 :: v).drop (n.length + 1) = v := by
  rw [show n ++ 61 :: v = (n ++ [61]) ++ v by simp, show n.length + 1 = (n ++ [61]).length by simp, List.drop_left]
/-- A name without '=' is the part before the first '='. -/
theorem argIs_name {n m v : Bs} (hn : (61 : UInt8) ∉ n) (hm : (61 : UInt8) ∉ m) (h : argIs n (m ++ 61 :: v) = true) : n = m := by
  simp only [argIs, List.isPrefixOf_iff_prefix] at h
  obtain ⟨t, h⟩ := h
  have h1 := cutAt_hit 61 t n hn
  have h2 := cutAt_hit 61 v m hm
  rw [show n ++ 61 :: t = m ++ 61 :: v by rw [← h]; simp] at h1
  rw [h1] at h2
  exact (Prod.mk.inj h2).1
/-- A name with '=x' behind it: no part with one '=' whose value has none. -/
theorem argIs_more {n m v : Bs} (hn : (61 : UInt8) ∉ n) (hm : (61 : UInt8) ∉ m) (hv : (61 : UInt8) ∉ v) : argIs (n ++ [61, 120]) (m ++ 61 :: v) = false := by
  rw [Bool.eq_false_iff]
  intro h
  simp only [argIs, List.isPrefixOf_iff_prefix] at h
  obtain ⟨t, h⟩ := h
  have h1 := cutAt_hit 61 (120 :: 61 :: t) n hn
  have h2 := cutAt_hit 61 v m hm
  rw [show n ++ 61 :: 120 :: 61 :: t = m ++ 61 :: v by rw [← h]; simp] at h1
  rw [h1] at h2
  have h3 := (Prod.mk.inj (Prod.mk.inj h2).2).1
  exact hv (by rw [← h3]; simp)

/-- The query of the law. -/
def lawQ (n v : Bs) : Bs := [97, 61, 49, 38] ++ n ++ 61 :: v ++ 38 :: n ++ [61, 111, 116, 104, 101, 114]
theorem lawQ_split {n v : Bs} (hn : (38 : UInt8) ∉ n) (hv : (38 : UInt8) ∉ v) : splitOn 38 (lawQ n v) = [[97, 61, 49], n ++ 61 :: v, n ++ [61, 111, 116, 104, 101, 114]] := by
  have e : lawQ n v = [97, 61, 49] ++ 38 :: ((n ++ 61 :: v) ++ 38 :: (n ++ [61, 111, 116, 104, 101, 114])) := by simp [lawQ]
  have m1 : (38 : UInt8) ∉ n ++ 61 :: v := by
    simp only [List.mem_append, List.mem_cons, not_or]
    exact ⟨hn, by decide, hv⟩
  have m2 : (38 : UInt8) ∉ n ++ [61, 111, 116, 104, 101, 114] := by
    simp only [List.mem_append, not_or]
    exact ⟨hn, by decide⟩
  rw [e, splitOn_append, splitOn_append]
  simp only [splitOn]
  rw [splitAcc_miss 38 [] _ m1, splitAcc_miss 38 [] _ m2]
  rfl
theorem lawQ_arg {n v : Bs} (hn : (38 : UInt8) ∉ n ∧ (61 : UInt8) ∉ n) (hv : (38 : UInt8) ∉ v ∧ (61 : UInt8) ∉ v) : argL (lawQ n v) n true = some (if n = [97] then [49] else v) := by
  unfold argL
  rw [if_pos rfl, lawQ_split hn.1 hv.1]
  by_cases h : n = [97]
  · subst h
    rw [if_pos rfl, argFind_hit (x := [97, 61, 49]) _ (argIs_eq [97] [49])]; rfl
  · rw [if_neg h, argFind_miss (x := [97, 61, 49]) _ (by
      rw [Bool.eq_false_iff]; intro hx
      exact h (argIs_name (m := [97]) (v := [49]) hn.2 (by decide) hx)), argFind_hit _ (argIs_eq n v), drop_arg]
theorem lawQ_none {n v : Bs} (hn : (38 : UInt8) ∉ n ∧ (61 : UInt8) ∉ n) (hv : (38 : UInt8) ∉ v ∧ (61 : UInt8) ∉ v) : argL (lawQ n v) (n ++ [61, 120]) true = none := by
  unfold argL
  rw [if_pos rfl, lawQ_split hn.1 hv.1, argFind_miss (x := [97, 61, 49]) _ (argIs_more (m := [97]) (v := [49]) hn.2 (by decide) (by decide)), argFind_miss _ (argIs_more hn.2 hn.2 hv.2),
    argFind_miss _ (argIs_more (v := [111, 116, 104, 101, 114]) hn.2 hn.2 (by decide))]
  rfl
theorem lawQ_off (n v : Bs) : argL (lawQ n v) n false = none := rfl
end Go.Proofs.YtijjggbiljkalaaDoor.Ad
