/- Plain Lean: what Read computes, and that reading an address' text gives the address. No condition. -/
import Derived.Test.YtijjggbiljkalaaDoorAddrJ
namespace Go.Proofs.YtijjggbiljkalaaDoor.Ad
open Pl

/-- What Read returns: the address of the parts before and from the first slash, if its text is the whole. -/
def readL (t : Bs) : Option Adr := match parse (cutAt 47 t).1 (t.drop (cutAt 47 t).1.length) with
  | .ok a => if a.text = t then some a else none
  | .error _ => none
theorem readL_ok {t : Bs} {a : Adr} (h : parse (cutAt 47 t).1 (t.drop (cutAt 47 t).1.length) = .ok a) (ht : a.text = t) : readL t = some a := by simp [readL, h, ht]
theorem readL_other {t : Bs} {a : Adr} (h : parse (cutAt 47 t).1 (t.drop (cutAt 47 t).1.length) = .ok a) (ht : ¬ a.text = t) : readL t = none := by simp [readL, h, ht]
theorem readL_err {t : Bs} {n : Int} (h : parse (cutAt 47 t).1 (t.drop (cutAt 47 t).1.length) = .error n) : readL t = none := by simp [readL, h]
theorem readL_some {t : Bs} {a : Adr} (h : readL t = some a) : parse (cutAt 47 t).1 (t.drop (cutAt 47 t).1.length) = .ok a ∧ a.text = t := by
  unfold readL at h
  split at h
  · rename_i b hb
    split at h
    · rename_i ht
      cases h
      exact ⟨hb, ht⟩
    · cases h
  · cases h

theorem parse_empty (h : Bs) : ∃ n, parse h [] = .error n := by
  unfold parse
  split
  · exact ⟨_, rfl⟩
  · rw [if_pos (by simp [cutAt])]; exact ⟨_, rfl⟩
/-- A text without a slash is no address. -/
theorem readL_miss {t : Bs} (h : (47 : UInt8) ∉ t) : readL t = none := by
  have hc := cutAt_miss 47 t h
  obtain ⟨n, hn⟩ := parse_empty t
  exact readL_err (n := n) (by rw [hc]; simpa using hn)

theorem mem_splitAcc (c b : UInt8) (hb : b ≠ c) : ∀ (acc l : Bs), b ∈ acc ∨ b ∈ l → ∃ x ∈ splitAcc c acc l, b ∈ x
  | acc, [], h => ⟨acc, by simp [splitAcc], by simpa using h⟩
  | acc, y :: t, h => by
    rw [splitAcc]
    split
    · rename_i hy
      rcases h with h | h
      · exact ⟨acc, List.mem_cons_self .., h⟩
      · rcases List.mem_cons.1 h with h | h
        · exact absurd (h.trans hy) hb
        · obtain ⟨x, hx, hbx⟩ := mem_splitAcc c b hb [] t (.inr h)
          exact ⟨x, List.mem_cons_of_mem _ hx, hbx⟩
    · refine mem_splitAcc c b hb (acc ++ [y]) t ?_
      rcases h with h | h
      · exact .inl (List.mem_append_left _ h)
      · rcases List.mem_cons.1 h with h | h
        · exact .inl (by rw [h]; simp)
        · exact .inr h
theorem host_no47 {h : Bs} (hk : hostOk h = true) : (47 : UInt8) ∉ h := by
  intro hm
  obtain ⟨x, hx, h47⟩ := mem_splitAcc 46 47 (by decide) [] h (.inr hm)
  unfold hostOk at hk
  rw [Bool.and_eq_true] at hk
  have h1 := List.all_eq_true.1 hk.2 x hx
  unfold labelB at h1
  rw [Bool.and_eq_true] at h1
  have h2 := List.all_eq_true.1 h1.2 47 h47
  revert h2; decide
theorem lowB_47 (b : UInt8) : lowB b = 47 → b = 47 := by
  have h : ∀ n : Fin 256, lowB (UInt8.ofNat n.val) = 47 → UInt8.ofNat n.val = 47 := by decide +kernel
  have := h ⟨b.toNat, b.toNat_lt⟩
  simpa using this
theorem lower_no47 {h : Bs} (hn : (47 : UInt8) ∉ h) : (47 : UInt8) ∉ lower h := by
  intro hm
  unfold lower at hm
  obtain ⟨b, hb, e⟩ := List.mem_map.1 hm
  exact hn (lowB_47 b e ▸ hb)

/-- Reading the text of an address out of Parse gives the address. -/
theorem read_text {h t : Bs} {a : Adr} (hp : parse h t = .ok a) : readL a.text = some a := by
  obtain ⟨hk, left, hne, _, ha, _, _, _⟩ := parse_form hp
  have hag := parse_again hp
  have h47 : (47 : UInt8) ∉ a.host := by rw [ha]; exact lower_no47 (host_no47 hk)
  have hpath : ∃ u, a.path = 47 :: u := by
    rw [ha]
    cases left with
    | nil => exact absurd rfl hne
    | cons x r => exact ⟨x ++ slashed r, by simp [slashed]⟩
  obtain ⟨u, hu⟩ := hpath
  have htxt : a.text = a.host ++ a.target := by simp [Adr.text, adText, Adr.target]
  have htg : a.target = 47 :: (u ++ (if a.has then 63 :: a.query else [])) := by simp [Adr.target, hu]
  have hcut : (cutAt 47 a.text).1 = a.host := by rw [htxt, htg, cutAt_hit 47 _ _ h47]
  refine readL_ok ?_ rfl
  rw [hcut]
  rw [show a.text.drop a.host.length = a.target by rw [htxt]; simp]
  exact hag
theorem read_valid {t : Bs} {a : Adr} (h : readL t = some a) : valid a = true := parse_valid (readL_some h).1
end Go.Proofs.YtijjggbiljkalaaDoor.Ad
