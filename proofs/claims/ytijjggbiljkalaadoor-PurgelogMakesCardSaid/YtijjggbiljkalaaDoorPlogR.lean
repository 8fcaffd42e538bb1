/- Contracts: the reference's Shrink, Get, Since over the log of purges. Conditions: logs of at most a million entries. -/
import Derived.Test.YtijjggbiljkalaaDoorPlog2
import Derived.Deep.RegionHeld3
namespace Go.Proofs.YtijjggbiljkalaaDoor
open Go.RowKit Pl Ad
attribute [local go_sem] ba_get ba_append ba_extract_end ba_extract_zero ba_extract
set_option maxRecDepth 100000
set_option maxHeartbeats 4000000
set_option linter.unusedVariables false
namespace A1
theorem tyRPgs : SliceTy Tryd.prog 49 39 3 32 :=
  ⟨Tryd.underlying49, by
    obtain ⟨i, h1, h2, h3, h4⟩ := info_parts (show (Tryd.prog.info? 39).map (fun i => (i.zero, i.size, i.bytes)) = some (some (.agg #[.int .i64 0, .int .i64 0, .string ⟨#[]⟩]), 3, 32) by kernel_rfl)
    exact ⟨i, _, h1, h2, h3, h4, rfl⟩, by decide, by decide⟩
/-- The reference's log. -/
@[reducible] def refV (u : Value) (L : LogM) : Value := .agg #[u, .int .i64 L.dropped, .int .i64 L.win]
/-- Its entries. -/
def RefOwn (w : World) (B : Nat) (u : Value) (L : LogM) : Prop := OwnWin w B 39 3 u L.all.length (pvals L.all)

theorem plogRShrink (u : Value) (L : LogM) (n : Int) (w : World) (hu : ∃ a c, u = .slice a L.all.length c) :
    Calls Tryd.prog 53 #[refV u L, .int .i64 n] w fun e w' => e = .returned (refV u (L.cut n)) ∧ Below w.heap.size w w' := by
  obtain ⟨ua, uc, rfl⟩ := hu
  obtain ⟨m, hm⟩ : ∃ m : Nat, max (L.dropped : Int) (min n (L.all.length : Int)) = (m : Int) := ⟨(max (L.dropped : Int) (min n (L.all.length : Int))).toNat, by omega⟩
  have HM := Lib.hid (show m = (L.cut n).dropped by show m = max L.dropped (min n (L.all.length : Int)).toNat; omega)
  go_enter Tryd.func53, Tryd.ntmps53
  go_wp2_with fail
  refine bodyPost_ret (v := .agg #[.slice ua L.all.length uc, .int .i64 (m : Int), .int .i64 L.win]) (by simp [results, Tryd.results53, go_sem]) rfl ⟨?_, ?_⟩
  · rw [HM.out]; rfl
  · (repeat (first | exact Below.refl _ _ | (refine Below.setCell ?_ (by simp) _) | (refine below_drewN ?_ _) | (refine Below.drew ?_) | (refine Below.alloc ?_ (by simp) _)))
theorem plogRGet (u : Value) (L : LogM) (n : Int) (w : World) (hu : ∃ a c, u = .slice a L.all.length c) :
    Calls Tryd.prog 55 #[refV u L, .int .i64 n] w fun e w' => e = .returned (.int .i64 (L.getC n)) ∧ Below w.heap.size w w' := by
  obtain ⟨ua, uc, rfl⟩ := hu
  by_cases h1 : n < 1
  · have HC := Lib.hid (show L.getC n = 3 from if_pos (.inl h1))
    go_enter Tryd.func55, Tryd.ntmps55
    go_wp2_with fail
    go_ret
    exact ⟨ret_int HC.out.symm, (Below.refl _ _).alloc (Nat.le_refl _) _⟩
  by_cases h2 : (L.all.length : Int) < n
  · have HC := Lib.hid (show L.getC n = 3 from if_pos (.inr h2))
    go_enter Tryd.func55, Tryd.ntmps55
    go_wp2_with fail
    go_ret
    exact ⟨ret_int HC.out.symm, (Below.refl _ _).alloc (Nat.le_refl _) _⟩
  by_cases h3 : n ≤ (L.dropped : Int)
  · have HC := Lib.hid (show L.getC n = 15 by unfold LogM.getC; rw [if_neg (by omega), if_pos h3])
    go_enter Tryd.func55, Tryd.ntmps55
    go_wp2_with fail
    go_ret
    exact ⟨ret_int HC.out.symm, (Below.refl _ _).alloc (Nat.le_refl _) _⟩
  · have HC := Lib.hid (show L.getC n = 0 by unfold LogM.getC; rw [if_neg (by omega), if_neg h3])
    go_enter Tryd.func55, Tryd.ntmps55
    go_wp2_with fail
    go_ret
    exact ⟨ret_int HC.out.symm, (Below.refl _ _).alloc (Nat.le_refl _) _⟩
theorem rows_own {w : World} {B : Nat} {e : TypeId} {v : Value} {l : List Pg} (h : OwnWin w B e 3 v l.length (pvals l)) : RowsV pcells 3 w v l := by
  rcases h.2 with ⟨h1, h2⟩ | ⟨g, o, cap, cur, rfl, hb, hg, hc, hm, hs, ht⟩
  · exact .inl ⟨List.eq_nil_of_length_eq_zero h2, .inl h1⟩
  · refine .inr ⟨g, o, cap, rfl, hc, (Array.getElem?_eq_some_iff.1 hg).1, fun i x hx j u hu => ?_⟩
    obtain ⟨hi, hix⟩ := List.getElem?_eq_some_iff.1 hx
    obtain ⟨g', o', c', e', _, _, _, _, hcell⟩ := h.cells (by omega)
    cases e'
    refine hcell (i * 3 + j) u ?_
    rw [← List.getElem?_drop, pvals_drop, drop_cons hi, pvals, hix]
    have hj : j < (pcells x).length := (List.getElem?_eq_some_iff.1 hu).1
    rw [List.getElem?_append_left hj]
    exact hu
theorem plogRSince (B : Nat) (u : Value) (L : LogM) (n : Int) (w : World) (hu : RefOwn w B u L) (hl : L.all.length ≤ 1000000) :
    Calls Tryd.prog 56 #[refV u L, .int .i64 n] w fun e w' => ∃ v, e = .returned (.tuple #[v, .int .i64 (L.sinceC n)]) ∧ RowsV pcells 3 w' v (L.since n) ∧ Below w.heap.size w w' := by
  have HU := Lib.hid hu
  by_cases h1 : n < 0
  · have HC := Lib.hid (show L.sinceC n = 1 from if_pos h1)
    have HS := Lib.hid (show L.since n = [] from if_pos (.inl h1))
    obtain ⟨ua, uc, rfl, _⟩ := hu.form
    clear hu
    go_enter Tryd.func56, Tryd.ntmps56
    go_wp2_with fail
    go_ret2
    exact ⟨.slice none 0 0, by rw [HC.out]; rfl, .inl ⟨HS.out, .inl rfl⟩, (Below.refl _ _).alloc (Nat.le_refl _) _⟩
  by_cases h2 : (L.all.length : Int) ≤ n
  · have HC := Lib.hid (show L.sinceC n = 0 by unfold LogM.sinceC; rw [if_neg h1, if_pos h2])
    have HS := Lib.hid (show L.since n = [] from if_pos (.inr (.inl h2)))
    obtain ⟨ua, uc, rfl, _⟩ := hu.form
    clear hu
    go_enter Tryd.func56, Tryd.ntmps56
    go_wp2_with fail
    go_ret2
    exact ⟨.slice none 0 0, by rw [HC.out]; rfl, .inl ⟨HS.out, .inl rfl⟩, (Below.refl _ _).alloc (Nat.le_refl _) _⟩
  by_cases h3 : n < (L.dropped : Int)
  · have HC := Lib.hid (show L.sinceC n = 15 by unfold LogM.sinceC; rw [if_neg h1, if_neg h2, if_pos h3])
    have HS := Lib.hid (show L.since n = [] from if_pos (.inr (.inr h3)))
    obtain ⟨ua, uc, rfl, _⟩ := hu.form
    clear hu
    go_enter Tryd.func56, Tryd.ntmps56
    go_wp2_with fail
    go_ret2
    exact ⟨.slice none 0 0, by rw [HC.out]; rfl, .inl ⟨HS.out, .inl rfl⟩, (Below.refl _ _).alloc (Nat.le_refl _) _⟩
  · have HC := Lib.hid (show L.sinceC n = 0 by unfold LogM.sinceC; rw [if_neg h1, if_neg h2, if_neg h3])
    have HS := Lib.hid (show L.since n = L.all.drop n.toNat from if_neg (by omega))
    obtain ⟨j, rfl⟩ : ∃ j : Nat, n = (j : Int) := ⟨n.toNat, by omega⟩
    obtain ⟨b, o, c, rfl, hc, _⟩ := hu.cells (by omega)
    have hj1 : j < c := by omega
    have hj2 : j < L.all.length := by omega
    have HD := Lib.hid (hu.drop (k := j) rfl (by omega) hj1)
    rw [pvals_drop] at HD
    have hne : ¬ c = j := by omega
    have hle : j ≤ L.all.length := by omega
    clear hu
    go_enter Tryd.func56, Tryd.ntmps56
    go_wp2_with fail
    go_ret2
    refine ⟨.slice (some ⟨b, o + j * 3, none⟩) (L.all.length - j) (c - j), by rw [HC.out]; rfl, ?_, (Below.refl _ _).alloc (Nat.le_refl _) _⟩
    rw [HS.out]
    exact rows_own (B := B) (e := 39) (by rw [List.length_drop]; exact HD.out.alloc _)
end A1
end Go.Proofs.YtijjggbiljkalaaDoor
