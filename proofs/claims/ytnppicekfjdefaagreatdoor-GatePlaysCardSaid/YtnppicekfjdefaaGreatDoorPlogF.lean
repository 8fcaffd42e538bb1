/- Contracts: the laws' fits and Are over the log of purges. Conditions: at most a million purges. -/
import Derived.Test.YtnppicekfjdefaaGreatDoorPlogR
import Derived.Test.YtnppicekfjdefaaGreatDoorPurg6
import Derived.Test.YtnppicekfjdefaaGreatDoorPurg4
namespace Go.Proofs.YtnppicekfjdefaaGreatDoor
open Go.RowKit Pl Ad
attribute [local go_sem] ba_get ba_append ba_extract_end ba_extract_zero ba_extract
set_option maxRecDepth 100000
set_option maxHeartbeats 4000000
set_option linter.unusedVariables false
namespace A1
theorem neq_pg (k t k' t' : Int) (v v' : Bs) (w : World) : (binOp .neq 56 (.agg #[.int .i64 k, .int .i64 t, .string ⟨v.toArray⟩]) (.agg #[.int .i64 k', .int .i64 t', .string ⟨v'.toArray⟩])).run Tryz.prog w = .ok (.bool (!(k == k' && (t == t' && v == v')))) w := by
  rw [run_neq_struct, run_equalIn_agg w 9999 _ _ _ und_pg held_pg]
  simp [go_sem]
  by_cases h1 : k = k' <;> by_cases h2 : t = t' <;> by_cases h3 : v = v' <;> simp [h1, h2, h3]
attribute [local go_sem] guard_pg eql_pg neq_pg
/-- The cells of the k-th row. -/
theorem RowsV.at {α : Type} {R : α → List Value} {k : Nat} {w : World} {v : Value} {xs : List α} (h : RowsV R k w v xs) {i : Nat} (hi : i < xs.length) :
    ∃ b o c : Nat, v = .slice (some ⟨b, o, none⟩) xs.length c ∧ xs.length ≤ c ∧ b < w.heap.size ∧ ∀ j u, (R xs[i])[j]? = some u → w.cell? ⟨b, o + (i * k + j), none⟩ = some u := by
  rcases h with ⟨rfl, _⟩ | ⟨b, o, c, h1, h2, h3, h4⟩
  · simp at hi
  · exact ⟨b, o, c, h1, h2, h3, fun j u hu => h4 i xs[i] (List.getElem?_eq_getElem hi) j u hu⟩
theorem are_any (l : List Pg) (v u : Value) (w : World) (hv : RowsV pcells 3 w v l) (hu : RowsV pcells 3 w u l) (hl : l.length ≤ 1000000) :
    Calls Tryz.prog 30 #[v, u] w fun e w' => e = .returned (.bool true) ∧ Below w.heap.size w w' := by
  have HV := Lib.hid hv
  have HU := Lib.hid hu
  obtain ⟨va, vc, rfl, hvc⟩ := hv.form
  obtain ⟨ua, uc, rfl, huc⟩ := hu.form
  clear hv hu
  go_enter Tryz.func30, Tryz.ntmps30
  go_wp2
  go_loopw [5] (fun i wr => ∃ k : Nat, k ≤ l.length ∧ i = .int .i64 k ∧ Below w.heap.size w wr) (fun i _ => l.length - (intOf i).toNat)
  case atStart => exact ⟨0, Nat.zero_le _, rfl, Below.refl _ _⟩
  case round =>
    obtain ⟨k, hk, rfl, hb⟩ := hrel
    have HB := Lib.hid hb
    by_cases hlt : k < l.length
    · obtain ⟨b, o, c, e, hc, hbz, hcell⟩ := (HV.out.below hb).at hlt
      cases e
      obtain ⟨b2, o2, c2, e, hc2, hbz2, hcell2⟩ := (HU.out.below hb).at hlt
      cases e
      have p0 := hcell 0 _ rfl
      have p1 := hcell 1 _ rfl
      have p2 := hcell 2 _ rfl
      have q0 := hcell2 0 _ rfl
      have q1 := hcell2 1 _ rfl
      have q2 := hcell2 2 _ rfl
      rw [Nat.add_zero] at p0 q0
      rw [← Nat.add_assoc] at p1 p2 q1 q2
      clear hcell hcell2 hb
      generalize l[k] = y at p0 p1 p2 q0 q1 q2
      obtain ⟨yk, yt, yv⟩ := y
      go_wp2
      go_region_held3 (fun w' => w'.cell? ⟨b, o + k * 3, none⟩ = some (.int .i64 yk) ∧ w'.cell? ⟨b, o + k * 3 + 1, none⟩ = some (.int .i64 yt) ∧ w'.cell? ⟨b, o + k * 3 + 2, none⟩ = some (.string ⟨yv.toArray⟩) ∧ w'.cell? ⟨b2, o2 + k * 3, none⟩ = some (.int .i64 yk) ∧ w'.cell? ⟨b2, o2 + k * 3 + 1, none⟩ = some (.int .i64 yt) ∧ w'.cell? ⟨b2, o2 + k * 3 + 2, none⟩ = some (.string ⟨yv.toArray⟩)) (first | go_keep | exact ⟨by rw [hb9.cell (p := ⟨b, _, none⟩) hbz]; assumption, by rw [hb9.cell (p := ⟨b, _, none⟩) hbz]; assumption, by rw [hb9.cell (p := ⟨b, _, none⟩) hbz]; assumption, by rw [hb9.cell (p := ⟨b2, _, none⟩) hbz2]; assumption, by rw [hb9.cell (p := ⟨b2, _, none⟩) hbz2]; assumption, by rw [hb9.cell (p := ⟨b2, _, none⟩) hbz2]; assumption⟩)
        ((go_at_call 43; with_reducible refine (of36_any ⟨yk, yt, yv⟩ _).mono ?_; rintro e w9 ⟨rfl, hb9⟩))
      all_goals
        go_wp2
        go_roundw
        case rel => exact ⟨k + 1, by omega, by go_num, HB.out.drew.trans (hb9.mono HB.out.size)⟩
        case measure => simp [intOf]; omega
    · clear hb
      go_wp2
      go_ret
      exact ⟨rfl, HB.out⟩
end A1
end Go.Proofs.YtnppicekfjdefaaGreatDoor
