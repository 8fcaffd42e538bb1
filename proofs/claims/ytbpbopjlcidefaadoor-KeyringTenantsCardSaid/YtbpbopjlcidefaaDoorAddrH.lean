/- Contracts: Segments, Arg, the reference's Segments and Arg, and quaysidebase.Texts. Conditions: texts of at most 2^31 bytes. -/
import Derived.Test.YtbpbopjlcidefaaDoorAddrD
import Derived.Test.YtbpbopjlcidefaaDoorSlib
import Derived.Test.YtbpbopjlcidefaaDoorAddrP
import Derived.BigQuiet
namespace Go.Proofs.YtbpbopjlcidefaaDoor
open Go.RowKit Pl Ad
attribute [local go_sem] ba_get conv_one conv_one_drewN ba_append ba_extract_end ba_extract_zero ba_extract
set_option maxRecDepth 100000
set_option maxHeartbeats 4000000
set_option linter.unusedVariables false
namespace A1

theorem segs_of_miss {l : Bs} (h : (cutAt 47 l).2.2 = false) : segs l = [] := by simp [segs, h]
theorem segs_of_hit {l : Bs} (h : (cutAt 47 l).2.2 = true) : segs l = splitOn 47 (cutAt 47 l).2.1 := by simp [segs, h]

theorem argL_off (q n : Bs) : argL q n false = none := rfl
theorem argL_on (q n : Bs) : argL q n true = argFind n (splitOn 38 q) := rfl
theorem argFind_end {n : Bs} {xs : List Bs} {k : Nat} (h : argFind n xs = argFind n (xs.drop k)) (hk : xs.length ≤ k) : argFind n xs = none := by
  rw [h, List.drop_of_length_le hk]; rfl
/-- What a search yields. -/
def argV (r : Option Bs) : Value := .tuple #[.string ⟨(r.getD []).toArray⟩, .bool r.isSome]
theorem argV_none : argV none = .tuple #[.string ⟨#[]⟩, .bool false] := rfl
theorem argV_some (x : Bs) : argV (some x) = .tuple #[.string ⟨x.toArray⟩, .bool true] := rfl
theorem argIs_len {n x : Bs} (h : argIs n x = true) : n.length + 1 ≤ x.length := by
  simp only [argIs, List.isPrefixOf_iff_prefix] at h
  obtain ⟨t, rfl⟩ := h
  simp <;> omega

theorem texts_any (xs ys : List Bs) (v u : Value) (w : World) (hv : StrsV w v xs) (hu : StrsV w u ys) (hx : xs.length ≤ 4294967296) (hy : ys.length ≤ 4294967296) :
    Calls Tryd.prog 13 #[v, u] w fun e w' => e = .returned (.bool (decide (xs = ys))) ∧ Below w.heap.size w w' := by
  by_cases hl : xs.length = ys.length
  · by_cases h0 : xs.length = 0
    · obtain rfl : xs = [] := List.eq_nil_of_length_eq_zero h0
      obtain rfl : ys = [] := List.eq_nil_of_length_eq_zero hl.symm
      obtain ⟨a1, c1, rfl⟩ := hv.form
      obtain ⟨a2, c2, rfl⟩ := hu.form
      clear hv hu hl h0
      go_enter Tryd.func13, Tryd.ntmps13
      go_wp2
      go_loop [13] (fun i => i = .int .i64 0) (fun _ => 0)
      case atStart => rfl
      case round =>
        subst hrel
        go_wp2
        go_ret
        exact ⟨rfl, Below.refl _ _⟩
    · rcases hv with ⟨rfl, _⟩ | ⟨b1, o1, c1, rfl, hc1, hb1, ha1⟩
      · exact absurd rfl h0
      rcases hu with ⟨rfl, _⟩ | ⟨b2, o2, c2, rfl, hc2, hb2, ha2⟩
      · exact absurd hl h0
      have hle : ((xs.length : Int) == (ys.length : Int)) = true := beq_iff_eq.2 (by omega)
      go_enter Tryd.func13, Tryd.ntmps13
      go_wp2
      go_loopw [13] (fun i wr => ∃ (k q : Nat), k ≤ xs.length ∧ i = .int .i64 k ∧ wr = w.drewN q ∧ Hid (decide (xs = ys) = decide (xs.drop k = ys.drop k))) (fun i _ => xs.length - (intOf i).toNat)
      case atStart => exact ⟨0, 0, Nat.zero_le _, rfl, rfl, rfl⟩
      case round =>
        obtain ⟨k, q, hk, rfl, rfl, H⟩ := hrel
        by_cases hlt : k < xs.length
        · have hlt2 : k < ys.length := by omega
          have h1 := CellsAt.one ha1 hlt
          have h2 := CellsAt.one ha2 hlt2
          have HD := Lib.hid (drop_cons hlt)
          have HD2 := Lib.hid (drop_cons hlt2)
          generalize xs[k] = x at h1 HD
          generalize ys[k] = y at h2 HD2
          by_cases he : x = y
          · subst he
            go_wp2
            go_quiet (fail)
            go_wp2
            go_roundw
            case rel => exact ⟨k + 1, _, by omega, by go_num, rfl, by show decide _ = _; rw [H.out, HD.out, HD2.out]; simp⟩
            case measure => simp [intOf]; omega
          · have he2 : (x == y) = false := by simpa using he
            have HF := Lib.hid he
            clear he
            go_wp2
            go_quiet (fail)
            go_wp2
            go_ret
            exact ⟨ret_bool (by rw [H.out, HD.out, HD2.out]; simp [HF.out]), below_drewN (below_drewN (Below.refl _ _) _) _⟩
        · go_wp2
          go_ret
          exact ⟨ret_bool (by rw [H.out, List.drop_of_length_le (by omega), List.drop_of_length_le (by omega)]; simp), below_drewN (Below.refl _ _) _⟩
  · have hne : ¬ xs = ys := fun h => hl (by rw [h])
    have hle : ((xs.length : Int) == (ys.length : Int)) = false := beq_eq_false_iff_ne.2 (by omega)
    obtain ⟨a1, c1, rfl⟩ := hv.form
    obtain ⟨a2, c2, rfl⟩ := hu.form
    clear hv hu hl
    have HN := Lib.hid hne
    clear hne
    go_enter Tryd.func13, Tryd.ntmps13
    go_wp2
    go_ret
    exact ⟨ret_bool (by simp [HN.out]), Below.refl _ _⟩
end A1
end Go.Proofs.YtbpbopjlcidefaaDoor
