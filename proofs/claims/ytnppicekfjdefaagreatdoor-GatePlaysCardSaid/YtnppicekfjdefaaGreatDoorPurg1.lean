/- Contracts: tags.good, the reference's Tag. Conditions: texts of at most 2^31 bytes. -/
import Derived.Test.YtnppicekfjdefaaGreatDoorLib
import Derived.Test.YtnppicekfjdefaaGreatDoorPurgP
import Derived.Lib.Hide
namespace Go.Proofs.YtnppicekfjdefaaGreatDoor
open Go.RowKit Pl Ad
attribute [local go_sem] ba_get ba_append ba_extract_end ba_extract_zero ba_extract
set_option maxRecDepth 100000
set_option maxHeartbeats 4000000
set_option linter.unusedVariables false
namespace A1
theorem ret_bool' {a b : Bool} (h : a = b) : Ending.returned (.bool a) = Ending.returned (.bool b) := by rw [h]

theorem good_any (l : Bs) (w : World) (hl : l.length ≤ 2147483648) :
    Calls Tryz.prog 75 #[.string ⟨l.toArray⟩] w fun e w' => e = .returned (.bool (goodB l)) ∧ w = w' := by
  by_cases h1 : 1 ≤ l.length
  · by_cases h2 : l.length ≤ 32
    · have HG := Lib.hid (goodB_all h1 h2)
      go_enter Tryz.func75, Tryz.ntmps75
      go_wp2
      go_loop [14] (fun i => ∃ k : Nat, k ≤ l.length ∧ i = .int .i64 k ∧ Hid (l.all goodC = (l.drop k).all goodC)) (fun i => l.length - (intOf i).toNat)
      case atStart => exact ⟨0, Nat.zero_le _, rfl, rfl⟩
      case round =>
        obtain ⟨k, hk, rfl, H⟩ := hrel
        by_cases hlt : k < l.length
        · have H2 := Lib.hid (drop_cons hlt)
          have h255 := byte_lt l[k]
          generalize hx : l[k] = x at H2 h255
          by_cases ha : (x.toNat : Int) < 33
          · have HC := Lib.hid (show goodC x = false by unfold goodC; rw [decide_eq_false (by omega)]; rfl)
            go_wp2
            go_ret
            exact ⟨ret_bool' (by rw [HG.out, H.out, H2.out, List.all_cons, HC.out]; rfl), rfl⟩
          · by_cases hb : (126 : Int) < x.toNat
            · have HC := Lib.hid (show goodC x = false by unfold goodC; rw [decide_eq_false (p := x.toNat ≤ 126) (by omega)]; simp)
              go_wp2
              go_ret
              exact ⟨ret_bool' (by rw [HG.out, H.out, H2.out, List.all_cons, HC.out]; rfl), rfl⟩
            · have HC := Lib.hid (show goodC x = true by unfold goodC; rw [decide_eq_true (by omega), decide_eq_true (by omega)]; rfl)
              go_wp2
              go_round
              case rel => exact ⟨k + 1, by omega, by go_num, by show _ = _; rw [H.out, H2.out, List.all_cons, HC.out]; rfl⟩
              case measure => simp [intOf]; omega
        · go_wp2
          go_ret
          exact ⟨ret_bool' (by rw [HG.out, H.out, List.drop_of_length_le (by omega)]; rfl), rfl⟩
    · have HG := Lib.hid (goodB_len (s := l) (by omega))
      go_enter Tryz.func75, Tryz.ntmps75
      go_wp2
      go_ret
      exact ⟨ret_bool' HG.out.symm, rfl⟩
  · have HG := Lib.hid (goodB_len (s := l) (by omega))
    go_enter Tryz.func75, Tryz.ntmps75
    go_wp2
    go_ret
    exact ⟨ret_bool' HG.out.symm, rfl⟩

theorem goodB_some {l : Bs} {x : UInt8} (hm : x ∈ l) (h : goodC x = false) : goodB l = false := by
  rw [Bool.eq_false_iff]
  intro hg
  rw [goodB_mem hg x hm] at h
  cases h
theorem goodB_of_all {l : Bs} (h : ∀ x ∈ l, goodC x = true) : goodB l = (decide (1 ≤ (l.length : Int)) && decide ((l.length : Int) ≤ 32)) := by
  unfold goodB
  rw [List.all_eq_true.2 h, Bool.and_true]
  congr 1 <;> rw [decide_eq_decide] <;> omega

theorem refTag_any (l : Bs) (w : World) (hl : l.length ≤ 2147483648) :
    Calls Tryz.prog 53 #[.string ⟨l.toArray⟩] w fun e w' => e = .returned (.bool (goodB l)) ∧ w = w' := by
  go_enter Tryz.func53, Tryz.ntmps53
  go_wp2
  go_loop [3] (fun i => ∃ k : Nat, k ≤ l.length ∧ i = .int .i64 k ∧ Hid (∀ x ∈ l.take k, goodC x = true)) (fun i => l.length - (intOf i).toNat)
  case atStart => exact ⟨0, Nat.zero_le _, rfl, fun x hx => by simp at hx⟩
  case round =>
    obtain ⟨k, hk, rfl, H⟩ := hrel
    by_cases hlt : k < l.length
    · have H2 := Lib.hid (take_snoc hlt)
      have HM := Lib.hid (List.getElem_mem hlt)
      have h255 := byte_lt l[k]
      generalize hx : l[k] = x at H2 HM h255
      by_cases ha : (x.toNat : Int) < 33
      · have HC := Lib.hid (goodB_some HM.out (show goodC x = false by unfold goodC; rw [decide_eq_false (by omega)]; rfl))
        go_wp2
        go_ret
        exact ⟨ret_bool' (by rw [HC.out]), rfl⟩
      · by_cases hb : (126 : Int) < x.toNat
        · have HC := Lib.hid (goodB_some HM.out (show goodC x = false by unfold goodC; rw [decide_eq_false (p := x.toNat ≤ 126) (by omega)]; simp))
          go_wp2
          go_ret
          exact ⟨ret_bool' (by rw [HC.out]), rfl⟩
        · have HC := Lib.hid (show goodC x = true by unfold goodC; rw [decide_eq_true (by omega), decide_eq_true (by omega)]; rfl)
          have HN := Lib.hid (show ∀ y ∈ l.take (k + 1), goodC y = true by
            rw [H2.out]
            intro y hy
            rcases List.mem_append.1 hy with hy | hy
            · exact H.out y hy
            · rw [List.mem_singleton.1 hy]; exact HC.out)
          go_wp2
          go_round
          case rel => exact ⟨k + 1, by omega, by go_num, HN.out⟩
          case measure => simp [intOf]; omega
    · have HC := Lib.hid (goodB_of_all (l := l) (by have h9 := H.out; rw [List.take_of_length_le (by omega)] at h9; exact h9))
      by_cases h1 : 1 ≤ l.length
      · have h1' : decide (1 ≤ (l.length : Int)) = true := decide_eq_true (by omega)
        go_wp2
        go_ret
        exact ⟨ret_bool' (by rw [HC.out, h1', Bool.true_and]), rfl⟩
      · have h1' : decide (1 ≤ (l.length : Int)) = false := decide_eq_false (by omega)
        go_wp2
        go_ret
        exact ⟨ret_bool' (by rw [HC.out, h1', Bool.false_and]), rfl⟩
end A1
end Go.Proofs.YtnppicekfjdefaaGreatDoor
