/- Contracts: the texts of an address; quaysidebase.Num and Is; the laws' Of and Ref. Conditions: texts of at most 2^31 bytes. -/
import Derived.Test.YtijjggbiljkalaaDoorAddr6
import Derived.Laws.ResultCell
namespace Go.Proofs.YtijjggbiljkalaaDoor
open Go.RowKit Pl Ad
attribute [local go_sem] ba_get conv_one conv_one_drewN ba_append ba_extract
set_option maxRecDepth 100000
set_option maxHeartbeats 4000000
set_option linter.unusedVariables false
namespace A1

theorem owned_zero {w : World} {B e size : Nat} {v : Value} {xs : List Value} (h : w.ownsRow B e size v 0 xs) (hv : ∀ g c, v ≠ .slice (some ⟨g, 0, none⟩) 0 c) : v = .slice none 0 0 := by
  rcases h.2 with ⟨h1, _⟩ | ⟨g, cap, _, h1, _⟩
  · exact h1
  · exact absurd h1 (hv g cap)
/-- What an owned slice looks like: nil, or a row's head. -/
theorem owned_cases {w : World} {B e size n : Nat} {v : Value} {xs : List Value} (h : w.ownsRow B e size v n xs) : v = .slice none n 0 ∨ ∃ g c, v = .slice (some ⟨g, 0, none⟩) n c := by
  rcases h.2 with ⟨h1, h2⟩ | ⟨g, cap, _, h1, _⟩
  · exact .inl (by rw [h1, h2])
  · exact .inr ⟨g, cap, h1⟩
theorem owned_pop {w : World} {B g c : Nat} {left : List Bs} (hne : left ≠ []) (h : w.ownsRow B 9 1 (.slice (some ⟨g, 0, none⟩) left.length c) left.length (svals left)) :
    w.ownsRow B 9 1 (.slice (some ⟨g, 0, none⟩) (left.length - 1) c) (left.length - 1) (svals left.dropLast) := by
  have hl : left.length - 1 + 1 = left.length := by have := List.length_pos_iff.2 hne; omega
  have e : svals left = svals left.dropLast ++ svals [left.getLast hne] := by rw [svals_append, List.dropLast_concat_getLast]
  refine ownsRow_pop (last := svals [left.getLast hne]) (by rw [svals_len, List.length_dropLast]; omega) ?_
  rw [hl, ← e]
  exact h
theorem text_any (h p q : Bs) (b : Bool) (w : World) (hh : h.length ≤ 2147483648) (hp : p.length ≤ 2147483648) (hq : q.length ≤ 2147483648) :
    Calls Tryd.prog 73 #[.agg #[.string ⟨h.toArray⟩, .string ⟨p.toArray⟩, .string ⟨q.toArray⟩, .bool b]] w fun e w' => e = .returned (.string ⟨(adText h p q b).toArray⟩) ∧ Below w.heap.size w w' := by
  cases b
  · have H := Lib.hid (show adText h p q false = h ++ p by simp [adText])
    go_enter Tryd.func73, Tryd.ntmps73
    go_wp2
    go_ret
    exact ⟨ret_str H.out.symm, (Below.refl _ _).alloc (Nat.le_refl _) _⟩
  · have H := Lib.hid (show adText h p q true = h ++ (p ++ 63 :: q) by simp [adText])
    go_enter Tryd.func73, Tryd.ntmps73
    go_wp2
    go_ret
    exact ⟨ret_str (by rw [H.out]), (Below.refl _ _).alloc (Nat.le_refl _) _⟩

theorem refText_any (h p q : Bs) (b : Bool) (w : World) (hh : h.length ≤ 2147483648) (hp : p.length ≤ 2147483648) (hq : q.length ≤ 2147483648) :
    Calls Tryd.prog 92 #[.agg #[.string ⟨h.toArray⟩, .string ⟨p.toArray⟩, .string ⟨q.toArray⟩, .bool b]] w fun e w' => e = .returned (.string ⟨(adText h p q b).toArray⟩) ∧ Below w.heap.size w w' := by
  cases b
  · have H := Lib.hid (show adText h p q false = h ++ p by simp [adText])
    go_enter Tryd.func92, Tryd.ntmps92
    go_wp2
    go_ret
    exact ⟨ret_str H.out.symm, (Below.refl _ _).alloc (Nat.le_refl _) _⟩
  · have H := Lib.hid (show adText h p q true = h ++ (p ++ 63 :: q) by simp [adText])
    go_enter Tryd.func92, Tryd.ntmps92
    go_wp2
    go_ret
    exact ⟨ret_str (by rw [H.out]), (Below.refl _ _).alloc (Nat.le_refl _) _⟩

theorem num_nil (w : World) : Calls Tryd.prog 23 #[.nilIface] w fun e w' => e = .returned (.int .i64 0) ∧ w = w' := by
  go_enter Tryd.func23, Tryd.ntmps23
  go_wp2
  go_ret
  exact ⟨rfl, rfl⟩
theorem assert_errno (v : Value) (w : World) : (Instr.typeAssert (.iface 29 v) 25 29 true).run Tryd.prog w = .ok (.tuple #[v, .bool true]) w := by kernel_rfl
attribute [local go_sem] assert_errno
theorem num_err (n : Int) (w : World) : Calls Tryd.prog 23 #[errV n] w fun e w' => e = .returned (.int .i64 n) ∧ w = w' := by
  go_enter Tryd.func23, Tryd.ntmps23
  go_wp2
  go_ret
  exact ⟨rfl, rfl⟩
theorem is_err (n : Int) (w : World) (hn : ¬ n = 0) : Calls Tryd.prog 16 #[errV n, .int .i64 n] w fun e w' => e = .returned (.bool true) ∧ w = w' := by
  have h1 : (n == 0) = false := beq_eq_false_iff_ne.2 hn
  go_enter Tryd.func16, Tryd.ntmps16
  go_wp2_with (go_at_call 23; refine (num_err n _).mono ?_; rintro e w' ⟨rfl, rfl⟩)
  go_ret
  exact ⟨ret_bool (by simp [h1, bne]), rfl⟩
end A1
end Go.Proofs.YtijjggbiljkalaaDoor
