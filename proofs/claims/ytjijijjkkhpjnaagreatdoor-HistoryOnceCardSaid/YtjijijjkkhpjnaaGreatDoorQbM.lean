/- Contracts and plain facts that the statement's proof leans on (texts joined). No condition beyond those that each names. -/
import Derived.Lib.ItoaNum
import Derived.Test.YtjijijjkkhpjnaaGreatDoorQbL
section
namespace Go.Proofs.YtjijijjkkhpjnaaGreatDoor
open Go.RowKit Pl Ad
attribute [local go_sem] ba_get ba_append ba_extract conv_one
set_option maxRecDepth 100000
set_option maxHeartbeats 4000000
set_option linter.unusedVariables false
set_option linter.unusedSimpArgs false
namespace Hy
open A1 Kr
theorem dec_step {n : Nat} (h : ¬ n < 10) : Lib.decDigits n = Lib.decDigits (n / 10) ++ Lib.decDigits (n % 10) := by
  rw [Lib.decDigits, dif_neg h, Lib.decDigits_one (show n % 10 < 10 by omega)]
theorem dec_len : ∀ (k n : Nat), n < 10 ^ k → 0 < k → (Lib.decDigits n).length ≤ k
  | 0, n, _, h => by omega
  | 1, n, h, _ => by
    rw [Lib.decDigits_one (by simpa using h)]; simp
  | k + 2, n, h, _ => by
    by_cases h1 : n < 10
    · rw [Lib.decDigits_one h1]; simp
    · rw [Lib.decDigits, dif_neg h1, List.length_append]
      have := dec_len (k + 1) (n / 10) (by rw [Nat.pow_succ] at h; omega) (by omega)
      simp; omega
theorem dec_len19 {n : Nat} (h : n ≤ 9223372036854775808) : (Lib.decDigits n).length ≤ 19 := dec_len 19 n (by omega) (by omega)
theorem digits_nat : ∀ (N n : Nat), n < N → n ≤ 9223372036854775807 → ∀ w : World, Calls Tryz.prog 36 #[.int .i64 (n : Int)] w fun e w' => e = .returned (.string ⟨(Lib.decDigits n).toArray⟩) ∧ Below w.heap.size w w'
  | 0, n, h, _, w => by omega
  | N + 1, n, h, hn, w => by
    have h0 : ¬ ((n : Int) < 0) := by omega
    by_cases h1 : n < 10
    · have h1i : (n : Int) < 10 := by omega
      have HE := Lib.hid (show Lib.decDigits n = [48 + UInt8.ofNat n] by
        rw [Lib.decDigits_one h1]
        simp)
      have k1 : IntKind.i64.wrap (48 + (n : Int)) = 48 + (n : Int) := IntWalk.i64_in _ (by omega)
      have k2 : IntKind.u8.wrap (48 + (n : Int)) = 48 + (n : Int) := by rw [IntKind.wrap_u8]; omega
      have HB := Lib.hid ((Below.refl w.heap.size w).alloc (Nat.le_refl _) (.cells #[.int .u8 (48 + (n : Int))] 5))
      go_enter Tryz.func36, Tryz.ntmps36
      go_wp2_with fail
      rw [HE.out]
      go_ret
      exact ⟨rfl, HB.out⟩
    · have h1i : ¬ ((n : Int) < 10) := by omega
      have h1f : decide ((n : Int) < 10) = false := decide_eq_false h1i
      have HE := Lib.hid (dec_step h1)
      have HD := Lib.hid (digits_nat N (n / 10) (by omega) (by omega))
      have HM := Lib.hid (digits_nat N (n % 10) (by omega) (by omega))
      have l1 : (Lib.decDigits (n / 10)).length ≤ 19 := dec_len19 (by omega)
      have l2 : (Lib.decDigits (n % 10)).length ≤ 19 := dec_len19 (by omega)
      have e1 : (n : Int) / 10 = ((n / 10 : Nat) : Int) := by omega
      have e2 : (n : Int) % 10 = ((n % 10 : Nat) : Int) := by omega
      have e3 : Int.tdiv (n : Int) 10 = ((n / 10 : Nat) : Int) := by rw [Int.tdiv_eq_ediv_of_nonneg (by omega)]; exact e1
      have e4 : Int.tmod (n : Int) 10 = ((n % 10 : Nat) : Int) := by rw [Int.tmod_eq_emod_of_nonneg (by omega)]; exact e2
      have e5 : IntKind.i64.wrap ((n / 10 : Nat) : Int) = ((n / 10 : Nat) : Int) := IntWalk.i64_in _ (by omega)
      obtain ⟨q, hq⟩ : ∃ z, n / 10 = z := ⟨_, rfl⟩
      obtain ⟨r, hr⟩ : ∃ z, n % 10 = z := ⟨_, rfl⟩
      rw [hq, hr] at HE
      rw [hq] at HD e1 e3 e5 l1
      rw [hr] at HM e2 e4 l2
      clear hq hr h1 h
      go_enter Tryz.func36, Tryz.ntmps36
      go_wp2_with fail
      refine (HD.out _).mono ?_
      rintro e w1 ⟨rfl, hb1⟩
      have HB1 := Lib.hid hb1
      clear hb1
      go_wp2_with fail
      refine (HM.out _).mono ?_
      rintro e w2 ⟨rfl, hb2⟩
      have HB2 := Lib.hid (HB1.out.trans (hb2.mono HB1.out.size))
      clear hb2
      go_wp2_with fail
      rw [HE.out]
      go_ret
      exact ⟨rfl, HB2.out⟩
end Hy
end Go.Proofs.YtjijijjkkhpjnaaGreatDoor
end

section
namespace Go.Proofs.YtjijijjkkhpjnaaGreatDoor
open Go.RowKit Pl Ad
set_option maxRecDepth 100000
set_option linter.unusedVariables false
namespace Hy
open A1 Kr
/-- What a slice type's tables say. -/
structure WideTy (P : Program) (T e : TypeId) (size bytes : Nat) : Prop where
  under : P.underlying T = some (.slice e)
  info : ∃ i z, P.info? e = some i ∧ i.zero = some z ∧ i.size = size ∧ i.bytes = bytes ∧ z.cells.size = size
  pos : 0 < size
  small : bytes ≤ 1024
section
variable {P : Program} {T e : TypeId} {size bytes : Nat} (ty : WideTy P T e size bytes)
include ty
theorem wp_appB {o : Oper} {a : Act} {w : World} {K : Act → World → Prop} {Q : Exit → Act → World → Prop} (s x : Operand)
    (ho : o.op = .call { callee := .builtin .append, args := #[s, x], argTypes := #[T, T] })
    (B : Nat) (v : Value) (n : Nat) (xs : List Value) (hs : a.eval s = v) (hown : OwnWin w B e size v n xs) (hB : B ≤ w.heap.size)
    (u : Value) (m : Nat) (C : List Value) (hx : a.eval x = u) (hC : SrcAt w u m C) (hl : C.length = m * size) (h1 : ∀ u ∈ C, u.oneCell' = true)
    (hn : n + m ≤ 1000000)
    (h : ∀ v' w', OwnWin w' B e size v' (n + m) (xs ++ C) → w.grownBy w' v.ownBlock → (v'.ownBlock = v.ownBlock ∨ v'.ownBlock = some w.heap.size) → K (a.put o.dst v') w') : o.wp P a w K Q := by
  obtain ⟨i, z, hi, hz, hsize, hby, hzs⟩ := ty.info
  have hsm := ty.small
  obtain ⟨v', w', hr, h2, h3, h4, _⟩ := run_append_win (P := P) w B T o.type e i z size bytes ty.under hi hz hsize hby hzs ty.pos v n xs hown u m C hl hC h1 (by unfold maxLen; omega) (by
    calc (n + m) * bytes ≤ 1000000 * 1024 := Nat.mul_le_mul hn hsm
      _ ≤ 140737488355328 := by decide) hB
  unfold Oper.wp execOp
  simp only [ho, resolve, invoke, builtin, Sem.run_bind, Sem.run_pure, Result.andThen_ok, List.map_toArray, List.map_cons, List.map_nil, hs, hx, hr]
  exact h v' w' h2 h3 h4
theorem wpList_appB {ops : Array Oper} {rest : List Oper} {o : Oper} {a : Act} {w : World} {Q : Exit → Act → World → Prop} (hg : o.guard = none) (s x : Operand)
    (ho : o.op = .call { callee := .builtin .append, args := #[s, x], argTypes := #[T, T] })
    (B : Nat) (v : Value) (n : Nat) (xs : List Value) (hs : a.eval s = v) (hown : OwnWin w B e size v n xs) (hB : B ≤ w.heap.size)
    (u : Value) (m : Nat) (C : List Value) (hx : a.eval x = u) (hC : SrcAt w u m C) (hl : C.length = m * size) (h1 : ∀ u ∈ C, u.oneCell' = true)
    (hn : n + m ≤ 1000000)
    (h : ∀ v' w', OwnWin w' B e size v' (n + m) (xs ++ C) → w.grownBy w' v.ownBlock → (v'.ownBlock = v.ownBlock ∨ v'.ownBlock = some w.heap.size) → wpList P ops Q rest (a.put o.dst v') w') : wpList P ops Q (o :: rest) a w :=
  wpList_plain hg fun _ hK => wp_appB ty s x ho B v n xs hs hown hB u m C hx hC hl h1 hn fun v' w' h2 h3 h4 => hK _ _ (h v' w' h2 h3 h4)
theorem step_appB {ops : Array Oper} {o : Oper} {a : Act} {w : World} {K : Act → World → Prop} {Q : Exit → Act → World → Prop} {E : Prop} (hgd : o.guard = none) (s x : Operand)
    (ho : o.op = .call { callee := .builtin .append, args := #[s, x], argTypes := #[T, T] })
    (B : Nat) (v : Value) (n : Nat) (xs : List Value) (hs : a.eval s = v) (hown : OwnWin w B e size v n xs) (hB : B ≤ w.heap.size)
    (u : Value) (m : Nat) (C : List Value) (hx : a.eval x = u) (hC : SrcAt w u m C) (hl : C.length = m * size) (h1 : ∀ u ∈ C, u.oneCell' = true)
    (hn : n + m ≤ 1000000)
    (h : ∀ v' w', OwnWin w' B e size v' (n + m) (xs ++ C) → w.grownBy w' v.ownBlock → (v'.ownBlock = v.ownBlock ∨ v'.ownBlock = some w.heap.size) → K (a.put o.dst v') w') :
    if Region.wanted o (yielded ops a.tmps) = true then Oper.wp P o a w K Q else E := by
  have hw : Region.wanted o (yielded ops a.tmps) = true := by simp [Region.wanted, hgd]
  rw [if_pos hw]
  exact wp_appB ty s x ho B v n xs hs hown hB u m C hx hC hl h1 hn h
end
theorem tyFet : WideTy Tryz.prog 66 102 6 72 :=
  ⟨Tryz.underlying66, by
    obtain ⟨i, h1, h2, h3, h4⟩ := info_parts (show (Tryz.prog.info? 102).map (fun i => (i.zero, i.size, i.bytes)) = some (some (.agg #[.string ⟨#[]⟩, .string ⟨#[]⟩, .string ⟨#[]⟩, .int .i64 0, .int .i64 0, .bool false]), 6, 72) by kernel_rfl)
    exact ⟨i, _, h1, h2, h3, h4, rfl⟩, by decide, by decide⟩
theorem tyDro : WideTy Tryz.prog 67 104 3 40 :=
  ⟨Tryz.underlying67, by
    obtain ⟨i, h1, h2, h3, h4⟩ := info_parts (show (Tryz.prog.info? 104).map (fun i => (i.zero, i.size, i.bytes)) = some (some (.agg #[.string ⟨#[]⟩, .string ⟨#[]⟩, .int .i64 0]), 3, 40) by kernel_rfl)
    exact ⟨i, _, h1, h2, h3, h4, rfl⟩, by decide, by decide⟩
end Hy
end Go.Proofs.YtjijijjkkhpjnaaGreatDoor
end

