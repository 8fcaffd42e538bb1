/- Contract: the reference's Cut. Conditions: texts of at most 2^31 bytes. -/
import Derived.Test.YtijjggbiljkalaaDoorAddr1
import Derived.Test.YtijjggbiljkalaaDoorApp
namespace Go.Proofs.YtijjggbiljkalaaDoor
open Go.RowKit Pl Ad
attribute [local go_sem] ba_get conv_one conv_one_drewN ba_append ba_extract
set_option maxRecDepth 100000
set_option maxHeartbeats 4000000
set_option linter.unusedVariables false
namespace A1

theorem cut_hit (c : UInt8) (l : Bs) (j k : Nat) (hk : k < l.length) (h : l[k] = c) (acc : List Bs) :
    acc ++ splitAcc c ((l.drop j).take (k - j)) (l.drop k) = (acc ++ [(l.drop j).take (k - j)]) ++ splitAcc c ((l.drop (k + 1)).take (k + 1 - (k + 1))) (l.drop (k + 1)) := by
  rw [drop_cons hk, splitAcc, if_pos h]; simp
theorem cut_miss (c : UInt8) (l : Bs) (j k : Nat) (hj : j ≤ k) (hk : k < l.length) (h : ¬ l[k] = c) (acc : List Bs) :
    acc ++ splitAcc c ((l.drop j).take (k - j)) (l.drop k) = acc ++ splitAcc c ((l.drop j).take (k + 1 - j)) (l.drop (k + 1)) := by
  rw [drop_cons hk, splitAcc, if_neg h]
  have e : (l.drop j).take (k + 1 - j) = (l.drop j).take (k - j) ++ [l[k]] := by
    rw [show k + 1 - j = (k - j) + 1 by omega, take_snoc (by simp; omega)]
    simp [show j + (k - j) = k by omega]
  rw [e]

theorem refCut_any (l : Bs) (c : UInt8) (w : World) (hl : l.length ≤ 2147483648) :
    Calls Tryd.prog 130 #[.string ⟨l.toArray⟩, .int .u8 (c.toNat : Int)] w (NewStrs w (splitOn c l)) := by
  go_enter Tryd.func130, Tryd.ntmps130
  go_wp2
  go_loopw [5, 6, 10] (fun s f i wr => ∃ (v : Value) (j k : Nat) (acc : List Bs), v = s ∧ j ≤ k ∧ k ≤ l.length ∧ f = .int .i64 j ∧ i = .int .i64 k ∧ acc.length ≤ k ∧ wr.ownsRow w.heap.size 9 1 v acc.length (svals acc) ∧ Below w.heap.size w wr ∧ Hid (splitOn c l = acc ++ splitAcc c ((l.drop j).take (k - j)) (l.drop k))) (fun _ _ i _ => l.length - (intOf i).toNat)
  case atStart => exact ⟨_, 0, 0, [], rfl, Nat.le_refl _, Nat.zero_le _, rfl, rfl, Nat.zero_le _, World.ownsRow_nil _ _ _ _, Below.refl _ _, rfl⟩
  case round =>
    obtain ⟨v, j, k, acc, rfl, hj, hk, rfl, rfl, ha, hown, hb, H⟩ := hrel
    have hz := hb.size
    by_cases hlt : k < l.length
    · by_cases he : l[k] = c
      · have hb1 : ((l[k].toNat : Int) == (c.toNat : Int)) = true := by rw [he]; exact beq_self_eq_true _
        have HF := Lib.hid (cut_hit c l j k hlt he acc)
        clear he
        go_wp2_with ((at_builtin; refine wpList_app tyStrs rfl _ _ rfl w w.heap.size w.heap.size v acc.length (svals acc) rfl (hown.alloc _) (hb.alloc (by omega) _) (by simp; omega) (Nat.le_refl _) wr.heap.size 1 1 [str ((l.drop j).take (k - j))] rfl (blockIs_new _ _ _) rfl (by simp [Value.oneCell']) (by omega) ?_; intro v' w' hown' hb' hgrow'))
        go_roundw
        case rel => exact ⟨_, k + 1, k + 1, acc ++ [(l.drop j).take (k - j)], rfl, Nat.le_refl _, by omega, by go_num, by go_num, by simp; omega, by rw [List.length_append, ← svals_append]; exact hown', hb', by show splitOn _ _ = _; rw [H.out, HF.out]⟩
        case measure => simp [intOf]; omega
      · have hb1 : ((l[k].toNat : Int) == (c.toNat : Int)) = false := beq_eq_false_iff_ne.2 (fun h => he (UInt8.toNat_inj.1 (by omega)))
        have HF := Lib.hid (cut_miss c l j k hj hlt he acc)
        clear he
        go_wp2
        go_roundw
        case rel => exact ⟨_, j, k + 1, acc, rfl, by omega, by omega, rfl, by go_num, by omega, hown, hb, by show splitOn _ _ = _; rw [H.out, HF.out]⟩
        case measure => simp [intOf]; omega
    · have hkl : k = l.length := by omega
      have HF := Lib.hid (show splitOn c l = acc ++ [(l.drop j).take (l.length - j)] by rw [H.out, List.drop_of_length_le (by omega : l.length ≤ k), splitAcc, hkl])
      clear hkl
      go_wp2_with ((at_builtin; refine wpList_app tyStrs rfl _ _ rfl w w.heap.size w.heap.size v acc.length (svals acc) rfl (hown.alloc _) (hb.alloc (by omega) _) (by simp; omega) (Nat.le_refl _) wr.heap.size 1 1 [str ((l.drop j).take (l.length - j))] rfl (blockIs_new _ _ _) rfl (by simp [Value.oneCell']) (by omega) ?_; intro v' w' hown' hb' hgrow'))
      go_ret
      rw [HF.out]
      exact newStrs_owned _ (by rw [← svals_append]; exact hown') (by simp) hb'
end A1
end Go.Proofs.YtijjggbiljkalaaDoor
