/- Contracts: the laws' Of and Ref, the fixed example. No condition beyond the library's variable. -/
import Derived.Test.YthbjpekgiiflkaaDoorAddrC
namespace Go.Proofs.YthbjpekgiiflkaaDoor
open Go.RowKit Pl Ad
attribute [local go_sem] ba_get conv_one conv_one_drewN ba_append ba_extract
set_option maxRecDepth 100000
set_option maxHeartbeats 4000000
set_option linter.unusedVariables false
namespace A1

theorem ref_any (a : Adr) (w : World) : Calls Tryd.prog 20 #[adV a] w fun e w' => e = .returned (adV a) ∧ Below w.heap.size w w' := by
  obtain ⟨h, p, q, b⟩ := a
  go_enter Tryd.func20, Tryd.ntmps20
  go_wp2
  refine bodyPost_ret (v := adV ⟨h, p, q, b⟩) (by simp [results, Tryd.results20, go_sem]) rfl ⟨rfl, ?_⟩
  exact ((Below.refl _ _).alloc (Nat.le_refl _) _).alloc (by simp) _
theorem of_any (a : Adr) (w : World) : Calls Tryd.prog 24 #[adV a] w fun e w' => e = .returned (adV a) ∧ Below w.heap.size w w' := by
  obtain ⟨h, p, q, b⟩ := a
  go_enter Tryd.func24, Tryd.ntmps24
  go_wp2
  refine bodyPost_ret (v := adV ⟨h, p, q, b⟩) (by simp [results, Tryd.results24, go_sem]) rfl ⟨rfl, ?_⟩
  exact ((Below.refl _ _).alloc (Nat.le_refl _) _).alloc (by simp) _

def awakeH : Bs := [65, 46, 69, 120, 97, 109, 112, 108, 101]
def awakeT : Bs := [47, 98, 47, 37, 55, 101, 99, 47, 46, 47, 100, 47, 46, 46, 47, 37, 50, 102, 63, 120, 61, 37, 51, 100, 38, 121]
def awakeA : Adr := ⟨[97, 46, 101, 120, 97, 109, 112, 108, 101], [47, 98, 47, 126, 99, 47, 37, 50, 70], [120, 61, 37, 51, 68, 38, 121], true⟩
theorem awake_parse : parse awakeH awakeT = .ok awakeA := by rfl

theorem awake_any (w : World) (hr : Ready w) : Calls Tryd.prog 12 #[] w fun e w' => e = .returned (.bool true) ∧ Below w.heap.size w w' := by
  go_enter Tryd.func12, Tryd.ntmps12
  go_wp2_with fail
  refine (parse_ok (h := awakeH) (t := awakeT) w (by decide) (by decide) hr awake_parse).mono ?_
  rintro e w1 ⟨rfl, hb1⟩
  go_wp2_with (go_at_call 20; refine (ref_any awakeA _).mono ?_; rintro e w2 ⟨rfl, hb2⟩)
  go_ret
  exact ⟨rfl, hb1.trans ((((Below.refl _ _).alloc (Nat.le_refl _) _).trans (hb2.mono (by simp))).mono hb1.size)⟩
end A1
end Go.Proofs.YthbjpekgiiflkaaDoor
