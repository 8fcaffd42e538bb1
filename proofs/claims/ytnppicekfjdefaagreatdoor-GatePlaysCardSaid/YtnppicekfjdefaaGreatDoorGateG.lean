/- What the laws over the gate share: awake; the methods at a nil gate. No condition. -/
import Derived.Test.YtnppicekfjdefaaGreatDoorGateF
import Derived.Test.YtnppicekfjdefaaGreatDoorPlogN
namespace Go.Proofs.YtnppicekfjdefaaGreatDoor
open Go.RowKit Pl Ad Go.Maps
attribute [local go_sem] ba_get ba_append ba_extract_end ba_extract_zero ba_extract
set_option maxRecDepth 100000
set_option maxHeartbeats 4000000
set_option linter.unusedVariables false
set_option linter.unusedSimpArgs false
namespace A1
theorem rows_one (w : World) (p : Pg) : RowsV pcells 3 (w.alloc (.cells #[.int .i64 p.kind, .int .i64 p.tenant, .string ⟨p.value.toArray⟩] 56)) (.slice (some ⟨w.heap.size, 0, none⟩) 1 1) [p] := by
  have h := heap_alloc_new w (.cells #[.int .i64 p.kind, .int .i64 p.tenant, .string ⟨p.value.toArray⟩] 56)
  refine .inr ⟨w.heap.size, 0, 1, rfl, Nat.le_refl _, by simp, fun i x hx j u hu => ?_⟩
  rw [cell_of_row _ _ _ _ _ _ h]
  cases i with
  | succ i => simp at hx
  | zero =>
    simp at hx
    subst hx
    simpa [pcells] using hu
theorem gate_first : ((GateM.start 3).apply 1 [p1]).applied = 1 := by
  have hp1 : checkN p1 = 0 := by decide
  rw [GateM.apply, if_pos ⟨hp1, by decide⟩]
  rfl
theorem gRun_new (w : World) (n : Nat) (h1 : 1 ≤ n) (h2 : n ≤ 1024) : GRun w ((w.alloc (.map #[] 0)).alloc (.cells #[.int .i64 n, .int .i64 0, .int .i64 0, .slice none 0 0, .map (some w.heap.size)] 63)) (w.heap.size + 1) w.heap.size (.slice none 0 0) (.start n) :=
  ⟨((Below.refl _ _).alloc (Nat.le_refl _) _).alloc (by simp) _, gateAt_new w n w.heap.size (Nat.le_refl _), GateM.ok_start h1 h2⟩
theorem awake38_any (w : World) (hr : Ready w) : Calls Tryz.prog 5 #[] w fun e w' => e = .returned (.bool true) ∧ Below w.heap.size w w' := by
  have hg := gRun_new w 3 (by decide) (by decide)
  have hb := (Below.refl ((w.alloc (.map #[] 0)).alloc (.cells #[.int .i64 (3 : Nat), .int .i64 0, .int .i64 0, .slice none 0 0, .map (some w.heap.size)] 63)).heap.size _).alloc (Nat.le_refl _) (.cells #[.int .i64 3, .int .i64 0, .string ⟨#[116]⟩] 56)
  have HG := Lib.hid (hg.older hb)
  have hrow := rows_one ((w.alloc (.map #[] 0)).alloc (.cells #[.int .i64 (3 : Nat), .int .i64 0, .int .i64 0, .slice none 0 0, .map (some w.heap.size)] 63)) p1
  rw [show ((w.alloc (.map #[] 0)).alloc (.cells #[.int .i64 (3 : Nat), .int .i64 0, .int .i64 0, .slice none 0 0, .map (some w.heap.size)] 63)).heap.size = w.heap.size + 2 by simp] at hrow
  have HRW := Lib.hid hrow
  have HAP : Hid (Apart (w.heap.size + 1) w.heap.size (.slice none 0 0) (.slice (some ⟨w.heap.size + 2, 0, none⟩) 1 1)) := Lib.hid fun q hq hs => by
    simp [Value.ownBlock] at hq hs
    omega
  have HF := Lib.hid gate_first
  clear hg hb hrow
  go_enter Tryz.func5, Tryz.ntmps5
  go_wp2_with fail
  refine (gateNew_ok 3 _ (by decide) (by decide)).mono ?_
  rintro e w1 ⟨rfl, rfl⟩
  go_wp2_with fail
  refine (apply_any w _ (w.heap.size + 1) w.heap.size (.slice none 0 0) (.slice (some ⟨w.heap.size + 2, 0, none⟩) 1 1) (.start 3) 1 [p1] HG.out hr HRW.out HAP.out (by intro p hp; rw [List.mem_singleton.1 hp]; decide) (by decide) (by decide) (by decide)).mono ?_
  rw [HF.out]
  rintro e w2 ⟨v2, rfl, hr2, hg2⟩
  have HR2 := Lib.hid hr2
  clear hr2 hg2
  go_wp2_with (go_at_call 18; refine (gateApplied w.heap.size _ _ _ _ _ _ HR2.out.gate).mono ?_; rw [HF.out]; rintro e w3 ⟨rfl, rfl⟩)
  go_ret
  exact ⟨rfl, HR2.out.bel⟩
theorem nilMissing (w : World) : Calls Tryz.prog 25 #[.pointer none] w fun e w' => e = .returned (.tuple #[.int .i64 0, .int .i64 0]) ∧ w = w' := by
  go_enter Tryz.func25, Tryz.ntmps25
  go_wp2_with fail
  go_ret2
  exact ⟨rfl, rfl⟩
theorem nilRecent (n : Int) (w : World) : Calls Tryz.prog 28 #[.pointer none, .int .i64 n] w fun e w' => e = .returned (.tuple #[.slice none 0 0, noneV]) ∧ w = w' := by
  go_enter Tryz.func28, Tryz.ntmps28
  go_wp2_with fail
  go_ret2
  exact ⟨rfl, rfl⟩
theorem nilApply (n : Int) (u : Value) (w : World) : Calls Tryz.prog 17 #[.pointer none, .int .i64 n, u] w fun e w' => e = .returned (.int .i64 0) ∧ w = w' := by
  go_enter Tryz.func17, Tryz.ntmps17
  go_wp2_with fail
  go_ret
  exact ⟨rfl, rfl⟩
theorem nilJump (n : Int) (w : World) : Calls Tryz.prog 23 #[.pointer none, .int .i64 n] w fun e w' => e = .returned (.int .i64 0) ∧ w = w' := by
  go_enter Tryz.func23, Tryz.ntmps23
  go_wp2_with fail
  go_ret
  exact ⟨rfl, rfl⟩
theorem nilApplied (w : World) : Calls Tryz.prog 18 #[.pointer none] w fun e w' => e = .returned (.int .i64 0) ∧ w = w' := by
  go_enter Tryz.func18, Tryz.ntmps18
  go_wp2_with fail
  go_ret
  exact ⟨rfl, rfl⟩
theorem nilFloor (w : World) : Calls Tryz.prog 27 #[.pointer none] w fun e w' => e = .returned (.int .i64 0) ∧ w = w' := by
  go_enter Tryz.func27, Tryz.ntmps27
  go_wp2_with fail
  go_ret
  exact ⟨rfl, rfl⟩
theorem nilAccept (xt : Int) (xa : Bs) (ua : Option Addr) (ul uc : Nat) (n : Int) (w : World) : Calls Tryz.prog 15 #[.pointer none, .agg #[.int .i64 xt, .string ⟨xa.toArray⟩, .slice ua ul uc], .int .i64 n] w fun e w' => e = .returned noneV ∧ Below w.heap.size w w' := by
  go_enter Tryz.func15, Tryz.ntmps15
  go_wp2_with fail
  go_ret
  exact ⟨rfl, (Below.refl _ _).alloc (Nat.le_refl _) _⟩
end A1
end Go.Proofs.YtnppicekfjdefaaGreatDoor
