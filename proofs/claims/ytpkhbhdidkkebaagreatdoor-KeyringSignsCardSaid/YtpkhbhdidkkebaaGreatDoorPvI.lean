/- Contracts and plain facts that the statement's proof leans on (texts joined). No condition beyond those that each names. -/
import Derived.Deep.QuietTactic
import Derived.BigQuiet
import Derived.Great.BuildSlice
import Derived.Deep.WholeRow
import Derived.Deep.LoopGhost
import Derived.StillTailTactics
import Derived.Test.YtpkhbhdidkkebaaGreatDoorPvE
import Derived.Test.YtpkhbhdidkkebaaGreatDoorPvH
section
namespace Go.Proofs.YtpkhbhdidkkebaaGreatDoor
open Go.RowKit Pl Ad
set_option maxRecDepth 100000
set_option maxHeartbeats 4000000
set_option linter.unusedVariables false
set_option linter.unusedSimpArgs false
namespace Dg
theorem ret_w {x y : Int} (h : x = y) : Ending.returned (.int .u32 x) = Ending.returned (.int .u32 y) := by rw [h]
theorem rl_2 (x : Int) (w : World) : Calls Tryz.prog 160 #[.int .u32 x, .int .i64 (-2)] w fun e w' => e = .returned (.int .u32 (rotN x 2)) ∧ w = w' := by
 have hk : bits BinOp.and IntKind.u64 (IntKind.u64.wrap (-2)) 31 = 30 := by decide +kernel
 go_enter Tryz.func160, Tryz.ntmps160
 go_wp2
 go_ret
 exact ⟨ret_w (or_comm32 _ _), rfl⟩
theorem dr_2 (x : Int) (w : World) : Calls Tryz.prog 134 #[.int .u32 x, .int .i64 2] w fun e w' => e = .returned (.int .u32 (rotN x 2)) ∧ w = w' := by
 go_enter Tryz.func134, Tryz.ntmps134
 go_wp2_with (go_at_call 160; refine (rl_2 x _).mono ?_; rintro e w' ⟨rfl, rfl⟩)
 go_ret
 exact ⟨rfl, rfl⟩
theorem rr_2 (x : Int) (w : World) : Calls Tryz.prog 178 #[.int .u32 x, .int .i64 2] w fun e w' => e = .returned (.int .u32 (rotN x 2)) ∧ ∃ m, w' = w.drewN m := by
 go_enter Tryz.func178, Tryz.ntmps178
 go_wp2
 go_quiet (fail)
 go_wp2
 go_ret
 exact ⟨rfl, nq, rfl⟩
theorem rl_6 (x : Int) (w : World) : Calls Tryz.prog 160 #[.int .u32 x, .int .i64 (-6)] w fun e w' => e = .returned (.int .u32 (rotN x 6)) ∧ w = w' := by
 have hk : bits BinOp.and IntKind.u64 (IntKind.u64.wrap (-6)) 31 = 26 := by decide +kernel
 go_enter Tryz.func160, Tryz.ntmps160
 go_wp2
 go_ret
 exact ⟨ret_w (or_comm32 _ _), rfl⟩
theorem dr_6 (x : Int) (w : World) : Calls Tryz.prog 134 #[.int .u32 x, .int .i64 6] w fun e w' => e = .returned (.int .u32 (rotN x 6)) ∧ w = w' := by
 go_enter Tryz.func134, Tryz.ntmps134
 go_wp2_with (go_at_call 160; refine (rl_6 x _).mono ?_; rintro e w' ⟨rfl, rfl⟩)
 go_ret
 exact ⟨rfl, rfl⟩
theorem rr_6 (x : Int) (w : World) : Calls Tryz.prog 178 #[.int .u32 x, .int .i64 6] w fun e w' => e = .returned (.int .u32 (rotN x 6)) ∧ ∃ m, w' = w.drewN m := by
 go_enter Tryz.func178, Tryz.ntmps178
 go_wp2
 go_quiet (fail)
 go_wp2
 go_ret
 exact ⟨rfl, nq, rfl⟩
theorem rl_7 (x : Int) (w : World) : Calls Tryz.prog 160 #[.int .u32 x, .int .i64 (-7)] w fun e w' => e = .returned (.int .u32 (rotN x 7)) ∧ w = w' := by
 have hk : bits BinOp.and IntKind.u64 (IntKind.u64.wrap (-7)) 31 = 25 := by decide +kernel
 go_enter Tryz.func160, Tryz.ntmps160
 go_wp2
 go_ret
 exact ⟨ret_w (or_comm32 _ _), rfl⟩
theorem dr_7 (x : Int) (w : World) : Calls Tryz.prog 134 #[.int .u32 x, .int .i64 7] w fun e w' => e = .returned (.int .u32 (rotN x 7)) ∧ w = w' := by
 go_enter Tryz.func134, Tryz.ntmps134
 go_wp2_with (go_at_call 160; refine (rl_7 x _).mono ?_; rintro e w' ⟨rfl, rfl⟩)
 go_ret
 exact ⟨rfl, rfl⟩
theorem rr_7 (x : Int) (w : World) : Calls Tryz.prog 178 #[.int .u32 x, .int .i64 7] w fun e w' => e = .returned (.int .u32 (rotN x 7)) ∧ ∃ m, w' = w.drewN m := by
 go_enter Tryz.func178, Tryz.ntmps178
 go_wp2
 go_quiet (fail)
 go_wp2
 go_ret
 exact ⟨rfl, nq, rfl⟩
theorem rl_11 (x : Int) (w : World) : Calls Tryz.prog 160 #[.int .u32 x, .int .i64 (-11)] w fun e w' => e = .returned (.int .u32 (rotN x 11)) ∧ w = w' := by
 have hk : bits BinOp.and IntKind.u64 (IntKind.u64.wrap (-11)) 31 = 21 := by decide +kernel
 go_enter Tryz.func160, Tryz.ntmps160
 go_wp2
 go_ret
 exact ⟨ret_w (or_comm32 _ _), rfl⟩
theorem dr_11 (x : Int) (w : World) : Calls Tryz.prog 134 #[.int .u32 x, .int .i64 11] w fun e w' => e = .returned (.int .u32 (rotN x 11)) ∧ w = w' := by
 go_enter Tryz.func134, Tryz.ntmps134
 go_wp2_with (go_at_call 160; refine (rl_11 x _).mono ?_; rintro e w' ⟨rfl, rfl⟩)
 go_ret
 exact ⟨rfl, rfl⟩
theorem rr_11 (x : Int) (w : World) : Calls Tryz.prog 178 #[.int .u32 x, .int .i64 11] w fun e w' => e = .returned (.int .u32 (rotN x 11)) ∧ ∃ m, w' = w.drewN m := by
 go_enter Tryz.func178, Tryz.ntmps178
 go_wp2
 go_quiet (fail)
 go_wp2
 go_ret
 exact ⟨rfl, nq, rfl⟩
theorem rl_13 (x : Int) (w : World) : Calls Tryz.prog 160 #[.int .u32 x, .int .i64 (-13)] w fun e w' => e = .returned (.int .u32 (rotN x 13)) ∧ w = w' := by
 have hk : bits BinOp.and IntKind.u64 (IntKind.u64.wrap (-13)) 31 = 19 := by decide +kernel
 go_enter Tryz.func160, Tryz.ntmps160
 go_wp2
 go_ret
 exact ⟨ret_w (or_comm32 _ _), rfl⟩
theorem dr_13 (x : Int) (w : World) : Calls Tryz.prog 134 #[.int .u32 x, .int .i64 13] w fun e w' => e = .returned (.int .u32 (rotN x 13)) ∧ w = w' := by
 go_enter Tryz.func134, Tryz.ntmps134
 go_wp2_with (go_at_call 160; refine (rl_13 x _).mono ?_; rintro e w' ⟨rfl, rfl⟩)
 go_ret
 exact ⟨rfl, rfl⟩
theorem rr_13 (x : Int) (w : World) : Calls Tryz.prog 178 #[.int .u32 x, .int .i64 13] w fun e w' => e = .returned (.int .u32 (rotN x 13)) ∧ ∃ m, w' = w.drewN m := by
 go_enter Tryz.func178, Tryz.ntmps178
 go_wp2
 go_quiet (fail)
 go_wp2
 go_ret
 exact ⟨rfl, nq, rfl⟩
theorem rl_17 (x : Int) (w : World) : Calls Tryz.prog 160 #[.int .u32 x, .int .i64 (-17)] w fun e w' => e = .returned (.int .u32 (rotN x 17)) ∧ w = w' := by
 have hk : bits BinOp.and IntKind.u64 (IntKind.u64.wrap (-17)) 31 = 15 := by decide +kernel
 go_enter Tryz.func160, Tryz.ntmps160
 go_wp2
 go_ret
 exact ⟨ret_w (or_comm32 _ _), rfl⟩
theorem dr_17 (x : Int) (w : World) : Calls Tryz.prog 134 #[.int .u32 x, .int .i64 17] w fun e w' => e = .returned (.int .u32 (rotN x 17)) ∧ w = w' := by
 go_enter Tryz.func134, Tryz.ntmps134
 go_wp2_with (go_at_call 160; refine (rl_17 x _).mono ?_; rintro e w' ⟨rfl, rfl⟩)
 go_ret
 exact ⟨rfl, rfl⟩
theorem rr_17 (x : Int) (w : World) : Calls Tryz.prog 178 #[.int .u32 x, .int .i64 17] w fun e w' => e = .returned (.int .u32 (rotN x 17)) ∧ ∃ m, w' = w.drewN m := by
 go_enter Tryz.func178, Tryz.ntmps178
 go_wp2
 go_quiet (fail)
 go_wp2
 go_ret
 exact ⟨rfl, nq, rfl⟩
theorem rl_18 (x : Int) (w : World) : Calls Tryz.prog 160 #[.int .u32 x, .int .i64 (-18)] w fun e w' => e = .returned (.int .u32 (rotN x 18)) ∧ w = w' := by
 have hk : bits BinOp.and IntKind.u64 (IntKind.u64.wrap (-18)) 31 = 14 := by decide +kernel
 go_enter Tryz.func160, Tryz.ntmps160
 go_wp2
 go_ret
 exact ⟨ret_w (or_comm32 _ _), rfl⟩
theorem dr_18 (x : Int) (w : World) : Calls Tryz.prog 134 #[.int .u32 x, .int .i64 18] w fun e w' => e = .returned (.int .u32 (rotN x 18)) ∧ w = w' := by
 go_enter Tryz.func134, Tryz.ntmps134
 go_wp2_with (go_at_call 160; refine (rl_18 x _).mono ?_; rintro e w' ⟨rfl, rfl⟩)
 go_ret
 exact ⟨rfl, rfl⟩
theorem rr_18 (x : Int) (w : World) : Calls Tryz.prog 178 #[.int .u32 x, .int .i64 18] w fun e w' => e = .returned (.int .u32 (rotN x 18)) ∧ ∃ m, w' = w.drewN m := by
 go_enter Tryz.func178, Tryz.ntmps178
 go_wp2
 go_quiet (fail)
 go_wp2
 go_ret
 exact ⟨rfl, nq, rfl⟩
theorem rl_19 (x : Int) (w : World) : Calls Tryz.prog 160 #[.int .u32 x, .int .i64 (-19)] w fun e w' => e = .returned (.int .u32 (rotN x 19)) ∧ w = w' := by
 have hk : bits BinOp.and IntKind.u64 (IntKind.u64.wrap (-19)) 31 = 13 := by decide +kernel
 go_enter Tryz.func160, Tryz.ntmps160
 go_wp2
 go_ret
 exact ⟨ret_w (or_comm32 _ _), rfl⟩
theorem dr_19 (x : Int) (w : World) : Calls Tryz.prog 134 #[.int .u32 x, .int .i64 19] w fun e w' => e = .returned (.int .u32 (rotN x 19)) ∧ w = w' := by
 go_enter Tryz.func134, Tryz.ntmps134
 go_wp2_with (go_at_call 160; refine (rl_19 x _).mono ?_; rintro e w' ⟨rfl, rfl⟩)
 go_ret
 exact ⟨rfl, rfl⟩
theorem rr_19 (x : Int) (w : World) : Calls Tryz.prog 178 #[.int .u32 x, .int .i64 19] w fun e w' => e = .returned (.int .u32 (rotN x 19)) ∧ ∃ m, w' = w.drewN m := by
 go_enter Tryz.func178, Tryz.ntmps178
 go_wp2
 go_quiet (fail)
 go_wp2
 go_ret
 exact ⟨rfl, nq, rfl⟩
theorem rl_22 (x : Int) (w : World) : Calls Tryz.prog 160 #[.int .u32 x, .int .i64 (-22)] w fun e w' => e = .returned (.int .u32 (rotN x 22)) ∧ w = w' := by
 have hk : bits BinOp.and IntKind.u64 (IntKind.u64.wrap (-22)) 31 = 10 := by decide +kernel
 go_enter Tryz.func160, Tryz.ntmps160
 go_wp2
 go_ret
 exact ⟨ret_w (or_comm32 _ _), rfl⟩
theorem dr_22 (x : Int) (w : World) : Calls Tryz.prog 134 #[.int .u32 x, .int .i64 22] w fun e w' => e = .returned (.int .u32 (rotN x 22)) ∧ w = w' := by
 go_enter Tryz.func134, Tryz.ntmps134
 go_wp2_with (go_at_call 160; refine (rl_22 x _).mono ?_; rintro e w' ⟨rfl, rfl⟩)
 go_ret
 exact ⟨rfl, rfl⟩
theorem rr_22 (x : Int) (w : World) : Calls Tryz.prog 178 #[.int .u32 x, .int .i64 22] w fun e w' => e = .returned (.int .u32 (rotN x 22)) ∧ ∃ m, w' = w.drewN m := by
 go_enter Tryz.func178, Tryz.ntmps178
 go_wp2
 go_quiet (fail)
 go_wp2
 go_ret
 exact ⟨rfl, nq, rfl⟩
theorem rl_25 (x : Int) (w : World) : Calls Tryz.prog 160 #[.int .u32 x, .int .i64 (-25)] w fun e w' => e = .returned (.int .u32 (rotN x 25)) ∧ w = w' := by
 have hk : bits BinOp.and IntKind.u64 (IntKind.u64.wrap (-25)) 31 = 7 := by decide +kernel
 go_enter Tryz.func160, Tryz.ntmps160
 go_wp2
 go_ret
 exact ⟨ret_w (or_comm32 _ _), rfl⟩
theorem dr_25 (x : Int) (w : World) : Calls Tryz.prog 134 #[.int .u32 x, .int .i64 25] w fun e w' => e = .returned (.int .u32 (rotN x 25)) ∧ w = w' := by
 go_enter Tryz.func134, Tryz.ntmps134
 go_wp2_with (go_at_call 160; refine (rl_25 x _).mono ?_; rintro e w' ⟨rfl, rfl⟩)
 go_ret
 exact ⟨rfl, rfl⟩
theorem rr_25 (x : Int) (w : World) : Calls Tryz.prog 178 #[.int .u32 x, .int .i64 25] w fun e w' => e = .returned (.int .u32 (rotN x 25)) ∧ ∃ m, w' = w.drewN m := by
 go_enter Tryz.func178, Tryz.ntmps178
 go_wp2
 go_quiet (fail)
 go_wp2
 go_ret
 exact ⟨rfl, nq, rfl⟩
def rots : List Int := [2, 6, 7, 11, 13, 17, 18, 19, 22, 25]
theorem dRotr (x n : Int) (w : World) (h : n ∈ rots) : Calls Tryz.prog 134 #[.int .u32 x, .int .i64 n] w fun e w' => e = .returned (.int .u32 (rotN x n)) ∧ w = w' := by
 simp only [rots, List.mem_cons, List.not_mem_nil, or_false] at h
 rcases h with rfl | rfl | rfl | rfl | rfl | rfl | rfl | rfl | rfl | rfl
 ·exact dr_2 x w
 ·exact dr_6 x w
 ·exact dr_7 x w
 ·exact dr_11 x w
 ·exact dr_13 x w
 ·exact dr_17 x w
 ·exact dr_18 x w
 ·exact dr_19 x w
 ·exact dr_22 x w
 ·exact dr_25 x w
theorem rRotr (x n : Int) (w : World) (h : n ∈ rots) : Calls Tryz.prog 178 #[.int .u32 x, .int .i64 n] w fun e w' => e = .returned (.int .u32 (rotN x n)) ∧ ∃ m, w' = w.drewN m := by
 simp only [rots, List.mem_cons, List.not_mem_nil, or_false] at h
 rcases h with rfl | rfl | rfl | rfl | rfl | rfl | rfl | rfl | rfl | rfl
 ·exact rr_2 x w
 ·exact rr_6 x w
 ·exact rr_7 x w
 ·exact rr_11 x w
 ·exact rr_13 x w
 ·exact rr_17 x w
 ·exact rr_18 x w
 ·exact rr_19 x w
 ·exact rr_22 x w
 ·exact rr_25 x w
theorem drewN_add (w : World) (a b : Nat) : (w.drewN a).drewN b = w.drewN (a + b) := World.drewN_drewN w a b
theorem rRotrQ (x n : Int) (w : World) (q : Nat) (h : n ∈ rots) : Calls Tryz.prog 178 #[.int .u32 x, .int .i64 n] (w.drewN q) fun e w'' => e = .returned (.int .u32 (rotN x n)) ∧ ∃ m, w'' = w.drewN m :=
 (rRotr x n _ h).mono fun e w' hx => ⟨hx.1, by obtain ⟨m, hm⟩ := hx.2; exact ⟨q + m, hm.trans (drewN_add w q m)⟩⟩
theorem word_any (g o n c : Nat) (b0 b1 b2 b3 : UInt8) (w : World) (hn : 4 ≤ n) (c0 : w.cell? ⟨g, o, none⟩ = some (.int .u8 (b0.toNat : Int))) (c1 : w.cell? ⟨g, o + 1, none⟩ = some (.int .u8 (b1.toNat : Int))) (c2 : w.cell? ⟨g, o + 2, none⟩ = some (.int .u8 (b2.toNat : Int))) (c3 : w.cell? ⟨g, o + 3, none⟩ = some (.int .u8 (b3.toNat : Int))) :
 Calls Tryz.prog 177 #[.slice (some ⟨g, o, none⟩) n c] w fun e w' => e = .returned (.int .u32 (wordB b0 b1 b2 b3)) ∧ ∃ m, w' = w.drewN m := by
 have r0 := byte_lt b0
 have r1 := byte_lt b1
 have r2 := byte_lt b2
 have r3 := byte_lt b3
 have hn0 : (0 : Int) < (n : Int) := by omega
 have hn1 : (1 : Int) < (n : Int) := by omega
 have hn2 : (2 : Int) < (n : Int) := by omega
 have hn3 : (3 : Int) < (n : Int) := by omega
 go_enter Tryz.func177, Tryz.ntmps177
 go_wp2
 go_quiet (fail)
 go_wp2
 go_ret
 exact ⟨rfl, nq, rfl⟩
theorem const_any (n : Nat) (h : n < 64) (w : World) : Calls Tryz.prog 179 #[.int .i64 (n : Int)] w fun e w' => e = .returned (.int .u32 (kAt n)) ∧ Below w.heap.size w w' := by
 have hlen : kList.length = 64 := by decide
 have hc : (w.alloc (.cells (wvals kList) 187)).cell? ⟨w.heap.size, n, none⟩ = some (.int .u32 (kAt n)) := (Kr.Bx.new w 187 (wvals kList)).cell (wvals_at (by omega))
 have HB := Lib.hid ((Below.refl w.heap.size w).alloc (Nat.le_refl _) (.cells (wvals kList) 187))
 have h0 : (0 : Int) ≤ (n : Int) := by omega
 have h1 : (n : Int) < 64 := by omega
 go_enter Tryz.func179, Tryz.ntmps179
 go_upto_region 1 with fail
 apply wp_region_lit
 refine wpList_buildFlatArrTo rfl 187 154 64 _ rfl .u32 kList (some 4) rfl (by kernel_rfl) (by kernel_rfl) (by kernel_rfl) (by kernel_rfl) ?_
 go_wp2_with (refine wpList_store_rowTo rfl 187 _ _ rfl rfl w.heap.size (wvals kList) rfl rfl 187 _ (heap_alloc_new w _) (by kernel_rfl) (by kernel_rfl) (wvals_one _) ?_; rw [World.setRow_alloc_new])
 go_ret
 exact ⟨rfl, HB.out⟩
end Dg
end Go.Proofs.YtpkhbhdidkkebaaGreatDoor
end

section
namespace Go.Proofs.YtpkhbhdidkkebaaGreatDoor
open Go.RowKit Pl Ad
set_option maxRecDepth 100000
set_option maxHeartbeats 4000000
set_option linter.unusedVariables false
set_option linter.unusedSimpArgs false
namespace Dg
open Kr
theorem below_setRow {B : Nat} {w w' : World} {g : Nat} (h : Below B w w') (hg : B ≤ g) (cs : Array Value) : Below B w (w'.setRow g cs) := by
 exact h.trans ⟨rfl, rfl, rfl, by simp, fun k hk => setRow_other w' g k cs (by omega)⟩
theorem sched_any (b : Bs) (g o c : Nat) (w : World) (hl : b.length = 64) (hb : ∀ (i : Nat) (h : i < b.length), w.cell? ⟨g, o + i, none⟩ = some (.int .u8 (b[i].toNat : Int))) (hg : g < w.heap.size) :
 Calls Tryz.prog 133 #[.slice (some ⟨g, o, none⟩) 64 c] w fun e w' => e = .returned (.agg (wvals (schedL b 64))) ∧ Below w.heap.size w w' := by
 have HX2 := Lib.hid ((Bx.new w 187 (wvals (List.replicate 64 0))).older ((Below.refl _ _).alloc (Nat.le_refl _) (.cells (wvals (List.replicate 64 0)) 187)))
 have HX3 := Lib.hid (Bx.new (w.alloc (.cells (wvals (List.replicate 64 0)) 187)) 187 (wvals (List.replicate 64 0)))
 have HB := Lib.hid (((Below.refl w.heap.size w).alloc (Nat.le_refl _) (.cells (wvals (List.replicate 64 0)) 187)).alloc (by simp) (.cells (wvals (List.replicate 64 0)) 187))
 have hs : (w.alloc (.cells (wvals (List.replicate 64 0)) 187)).heap.size = w.heap.size + 1 := by simp
 rw [hs] at HX3
 clear hs
 have HBB := Lib.hid hb
 clear hb
 go_enter Tryz.func133, Tryz.ntmps133
 go_wp2_with fail
 go_loopg [10, 4] 16 (fun q iv s4 wr => ∃ k : Nat, iv = .int .i64 k ∧ k ≤ 16 ∧ Hid (16 ≤ q + k) ∧ Bx wr w.heap.size 187 (wvals (List.replicate 64 0)) ∧ Bx wr (w.heap.size + 1) 187 (wvals (schedL b k ++ List.replicate (64 - k) 0)) ∧ Below w.heap.size w wr)
 case atStart => exact ⟨0, rfl, Nat.zero_le _, Lib.hid (by omega), HX2.out, HX3.out, HB.out⟩
 case round =>
  obtain ⟨k, rfl, hk, HQ, hx2, hx3, hbel⟩ := hrel
  clear HX2 HX3 HB
  have HX2 := Lib.hid hx2
  have HX3 := Lib.hid hx3
  have HB := Lib.hid hbel
  have hz3 := hx3.lt
  by_cases hlt : k < 16
  ·have d0 := hx3.cell (i := k) (wvals_at (by rw [List.length_append, schedL_len, List.length_replicate]; omega))
   have f0 := hx3.frz k
   have c0 := (hbel.cell (p := ⟨g, o + 4 * k, none⟩) hg).trans (HBB.out (4 * k) (by omega))
   have c1 := (hbel.cell (p := ⟨g, o + (4 * k + 1), none⟩) hg).trans (HBB.out (4 * k + 1) (by omega))
   have c2 := (hbel.cell (p := ⟨g, o + (4 * k + 2), none⟩) hg).trans (HBB.out (4 * k + 2) (by omega))
   have c3 := (hbel.cell (p := ⟨g, o + (4 * k + 3), none⟩) hg).trans (HBB.out (4 * k + 3) (by omega))
   have HS := Lib.hid (sched_low hl hlt)
   generalize b[4 * k] = b0 at c0 HS
   generalize b[4 * k + 1] = b1 at c1 HS
   generalize b[4 * k + 2] = b2 at c2 HS
   generalize b[4 * k + 3] = b3 at c3 HS
   have HW := Lib.hid (wordB_wrap b0 b1 b2 b3)
   have hk64 : (k : Int) < 64 := by omega
   have hk0 : (0 : Int) ≤ (k : Int) := by omega
   have hk1 : (k : Int) < 16 := by omega
   have hk2 : (4 * k : Int) < 64 := by omega
   have hk3 : (4 * k + 1 : Int) < 64 := by omega
   have hk4 : (4 * k + 2 : Int) < 64 := by omega
   have hk5 : (4 * k + 3 : Int) < 64 := by omega
   have hw0 : IntKind.i64.wrap (4 * (k : Int)) = 4 * (k : Int) := by rw [IntKind.wrap_i64]; omega
   have hw1 : IntKind.i64.wrap (4 * (k : Int) + 1) = 4 * (k : Int) + 1 := by rw [IntKind.wrap_i64]; omega
   have hw2 : IntKind.i64.wrap (4 * (k : Int) + 2) = 4 * (k : Int) + 2 := by rw [IntKind.wrap_i64]; omega
   have hw3 : IntKind.i64.wrap (4 * (k : Int) + 3) = 4 * (k : Int) + 3 := by rw [IntKind.wrap_i64]; omega
   have hv0 : (0 : Int) ≤ 4 * (k : Int) := by omega
   have hv1 : (0 : Int) ≤ 4 * (k : Int) + 1 := by omega
   have hv2 : (0 : Int) ≤ 4 * (k : Int) + 2 := by omega
   have hv3 : (0 : Int) ≤ 4 * (k : Int) + 3 := by omega
   have hn0 : (4 * (k : Int)).toNat = 4 * k := by omega
   have hn1 : (4 * (k : Int) + 1).toNat = 4 * k + 1 := by omega
   have hn2 : (4 * (k : Int) + 2).toNat = 4 * k + 2 := by omega
   have hn3 : (4 * (k : Int) + 3).toNat = 4 * k + 3 := by omega
   clear hx2 hx3 hbel
   go_wp2_with fail
   go_still_tail 35, (by kernel_rfl)
   change wpList _ _ _ _ _ wr.drew
   generalize hw8 : wr.drew = w8
   have hb8 : Below wr.heap.size wr w8 := by rw [← hw8]; exact (Below.refl _ _).drew
   have HX28 := Lib.hid (HX2.out.older hb8)
   have HX38 := Lib.hid (HX3.out.older hb8)
   have HB8 := Lib.hid (HB.out.trans (hb8.mono HB.out.size))
   clear hw8 hb8 d0 f0
   have d0 := HX38.out.cell (i := k) (wvals_at (by rw [List.length_append, schedL_len, List.length_replicate]; omega))
   have f0 := HX38.out.frz k
   go_wp2_with fail
   go_roundg (gk - 1)
   case rel =>
    refine ⟨k + 1, by go_num, by omega, Lib.hid (by have := HQ.out; omega), HX28.out.touch (touch_set1 _ _ _ _) (by omega), ?_, HB8.out.setCell (p := ⟨w.heap.size + 1, k, none⟩) (by simp) _⟩
    have h9 := HX38.out.set k (.int .u32 (wordB b0 b1 b2 b3))
    rw [wvals_set, fill_set _ (schedL_len b k) (by omega), ← HS.out] at h9
    rw [HW.out]
    exact h9
   case measure => have := HQ.out; omega
  ·have hk16 : k = 16 := by omega
   subst hk16
   clear hx2 hx3 hbel
   go_wp2_with fail
   go_loopg [5, 6, 7, 8, 9] 48 (fun q iv s6 s7 s8 s9 wr => ∃ k : Nat, iv = .int .i64 k ∧ k ≤ 64 ∧ 16 ≤ k ∧ Hid (64 ≤ q + k) ∧ Bx wr w.heap.size 187 (wvals (List.replicate 64 0)) ∧ Bx wr (w.heap.size + 1) 187 (wvals (schedL b k ++ List.replicate (64 - k) 0)) ∧ Below w.heap.size w wr)
   case atStart => exact ⟨16, rfl, by omega, Nat.le_refl _, Lib.hid (by omega), HX2.out, HX3.out, HB.out⟩
   case round =>
    obtain ⟨k, rfl, hk, hk16, HQ, hx2, hx3, hbel⟩ := hrel
    clear HX2 HX3 HB
    have HX2 := Lib.hid hx2
    have HX3 := Lib.hid hx3
    have HB := Lib.hid hbel
    have hz3 := hx3.lt
    by_cases hlt : k < 64
    ·have hlen : ∀ i, i < k → i < (schedL b k ++ List.replicate (64 - k) 0).length := fun i hi => by rw [List.length_append, schedL_len, List.length_replicate]; omega
     have d2 := hx3.cell (i := k - 2) (wvals_at (hlen _ (by omega)))
     have d15 := hx3.cell (i := k - 15) (wvals_at (hlen _ (by omega)))
     rw [fill_at (schedL_len b k) (by omega)] at d2 d15
     obtain ⟨x, hx⟩ : ∃ x, wAt (schedL b k) (k - 2) = x := ⟨_, rfl⟩
     obtain ⟨y, hy⟩ : ∃ x, wAt (schedL b k) (k - 15) = x := ⟨_, rfl⟩
     obtain ⟨x7, hx7⟩ : ∃ x, wAt (schedL b k) (k - 7) = x := ⟨_, rfl⟩
     obtain ⟨x16, hx16⟩ : ∃ x, wAt (schedL b k) (k - 16) = x := ⟨_, rfl⟩
     rw [hx] at d2
     rw [hy] at d15
     have HXV := Lib.hid (And.intro hx (And.intro hy (And.intro hx7 hx16)))
     have HS := Lib.hid (sched_high hk16 HXV.out)
     have HLEN := Lib.hid hlen
     clear hx hy hx7 hx16 hlen
     have b2 : (0 : Int) ≤ (k : Int) - 2 := by omega
     have b7 : (0 : Int) ≤ (k : Int) - 7 := by omega
     have b15 : (0 : Int) ≤ (k : Int) - 15 := by omega
     have b16 : (0 : Int) ≤ (k : Int) - 16 := by omega
     have e2 : (k : Int) - 2 < 64 := by omega
     have e7 : (k : Int) - 7 < 64 := by omega
     have e15 : (k : Int) - 15 < 64 := by omega
     have e16 : (k : Int) - 16 < 64 := by omega
     have n2 : ((k : Int) - 2).toNat = k - 2 := by omega
     have n7 : ((k : Int) - 7).toNat = k - 7 := by omega
     have n15 : ((k : Int) - 15).toNat = k - 15 := by omega
     have n16 : ((k : Int) - 16).toNat = k - 16 := by omega
     have hw2 : IntKind.i64.wrap ((k : Int) - 2) = (k : Int) - 2 := by rw [IntKind.wrap_i64]; omega
     have hw7 : IntKind.i64.wrap ((k : Int) - 7) = (k : Int) - 7 := by rw [IntKind.wrap_i64]; omega
     have hw15 : IntKind.i64.wrap ((k : Int) - 15) = (k : Int) - 15 := by rw [IntKind.wrap_i64]; omega
     have hw16 : IntKind.i64.wrap ((k : Int) - 16) = (k : Int) - 16 := by rw [IntKind.wrap_i64]; omega
     have hk0 : (0 : Int) ≤ (k : Int) := by omega
     have hk64 : (k : Int) < 64 := by omega
     clear hx2 hx3 hbel
     go_wp2_with fail
     go_quiet (fail)
     generalize hw8 : wr.drewN nq = w8
     have hb8 : Below wr.heap.size wr w8 := by rw [← hw8]; exact below_drewN (Below.refl _ _) _
     have HX28 := Lib.hid (HX2.out.older hb8)
     have HX38 := Lib.hid (HX3.out.older hb8)
     have HB8 := Lib.hid (HB.out.trans (hb8.mono HB.out.size))
     clear hw8 hb8 d2 d15
     go_wp2_with (go_at_call 134; refine (dRotr _ _ _ (by decide)).mono ?_; rintro e w' ⟨rfl, rfl⟩)
     have hz8 := HX38.out.lt
     have b7' : (7 : Int) ≤ (k : Int) := by omega
     have b16' : (16 : Int) ≤ (k : Int) := by omega
     have e7' : (k : Int) < 71 := by omega
     have e16' : (k : Int) < 80 := by omega
     have d7 := HX38.out.cell (i := k - 7) (wvals_at (HLEN.out _ (by omega)))
     have d16 := HX38.out.cell (i := k - 16) (wvals_at (HLEN.out _ (by omega)))
     rw [fill_at (schedL_len b k) (by omega)] at d7 d16
     rw [HXV.out.2.2.1] at d7
     rw [HXV.out.2.2.2] at d16
     go_still_tail 15, (by kernel_rfl)
     change wpList _ _ _ _ _ w8.drew
     generalize hw9 : w8.drew = w9
     have hb9 : Below w8.heap.size w8 w9 := by rw [← hw9]; exact (Below.refl _ _).drew
     have HX29 := Lib.hid (HX28.out.older hb9)
     have HX39 := Lib.hid (HX38.out.older hb9)
     have HB9 := Lib.hid (HB8.out.trans (hb9.mono HB8.out.size))
     clear hw9 hb9 d7 d16
     have d0 := HX39.out.cell (i := k) (wvals_at (by rw [List.length_append, schedL_len, List.length_replicate]; omega))
     have f0 := HX39.out.frz k
     have hz9 := HX39.out.lt
     go_wp2_with fail
     go_roundg (gk - 1)
     case rel =>
      refine ⟨k + 1, by go_num, by omega, by omega, Lib.hid (by have := HQ.out; omega), HX29.out.touch (touch_set1 _ _ _ _) (by omega), ?_, HB9.out.setCell (p := ⟨w.heap.size + 1, k, none⟩) (by simp) _⟩
      have h9 := HX39.out.set k (.int .u32 ((sg1 x + x7 + sg0 y + x16) % 4294967296))
      rw [wvals_set, fill_set _ (schedL_len b k) (by omega), ← HS.out] at h9
      exact h9
     case measure => have := HQ.out; omega
    ·have hk64 : k = 64 := by omega
     subst hk64
     have hx3' : Bx wr (w.heap.size + 1) 187 (wvals (schedL b 64)) := by have h9 := hx3; rw [show 64 - 64 = 0 from rfl, List.replicate_zero, List.append_nil] at h9; exact h9
     have HX3F := Lib.hid hx3'
     have hi : (Tryz.prog.info? 187).map (·.size) = some (wvals (schedL b 64)).size := by rw [wvals_size, schedL_len]; kernel_rfl
     have HI := Lib.hid hi
     have hsz : (wvals (List.replicate 64 0)).size = (wvals (schedL b 64)).size := by rw [wvals_size, wvals_size, schedL_len, List.length_replicate]
     have HSZ := Lib.hid hsz
     have hb9 := HB.out
     have HBF := Lib.hid (show Below w.heap.size w (wr.setRow w.heap.size (wvals (schedL b 64))) from below_setRow hb9 (Nat.le_refl _) _)
     have HXF := Lib.hid (setRow_heap wr w.heap.size _ (wvals (schedL b 64)) _ _ HX2.out)
     clear hx2 hx3 hbel hx3' hi hsz hb9
     go_wp2_with (first
      | (refine wpList_load_row rfl 187 _ rfl (w.heap.size + 1) rfl 187 _ (0, 0) _ HX3F.out Tryz.underlying187 rfl HI.out ?_)
      | (refine wpList_store_rowTo rfl 187 _ _ rfl rfl w.heap.size (wvals (schedL b 64)) rfl rfl 187 _ HX2.out HI.out HSZ.out (wvals_one _) ?_))
     exact bodyPost_ret (v := .agg (wvals (schedL b 64))) (results_cell_row Tryz.results133 _ _ w.heap.size 187 _ (0, 0) _ rfl HXF.out Tryz.underlying187 rfl HI.out) rfl ⟨rfl, HBF.out⟩
end Dg
end Go.Proofs.YtpkhbhdidkkebaaGreatDoor
end

