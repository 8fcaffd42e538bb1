/- Contracts and plain facts that the statement's proof leans on (texts joined). No condition beyond those that each names. -/
import Derived.Test.YtpkhbhdidkkebaaGreatDoorPvS
section
namespace Go.Proofs.YtpkhbhdidkkebaaGreatDoor
open Go.RowKit Pl Ad
set_option maxRecDepth 100000
set_option maxHeartbeats 4000000
set_option linter.unusedVariables false
set_option linter.unusedSimpArgs false
namespace Dg
open Kr
theorem bytesCloneV (v : Value) (l : Bs) (w : World) (h : SrcAt w v l.length (bvals l)) (hl : l.length ≤ 1000000) :
 Calls Tryz.prog 95 #[v] w fun e w' => ∃ u, e = .returned u ∧ OwnWin w' w.heap.size 5 1 u l.length (bvals l) ∧ Below w.heap.size w w' := by
 have HO := Lib.hid h
 rcases h with ⟨rfl, h0, _⟩ | ⟨ad, cap, rfl, hb⟩
 ·obtain rfl : l = [] := List.eq_nil_of_length_eq_zero h0
  have HN := Lib.hid (OwnWin.nil w w.heap.size 5 1)
  have e0 : ∀ wx : World, (binOp .eql 45 (.slice none 0 0) (.slice none 0 0)).run Tryz.prog wx = .ok (.bool true) wx := fun wx => by kernel_rfl
  clear h0
  go_enter Tryz.func95, Tryz.ntmps95
  go_wp2
  go_ret
  exact ⟨_, rfl, HN.out, Below.refl _ _⟩
 ·have e0 : ∀ wx : World, (binOp .eql 45 (.slice (some ad) l.length cap) (.slice none 0 0)).run Tryz.prog wx = .ok (.bool false) wx := fun wx => Go.Lib.run_eql_slice_nil wx _ _ _ _ _ _ _ Tryz.underlying45
  clear hb
  go_enter Tryz.func95, Tryz.ntmps95
  go_wp2_with ((at_builtin; refine wpList_appw tyBytes rfl _ _ rfl w.heap.size (.slice (some ⟨w.heap.size, 0, none⟩) 0 0) 0 [] rfl (ownK_empty (heap_alloc_new w _) (Nat.le_refl _)) (by simp) (.slice (some ad) l.length cap) l.length (bvals l) rfl (HO.out.older ((Below.refl _ _).alloc (Nat.le_refl _) _)) (by rw [bvals_len]; omega) (bvals_one _) (by omega) ?_; intro v' w2 hown2 hgrow2 hlies2; rw [Nat.zero_add, List.nil_append] at hown2))
  go_ret
  exact ⟨_, rfl, hown2, belowK_grown ((Below.refl w.heap.size w).alloc (Nat.le_refl _) _) hgrow2 (by simp) (fun q hq => by simp [Value.ownBlock] at hq; omega)⟩
theorem bytesClone_any (a : Option Addr) (c : Nat) (l : Bs) (w : World) (h : SrcAt w (.slice a l.length c) l.length (bvals l)) (hl : l.length ≤ 1000000) :
 Calls Tryz.prog 95 #[.slice a l.length c] w fun e w' => ∃ ua uc, e = .returned (.slice ua l.length uc) ∧ OwnWin w' w.heap.size 5 1 (.slice ua l.length uc) l.length (bvals l) ∧ Below w.heap.size w w' :=
 (bytesCloneV _ l w h hl).mono fun e w' hx => by
  obtain ⟨u, rfl, hu, hb⟩ := hx
  obtain ⟨ua, uc, rfl, _⟩ := hu.form
  exact ⟨ua, uc, rfl, hu, hb⟩
theorem word4_vals (x : Int) : bvals (word4 x) = [.int .u8 (x / 16777216 % 256), .int .u8 (x / 65536 % 256), .int .u8 (x / 256 % 256), .int .u8 (x % 256)] := by
 have h : ∀ z : Int, ((UInt8.ofNat (z % 256).toNat).toNat : Int) = z % 256 := fun z => by
  rw [UInt8.toNat_ofNat']
  omega
 simp only [bvals, word4, List.map_cons, List.map_nil, h]
theorem be8_take (n : Nat) : ∀ k, k < 8 → (be8 n).take (k + 1) = (be8 n).take k ++ [UInt8.ofNat (n / 2 ^ (56 - 8 * k))] := by
 intro k hk
 match k, hk with
 | 0, _ => rfl
 | 1, _ => rfl
 | 2, _ => rfl
 | 3, _ => rfl
 | 4, _ => rfl
 | 5, _ => rfl
 | 6, _ => rfl
 | 7, _ => rfl
theorem srcMany {w : World} {g n c : Nat} {C : Array Value} {e : TypeId} {fr : Nat × Nat} (h : w.heap[g]? = some (.cells C e fr)) : SrcAt w (.slice (some ⟨g, 0, none⟩) n c) n C.toList := by
 refine .inr ⟨_, _, rfl, fun j u hu => ?_⟩
 rw [Addr.add_lit, Nat.zero_add, cell_of_row w g j C e fr h]
 simpa using hu
/-- The first k words' bytes. -/
def outK (s : St) (k : Nat) : Bs := ((stL s).take k).flatMap word4
theorem outK_all (s : St) : outK s 8 = outM s := rfl
theorem outK_next (s : St) : ∀ k, k < 8 → outK s (k + 1) = outK s k ++ word4 ((stL s).getD k 0) := by
 intro k hk
 match k, hk with
 | 0, _ => rfl
 | 1, _ => rfl
 | 2, _ => rfl
 | 3, _ => rfl
 | 4, _ => rfl
 | 5, _ => rfl
 | 6, _ => rfl
 | 7, _ => rfl
/-- A box of eight words and a slice. -/
def Box8 (w : World) (B R : Nat) (cs : Array Value) (v : Value) (n : Nat) (l : Bs) : Prop := Bx w R 155 cs ∧ OwnWin w B 5 1 v n (bvals l)
theorem Box8.set {w : World} {B R n : Nat} {cs : Array Value} {v : Value} {l : Bs} (h : Box8 w B R cs v n l) (i : Nat) (u : Value) : Box8 (w.setCell ⟨R, i, none⟩ u) B R (cs.setIfInBounds i u) v n l :=
 ⟨h.1.set i u, own_setB h.2 h.1 (by decide)⟩
theorem setV_cells (s s' : St) : ((((((((stV s).setIfInBounds 0 (.int .u32 s'.a)).setIfInBounds 1 (.int .u32 s'.b)).setIfInBounds 2 (.int .u32 s'.c)).setIfInBounds 3 (.int .u32 s'.d)).setIfInBounds 4 (.int .u32 s'.e)).setIfInBounds 5 (.int .u32 s'.f)).setIfInBounds 6 (.int .u32 s'.g)).setIfInBounds 7 (.int .u32 s'.h) = stV s' := by
 simp [stV]
theorem Box8.setS {w : World} {B R n : Nat} {s : St} {v : Value} {l : Bs} (h : Box8 w B R (stV s) v n l) (s' : St) : Box8 ((((((((w.setCell ⟨R, 0, none⟩ (.int .u32 s'.a)).setCell ⟨R, 1, none⟩ (.int .u32 s'.b)).setCell ⟨R, 2, none⟩ (.int .u32 s'.c)).setCell ⟨R, 3, none⟩ (.int .u32 s'.d)).setCell ⟨R, 4, none⟩ (.int .u32 s'.e)).setCell ⟨R, 5, none⟩ (.int .u32 s'.f)).setCell ⟨R, 6, none⟩ (.int .u32 s'.g)).setCell ⟨R, 7, none⟩ (.int .u32 s'.h)) B R (stV s') v n l := by
 have h8 := (((((((h.set 0 (.int .u32 s'.a)).set 1 (.int .u32 s'.b)).set 2 (.int .u32 s'.c)).set 3 (.int .u32 s'.d)).set 4 (.int .u32 s'.e)).set 5 (.int .u32 s'.f)).set 6 (.int .u32 s'.g)).set 7 (.int .u32 s'.h)
 rw [setV_cells] at h8
 exact h8
theorem tail_parts (l : Bs) (n : Nat) : l ++ 128 :: List.replicate (zerosN n) 0 ++ (be8 (8 * n)).take 8 = l ++ tailM n := by
 rw [show (be8 (8 * n)).take 8 = be8 (8 * n) from rfl]
 simp [tailM]
theorem zeros_test {l n j : Nat} (hl : l = n % 64) (hj : j ≤ zerosN n) : (l + 1 + j) % 64 = 56 ↔ j = zerosN n := by
 unfold zerosN at hj ⊢
 omega
theorem zeros_lt (n : Nat) : zerosN n < 64 := by unfold zerosN; omega
theorem hsum_any (B R : Nat) (s : St) (v : Value) (l : Bs) (n : Nat) (w : World) (h : HashAt w B R s v l n) (hc : ConstAt w) (hl : l.length = n % 64) (hn : n ≤ 1073741824) :
 Calls Tryz.prog 63 #[ptrK R] w fun e w' => ∃ a c, e = .returned (.slice a 32 c) ∧ OwnWin w' w.heap.size 5 1 (.slice a 32 c) 32 (bvals (outM (runL mixM s (l ++ tailM n)).1)) ∧ Below w.heap.size w w' := by
 obtain ⟨sa, sb, sc, sd, se, sf, sg, sh⟩ := s
 obtain ⟨va, vc, rfl, hvc⟩ := h.own.form
 have HH := Lib.hid h
 have HC := Lib.hid hc
 have HLN := Lib.hid hl
 have hl64 : l.length < 64 := by rw [hl]; omega
 have hz64 := zeros_lt n
 have c0 : World.cell? w ⟨R, 0, none⟩ = some (.int .u32 sa) := (h).box.cell (i := 0) rfl
 have c1 : World.cell? w ⟨R, 1, none⟩ = some (.int .u32 sb) := (h).box.cell (i := 1) rfl
 have c2 : World.cell? w ⟨R, 2, none⟩ = some (.int .u32 sc) := (h).box.cell (i := 2) rfl
 have c3 : World.cell? w ⟨R, 3, none⟩ = some (.int .u32 sd) := (h).box.cell (i := 3) rfl
 have c4 : World.cell? w ⟨R, 4, none⟩ = some (.int .u32 se) := (h).box.cell (i := 4) rfl
 have c5 : World.cell? w ⟨R, 5, none⟩ = some (.int .u32 sf) := (h).box.cell (i := 5) rfl
 have c6 : World.cell? w ⟨R, 6, none⟩ = some (.int .u32 sg) := (h).box.cell (i := 6) rfl
 have c7 : World.cell? w ⟨R, 7, none⟩ = some (.int .u32 sh) := (h).box.cell (i := 7) rfl
 have c9 : World.cell? w ⟨R, 9, none⟩ = some (.int .i64 (n : Int)) := (h).box.cell (i := 9) rfl
 have c8 : World.cell? w ⟨R, 8, none⟩ = some (.slice va l.length vc) := h.box.cell (i := 8) rfl
 have hz := h.box.lt
 have hmk : ∀ w, (Instr.makeSlice 45 (.int .i64 0) (.int .i64 32)).run Tryz.prog w = .ok (.slice (some ⟨w.heap.size, 0, none⟩) 0 32) (w.alloc (.cells (bvals (List.replicate 32 0)).toArray 5)) := fun _ => by kernel_rfl
 have HMK := Lib.hid hmk
 clear h hc hl hmk
 go_enter Tryz.func63, Tryz.ntmps63
 go_wp2_with (first | (go_at_call 95; refine (bytesClone_any va vc l _ (SrcAt.of HH.out.own) (by omega)).mono ?_; rintro e w1 ⟨ua, uc, rfl, hu, hb1⟩; have HOW := Lib.hid hu; have HBW := Lib.hid hb1; have HZZ := Lib.hid (show w.heap.size ≤ (w1.alloc (.cells #[.int .u8 128] 5)).heap.size by have := hb1.size; simp; omega); clear hu hb1) | (at_builtin; refine wpList_appw tyBytes (by rfl) _ _ (by rfl) w.heap.size (.slice ua l.length uc) l.length _ (by rfl) (HOW.out.alloc _) HZZ.out (.slice (some ⟨w1.heap.size, 0, none⟩) 1 1) 1 [.int .u8 128] (by rfl) (srcMany (heap_alloc_new w1 _)) (by rfl) (by simp [Value.oneCell']) (by omega) ?_; intro v' w2 hown2 hgrow2 hlies2))
 obtain ⟨ub, ud, rfl, hud⟩ := hown2.form
 have HBN := Lib.hid (belowK_grown (HBW.out.alloc HBW.out.size _) hgrow2 (Nat.le_trans HBW.out.size (by simp)) (fun q hq => (HOW.out.lt q hq).1))
 have HON := Lib.hid (show OwnWin w2 w.heap.size 5 1 (.slice ub (l.length + 1) ud) (l.length + 1) (bvals (l ++ 128 :: List.replicate 0 0)) by rw [show l ++ 128 :: List.replicate 0 0 = l ++ [128] from rfl, ← bvals_append]; exact hown2)
 clear hown2 hgrow2 hlies2 c0 c1 c2 c3 c4 c5 c6 c7 c8 c9 hz HZZ
 go_wp2_with fail
 go_loopg [3] (zerosN n) (fun gq sv wr => ∃ (j N : Nat) (a : Option Addr) (c : Nat), j ≤ zerosN n ∧ Hid (zerosN n ≤ gq + j) ∧ sv = .slice a N c ∧ Hid (N = l.length + 1 + j) ∧ OwnWin wr w.heap.size 5 1 (.slice a N c) N (bvals (l ++ 128 :: List.replicate j 0)) ∧ Below w.heap.size w wr)
 case atStart => exact ⟨0, l.length + 1, ub, ud, Nat.zero_le _, Lib.hid (by omega), rfl, Lib.hid rfl, HON.out, HBN.out⟩
 case round =>
  obtain ⟨j, N, ua, uc, hj, HQ, rfl, HN, hown, hbel⟩ := hrel
  clear HON HBN HOW HBW
  have HOW := Lib.hid hown
  have HBW := Lib.hid hbel
  have hN0 : (0 : Int) ≤ (N : Int) := by omega
  have hNb : N ≤ 200 := by have := HN.out; omega
  clear hown hbel
  by_cases hlt : j = zerosN n
  ·have ht : ((N : Int) % 64 != 56) = false := by
    have h9 := (zeros_test HLN.out hj).2 hlt
    have h8 := HN.out
    simp only [bne_eq_false_iff_eq]
    omega
   subst hlt
   have HHW := Lib.hid (HH.out.older HBW.out)
   go_wp2_with fail
   have HON := Lib.hid (show OwnWin wr w.heap.size 5 1 (.slice ua N uc) N (bvals (l ++ 128 :: List.replicate (zerosN n) 0 ++ (be8 (8 * n)).take 0)) by rw [List.take_zero, List.append_nil]; exact HOW.out)
   have HM := Lib.hid (show N = l.length + 1 + zerosN n from HN.out)
   go_loopg [4, 3] 8 (fun gq iv sv wr => ∃ (k : Nat) (i : Int) (N : Nat) (a : Option Addr) (c : Nat), i = 7 - k ∧ k ≤ 8 ∧ Hid (8 ≤ gq + k) ∧ iv = .int .i64 i ∧ sv = .slice a N c ∧ Hid (N = l.length + 1 + zerosN n + k) ∧ OwnWin wr w.heap.size 5 1 (.slice a N c) N (bvals (l ++ 128 :: List.replicate (zerosN n) 0 ++ (be8 (8 * n)).take k)) ∧ Below w.heap.size w wr)
   case atStart => exact ⟨0, 7, N, ua, uc, by omega, Nat.zero_le _, Lib.hid (by omega), rfl, rfl, Lib.hid (by have := HM.out; omega), HON.out, HBW.out⟩
   case round =>
    obtain ⟨k, i, N, ua, uc, hki, hk8, HQ, rfl, rfl, HN, hown, hbel⟩ := hrel
    clear HON HOW HBW HHW HM
    have HOW := Lib.hid hown
    have HBW := Lib.hid hbel
    have HHW := Lib.hid (HH.out.older hbel)
    have HZZ : Hid (∀ C : Array Value, w.heap.size ≤ (wr.alloc (.cells C 5)).heap.size) := Lib.hid (fun C => by have := hbel.size; simp; omega)
    have hNb : N ≤ 300 := by have := HN.out; omega
    have hw8 : IntKind.i64.wrap (8 * (n : Int)) = 8 * (n : Int) := by rw [IntKind.wrap_i64]; omega
    clear hown hbel
    rcases (show (k = 0 ∧ i = 7) ∨ (k = 1 ∧ i = 6) ∨ (k = 2 ∧ i = 5) ∨ (k = 3 ∧ i = 4) ∨ (k = 4 ∧ i = 3) ∨ (k = 5 ∧ i = 2) ∨ (k = 6 ∧ i = 1) ∨ (k = 7 ∧ i = 0) ∨ (k = 8 ∧ i = -1) by omega) with ⟨rfl, rfl⟩ | ⟨rfl, rfl⟩ | ⟨rfl, rfl⟩ | ⟨rfl, rfl⟩ | ⟨rfl, rfl⟩ | ⟨rfl, rfl⟩ | ⟨rfl, rfl⟩ | ⟨rfl, rfl⟩ | ⟨rfl, rfl⟩
    ·clear hk8 hki
     have c9 : wr.cell? ⟨R, 9, none⟩ = some (.int .i64 (n : Int)) := HHW.out.box.cell (i := 9) rfl
     have hz := HHW.out.box.lt
     have HBY := Lib.hid (show (8 * (n : Int) / 72057594037927936) = ((UInt8.ofNat (8 * n / 2 ^ (56 - 8 * 0))).toNat : Int) by rw [UInt8.toNat_ofNat']; omega)
     go_wp2_with ((at_builtin; refine wpList_appw tyBytes (by rfl) _ _ (by rfl) w.heap.size (.slice ua N uc) N _ (by rfl) (HOW.out.alloc _) (HZZ.out _) (.slice (some ⟨wr.heap.size, 0, none⟩) 1 1) 1 [.int .u8 (8 * (n : Int) / 72057594037927936)] (by rfl) (srcMany (heap_alloc_new wr _)) (by rfl) (by simp [Value.oneCell']) (by omega) ?_; intro v' w2 hown2 hgrow2 hlies2))
     obtain ⟨ub, ud, rfl, hud⟩ := hown2.form
     have HBN := Lib.hid (belowK_grown (HBW.out.alloc HBW.out.size _) hgrow2 (Nat.le_trans HBW.out.size (by simp)) (fun q hq => (HOW.out.lt q hq).1))
     have HON := Lib.hid (show OwnWin w2 w.heap.size 5 1 (.slice ub (N + 1) ud) (N + 1) (bvals (l ++ 128 :: List.replicate (zerosN n) 0 ++ (be8 (8 * n)).take (0 + 1))) by rw [be8_take _ _ (by omega), ← List.append_assoc, ← bvals_append]; have h9 := hown2; rw [HBY.out] at h9; exact h9)
     clear hown2 hgrow2 hlies2
     go_roundg (gk - 1)
     case rel => exact ⟨1, 6, N + 1, ub, ud, by omega, by omega, Lib.hid (by have := HQ.out; omega), by go_num, rfl, Lib.hid (by have := HN.out; omega), HON.out, HBN.out⟩
     case measure => have := HQ.out; omega
    ·clear hk8 hki
     have c9 : wr.cell? ⟨R, 9, none⟩ = some (.int .i64 (n : Int)) := HHW.out.box.cell (i := 9) rfl
     have hz := HHW.out.box.lt
     have HBY := Lib.hid (show (8 * (n : Int) / 281474976710656) = ((UInt8.ofNat (8 * n / 2 ^ (56 - 8 * 1))).toNat : Int) by rw [UInt8.toNat_ofNat']; omega)
     go_wp2_with ((at_builtin; refine wpList_appw tyBytes (by rfl) _ _ (by rfl) w.heap.size (.slice ua N uc) N _ (by rfl) (HOW.out.alloc _) (HZZ.out _) (.slice (some ⟨wr.heap.size, 0, none⟩) 1 1) 1 [.int .u8 (8 * (n : Int) / 281474976710656)] (by rfl) (srcMany (heap_alloc_new wr _)) (by rfl) (by simp [Value.oneCell']) (by omega) ?_; intro v' w2 hown2 hgrow2 hlies2))
     obtain ⟨ub, ud, rfl, hud⟩ := hown2.form
     have HBN := Lib.hid (belowK_grown (HBW.out.alloc HBW.out.size _) hgrow2 (Nat.le_trans HBW.out.size (by simp)) (fun q hq => (HOW.out.lt q hq).1))
     have HON := Lib.hid (show OwnWin w2 w.heap.size 5 1 (.slice ub (N + 1) ud) (N + 1) (bvals (l ++ 128 :: List.replicate (zerosN n) 0 ++ (be8 (8 * n)).take (1 + 1))) by rw [be8_take _ _ (by omega), ← List.append_assoc, ← bvals_append]; have h9 := hown2; rw [HBY.out] at h9; exact h9)
     clear hown2 hgrow2 hlies2
     go_roundg (gk - 1)
     case rel => exact ⟨2, 5, N + 1, ub, ud, by omega, by omega, Lib.hid (by have := HQ.out; omega), by go_num, rfl, Lib.hid (by have := HN.out; omega), HON.out, HBN.out⟩
     case measure => have := HQ.out; omega
    ·clear hk8 hki
     have c9 : wr.cell? ⟨R, 9, none⟩ = some (.int .i64 (n : Int)) := HHW.out.box.cell (i := 9) rfl
     have hz := HHW.out.box.lt
     have HBY := Lib.hid (show (8 * (n : Int) / 1099511627776) = ((UInt8.ofNat (8 * n / 2 ^ (56 - 8 * 2))).toNat : Int) by rw [UInt8.toNat_ofNat']; omega)
     go_wp2_with ((at_builtin; refine wpList_appw tyBytes (by rfl) _ _ (by rfl) w.heap.size (.slice ua N uc) N _ (by rfl) (HOW.out.alloc _) (HZZ.out _) (.slice (some ⟨wr.heap.size, 0, none⟩) 1 1) 1 [.int .u8 (8 * (n : Int) / 1099511627776)] (by rfl) (srcMany (heap_alloc_new wr _)) (by rfl) (by simp [Value.oneCell']) (by omega) ?_; intro v' w2 hown2 hgrow2 hlies2))
     obtain ⟨ub, ud, rfl, hud⟩ := hown2.form
     have HBN := Lib.hid (belowK_grown (HBW.out.alloc HBW.out.size _) hgrow2 (Nat.le_trans HBW.out.size (by simp)) (fun q hq => (HOW.out.lt q hq).1))
     have HON := Lib.hid (show OwnWin w2 w.heap.size 5 1 (.slice ub (N + 1) ud) (N + 1) (bvals (l ++ 128 :: List.replicate (zerosN n) 0 ++ (be8 (8 * n)).take (2 + 1))) by rw [be8_take _ _ (by omega), ← List.append_assoc, ← bvals_append]; have h9 := hown2; rw [HBY.out] at h9; exact h9)
     clear hown2 hgrow2 hlies2
     go_roundg (gk - 1)
     case rel => exact ⟨3, 4, N + 1, ub, ud, by omega, by omega, Lib.hid (by have := HQ.out; omega), by go_num, rfl, Lib.hid (by have := HN.out; omega), HON.out, HBN.out⟩
     case measure => have := HQ.out; omega
    ·clear hk8 hki
     have c9 : wr.cell? ⟨R, 9, none⟩ = some (.int .i64 (n : Int)) := HHW.out.box.cell (i := 9) rfl
     have hz := HHW.out.box.lt
     have HBY := Lib.hid (show (8 * (n : Int) / 4294967296) = ((UInt8.ofNat (8 * n / 2 ^ (56 - 8 * 3))).toNat : Int) by rw [UInt8.toNat_ofNat']; omega)
     go_wp2_with ((at_builtin; refine wpList_appw tyBytes (by rfl) _ _ (by rfl) w.heap.size (.slice ua N uc) N _ (by rfl) (HOW.out.alloc _) (HZZ.out _) (.slice (some ⟨wr.heap.size, 0, none⟩) 1 1) 1 [.int .u8 (8 * (n : Int) / 4294967296)] (by rfl) (srcMany (heap_alloc_new wr _)) (by rfl) (by simp [Value.oneCell']) (by omega) ?_; intro v' w2 hown2 hgrow2 hlies2))
     obtain ⟨ub, ud, rfl, hud⟩ := hown2.form
     have HBN := Lib.hid (belowK_grown (HBW.out.alloc HBW.out.size _) hgrow2 (Nat.le_trans HBW.out.size (by simp)) (fun q hq => (HOW.out.lt q hq).1))
     have HON := Lib.hid (show OwnWin w2 w.heap.size 5 1 (.slice ub (N + 1) ud) (N + 1) (bvals (l ++ 128 :: List.replicate (zerosN n) 0 ++ (be8 (8 * n)).take (3 + 1))) by rw [be8_take _ _ (by omega), ← List.append_assoc, ← bvals_append]; have h9 := hown2; rw [HBY.out] at h9; exact h9)
     clear hown2 hgrow2 hlies2
     go_roundg (gk - 1)
     case rel => exact ⟨4, 3, N + 1, ub, ud, by omega, by omega, Lib.hid (by have := HQ.out; omega), by go_num, rfl, Lib.hid (by have := HN.out; omega), HON.out, HBN.out⟩
     case measure => have := HQ.out; omega
    ·clear hk8 hki
     have c9 : wr.cell? ⟨R, 9, none⟩ = some (.int .i64 (n : Int)) := HHW.out.box.cell (i := 9) rfl
     have hz := HHW.out.box.lt
     have HBY := Lib.hid (show (8 * (n : Int) / 16777216 % 256) = ((UInt8.ofNat (8 * n / 2 ^ (56 - 8 * 4))).toNat : Int) by rw [UInt8.toNat_ofNat']; omega)
     go_wp2_with ((at_builtin; refine wpList_appw tyBytes (by rfl) _ _ (by rfl) w.heap.size (.slice ua N uc) N _ (by rfl) (HOW.out.alloc _) (HZZ.out _) (.slice (some ⟨wr.heap.size, 0, none⟩) 1 1) 1 [.int .u8 (8 * (n : Int) / 16777216 % 256)] (by rfl) (srcMany (heap_alloc_new wr _)) (by rfl) (by simp [Value.oneCell']) (by omega) ?_; intro v' w2 hown2 hgrow2 hlies2))
     obtain ⟨ub, ud, rfl, hud⟩ := hown2.form
     have HBN := Lib.hid (belowK_grown (HBW.out.alloc HBW.out.size _) hgrow2 (Nat.le_trans HBW.out.size (by simp)) (fun q hq => (HOW.out.lt q hq).1))
     have HON := Lib.hid (show OwnWin w2 w.heap.size 5 1 (.slice ub (N + 1) ud) (N + 1) (bvals (l ++ 128 :: List.replicate (zerosN n) 0 ++ (be8 (8 * n)).take (4 + 1))) by rw [be8_take _ _ (by omega), ← List.append_assoc, ← bvals_append]; have h9 := hown2; rw [HBY.out] at h9; exact h9)
     clear hown2 hgrow2 hlies2
     go_roundg (gk - 1)
     case rel => exact ⟨5, 2, N + 1, ub, ud, by omega, by omega, Lib.hid (by have := HQ.out; omega), by go_num, rfl, Lib.hid (by have := HN.out; omega), HON.out, HBN.out⟩
     case measure => have := HQ.out; omega
    ·clear hk8 hki
     have c9 : wr.cell? ⟨R, 9, none⟩ = some (.int .i64 (n : Int)) := HHW.out.box.cell (i := 9) rfl
     have hz := HHW.out.box.lt
     have HBY := Lib.hid (show (8 * (n : Int) / 65536 % 256) = ((UInt8.ofNat (8 * n / 2 ^ (56 - 8 * 5))).toNat : Int) by rw [UInt8.toNat_ofNat']; omega)
     go_wp2_with ((at_builtin; refine wpList_appw tyBytes (by rfl) _ _ (by rfl) w.heap.size (.slice ua N uc) N _ (by rfl) (HOW.out.alloc _) (HZZ.out _) (.slice (some ⟨wr.heap.size, 0, none⟩) 1 1) 1 [.int .u8 (8 * (n : Int) / 65536 % 256)] (by rfl) (srcMany (heap_alloc_new wr _)) (by rfl) (by simp [Value.oneCell']) (by omega) ?_; intro v' w2 hown2 hgrow2 hlies2))
     obtain ⟨ub, ud, rfl, hud⟩ := hown2.form
     have HBN := Lib.hid (belowK_grown (HBW.out.alloc HBW.out.size _) hgrow2 (Nat.le_trans HBW.out.size (by simp)) (fun q hq => (HOW.out.lt q hq).1))
     have HON := Lib.hid (show OwnWin w2 w.heap.size 5 1 (.slice ub (N + 1) ud) (N + 1) (bvals (l ++ 128 :: List.replicate (zerosN n) 0 ++ (be8 (8 * n)).take (5 + 1))) by rw [be8_take _ _ (by omega), ← List.append_assoc, ← bvals_append]; have h9 := hown2; rw [HBY.out] at h9; exact h9)
     clear hown2 hgrow2 hlies2
     go_roundg (gk - 1)
     case rel => exact ⟨6, 1, N + 1, ub, ud, by omega, by omega, Lib.hid (by have := HQ.out; omega), by go_num, rfl, Lib.hid (by have := HN.out; omega), HON.out, HBN.out⟩
     case measure => have := HQ.out; omega
    ·clear hk8 hki
     have c9 : wr.cell? ⟨R, 9, none⟩ = some (.int .i64 (n : Int)) := HHW.out.box.cell (i := 9) rfl
     have hz := HHW.out.box.lt
     have HBY := Lib.hid (show (8 * (n : Int) / 256 % 256) = ((UInt8.ofNat (8 * n / 2 ^ (56 - 8 * 6))).toNat : Int) by rw [UInt8.toNat_ofNat']; omega)
     go_wp2_with ((at_builtin; refine wpList_appw tyBytes (by rfl) _ _ (by rfl) w.heap.size (.slice ua N uc) N _ (by rfl) (HOW.out.alloc _) (HZZ.out _) (.slice (some ⟨wr.heap.size, 0, none⟩) 1 1) 1 [.int .u8 (8 * (n : Int) / 256 % 256)] (by rfl) (srcMany (heap_alloc_new wr _)) (by rfl) (by simp [Value.oneCell']) (by omega) ?_; intro v' w2 hown2 hgrow2 hlies2))
     obtain ⟨ub, ud, rfl, hud⟩ := hown2.form
     have HBN := Lib.hid (belowK_grown (HBW.out.alloc HBW.out.size _) hgrow2 (Nat.le_trans HBW.out.size (by simp)) (fun q hq => (HOW.out.lt q hq).1))
     have HON := Lib.hid (show OwnWin w2 w.heap.size 5 1 (.slice ub (N + 1) ud) (N + 1) (bvals (l ++ 128 :: List.replicate (zerosN n) 0 ++ (be8 (8 * n)).take (6 + 1))) by rw [be8_take _ _ (by omega), ← List.append_assoc, ← bvals_append]; have h9 := hown2; rw [HBY.out] at h9; exact h9)
     clear hown2 hgrow2 hlies2
     go_roundg (gk - 1)
     case rel => exact ⟨7, 0, N + 1, ub, ud, by omega, by omega, Lib.hid (by have := HQ.out; omega), by go_num, rfl, Lib.hid (by have := HN.out; omega), HON.out, HBN.out⟩
     case measure => have := HQ.out; omega
    ·clear hk8 hki
     have c9 : wr.cell? ⟨R, 9, none⟩ = some (.int .i64 (n : Int)) := HHW.out.box.cell (i := 9) rfl
     have hz := HHW.out.box.lt
     have HBY := Lib.hid (show (8 * (n : Int) % 256) = ((UInt8.ofNat (8 * n / 2 ^ (56 - 8 * 7))).toNat : Int) by rw [UInt8.toNat_ofNat']; omega)
     go_wp2_with ((at_builtin; refine wpList_appw tyBytes (by rfl) _ _ (by rfl) w.heap.size (.slice ua N uc) N _ (by rfl) (HOW.out.alloc _) (HZZ.out _) (.slice (some ⟨wr.heap.size, 0, none⟩) 1 1) 1 [.int .u8 (8 * (n : Int) % 256)] (by rfl) (srcMany (heap_alloc_new wr _)) (by rfl) (by simp [Value.oneCell']) (by omega) ?_; intro v' w2 hown2 hgrow2 hlies2))
     obtain ⟨ub, ud, rfl, hud⟩ := hown2.form
     have HBN := Lib.hid (belowK_grown (HBW.out.alloc HBW.out.size _) hgrow2 (Nat.le_trans HBW.out.size (by simp)) (fun q hq => (HOW.out.lt q hq).1))
     have HON := Lib.hid (show OwnWin w2 w.heap.size 5 1 (.slice ub (N + 1) ud) (N + 1) (bvals (l ++ 128 :: List.replicate (zerosN n) 0 ++ (be8 (8 * n)).take (7 + 1))) by rw [be8_take _ _ (by omega), ← List.append_assoc, ← bvals_append]; have h9 := hown2; rw [HBY.out] at h9; exact h9)
     clear hown2 hgrow2 hlies2
     go_roundg (gk - 1)
     case rel => exact ⟨8, -1, N + 1, ub, ud, by omega, by omega, Lib.hid (by have := HQ.out; omega), by go_num, rfl, Lib.hid (by have := HN.out; omega), HON.out, HBN.out⟩
     case measure => have := HQ.out; omega
    ·clear hk8 hw8 hki
     have HRN := Lib.hid (show OwnWin wr w.heap.size 5 1 (.slice ua N uc) N (bvals (l ++ tailM n)) by rw [← tail_parts]; exact HOW.out)
     have HLEN := Lib.hid (show N = (l ++ tailM n).length by have h9 := HRN.out.1; rw [bvals_len] at h9; omega)
     have c0 : wr.cell? ⟨R, 0, none⟩ = some (.int .u32 sa) := HHW.out.box.cell (i := 0) rfl
     have c1 : wr.cell? ⟨R, 1, none⟩ = some (.int .u32 sb) := HHW.out.box.cell (i := 1) rfl
     have c2 : wr.cell? ⟨R, 2, none⟩ = some (.int .u32 sc) := HHW.out.box.cell (i := 2) rfl
     have c3 : wr.cell? ⟨R, 3, none⟩ = some (.int .u32 sd) := HHW.out.box.cell (i := 3) rfl
     have c4 : wr.cell? ⟨R, 4, none⟩ = some (.int .u32 se) := HHW.out.box.cell (i := 4) rfl
     have c5 : wr.cell? ⟨R, 5, none⟩ = some (.int .u32 sf) := HHW.out.box.cell (i := 5) rfl
     have c6 : wr.cell? ⟨R, 6, none⟩ = some (.int .u32 sg) := HHW.out.box.cell (i := 6) rfl
     have c7 : wr.cell? ⟨R, 7, none⟩ = some (.int .u32 sh) := HHW.out.box.cell (i := 7) rfl
     have c9 : wr.cell? ⟨R, 9, none⟩ = some (.int .i64 (n : Int)) := HHW.out.box.cell (i := 9) rfl
     have hz := HHW.out.box.lt
     have hb9 := (Below.refl wr.heap.size wr).alloc (Nat.le_refl _) (.cells (stV ⟨sa, sb, sc, sd, se, sf, sg, sh⟩) 155)
     have HS0 := Lib.hid (show Bx (wr.alloc (.cells (stV ⟨sa, sb, sc, sd, se, sf, sg, sh⟩) 155)) wr.heap.size 155 (stV ⟨sa, sb, sc, sd, se, sf, sg, sh⟩) from Bx.new wr _ _)
     have HO0 := Lib.hid (HRN.out.older hb9)
     have HB0 := Lib.hid (HBW.out.trans (hb9.mono HBW.out.size))
     have HZS := Lib.hid HBW.out.size
     have hlen64 := (show ((l ++ tailM n).length) % 64 = 0 by have h9 := tailM_len n; have h8 := HLN.out; rw [List.length_append]; omega)
     have HL64 := Lib.hid hlen64
     clear hb9 hlen64
     go_wp2_with fail
     obtain ⟨SB, hSB⟩ : ∃ x, wr.heap.size = x := ⟨_, rfl⟩
     rw [hSB] at HS0 HZS
     rw [hSB]
     clear hSB c0 c1 c2 c3 c4 c5 c6 c7 c9 hz
     go_loopg [3] N (fun gq sv wr => ∃ (s' : St) (lst : Bs) (N : Nat) (a : Option Addr) (c : Nat), sv = .slice a N c ∧ Hid (N = lst.length) ∧ Hid (lst.length ≤ gq) ∧ Hid (lst.length % 64 = 0) ∧ N ≤ 400 ∧ Bx wr SB 155 (stV s') ∧ OwnWin wr w.heap.size 5 1 (.slice a N c) N (bvals lst) ∧ Hid (runL mixM s' lst = runL mixM ⟨sa, sb, sc, sd, se, sf, sg, sh⟩ (l ++ tailM n)) ∧ Below w.heap.size w wr)
     case atStart => exact ⟨⟨sa, sb, sc, sd, se, sf, sg, sh⟩, l ++ tailM n, N, ua, uc, rfl, HLEN.out ▸ Lib.hid rfl, Lib.hid (by have := HLEN.out; omega), HL64, by omega, HS0.out, HO0.out, Lib.hid rfl, HB0.out⟩
     case round =>
      obtain ⟨t, lst, N, ua, uc, rfl, HN, HQ, HMOD, hNb, hbx, hown, HRUN, hbel⟩ := hrel
      clear HS0 HO0 HB0 HRN HLEN HOW HBW HHW HL64
      have HBX := Lib.hid hbx
      have HOW := Lib.hid hown
      have HBW := Lib.hid hbel
      have HCW := Lib.hid (HC.out.below hbel)
      obtain ⟨ta, tb, tc, td, te, tf, tg, th⟩ := t
      have c0 : wr.cell? ⟨SB, 0, none⟩ = some (.int .u32 ta) := hbx.cell (i := 0) rfl
      have c1 : wr.cell? ⟨SB, 1, none⟩ = some (.int .u32 tb) := hbx.cell (i := 1) rfl
      have c2 : wr.cell? ⟨SB, 2, none⟩ = some (.int .u32 tc) := hbx.cell (i := 2) rfl
      have c3 : wr.cell? ⟨SB, 3, none⟩ = some (.int .u32 td) := hbx.cell (i := 3) rfl
      have c4 : wr.cell? ⟨SB, 4, none⟩ = some (.int .u32 te) := hbx.cell (i := 4) rfl
      have c5 : wr.cell? ⟨SB, 5, none⟩ = some (.int .u32 tf) := hbx.cell (i := 5) rfl
      have c6 : wr.cell? ⟨SB, 6, none⟩ = some (.int .u32 tg) := hbx.cell (i := 6) rfl
      have c7 : wr.cell? ⟨SB, 7, none⟩ = some (.int .u32 th) := hbx.cell (i := 7) rfl
      have hzb := hbx.lt
      clear hbx hown hbel
      by_cases hpos : 0 < N
      ·have hge : 64 ≤ lst.length := by have := HN.out; have := HMOD.out; omega
       have hN64 : 64 ≤ N := by have := HN.out; omega
       have hpi : (0 : Int) < (N : Int) := by omega
       have hNl : N = lst.length := HN.out
       subst hNl
       obtain ⟨g, o, c, e', hnc2, hcm, hBg, hglt, _⟩ := HOW.out.cells (by omega)
       cases e'
       have HBK := Lib.hid (own_blk HOW.out rfl hge)
       have hc64i : (64 : Int) ≤ (uc : Int) := by omega
       obtain ⟨t, ht⟩ : ∃ t, mixM ⟨ta, tb, tc, td, te, tf, tg, th⟩ (lst.take 64) = t := ⟨_, rfl⟩
       have HT := Lib.hid ht
       clear ht
       obtain ⟨na, nb, nc, nd, ne, nf, ng, nh⟩ := t
       have hmix : Hid (∀ wz : World, Below wr.heap.size wr wz → Calls Tryz.prog 94 #[.agg #[.int .u32 ta, .int .u32 tb, .int .u32 tc, .int .u32 td, .int .u32 te, .int .u32 tf, .int .u32 tg, .int .u32 th], .slice (some ⟨g, o, none⟩) 64 uc] wz fun e w' => e = .returned (.agg #[.int .u32 na, .int .u32 nb, .int .u32 nc, .int .u32 nd, .int .u32 ne, .int .u32 nf, .int .u32 ng, .int .u32 nh]) ∧ Below wz.heap.size wz w') := Lib.hid (fun wz hb => by
        have h9 := mix_any (lst.take 64) ⟨ta, tb, tc, td, te, tf, tg, th⟩ g o uc wz ⟨HBK.out.len, Nat.lt_of_lt_of_le HBK.out.lt hb.size, fun i hi => (hb.cell (p := ⟨g, o + i, none⟩) HBK.out.lt).trans (HBK.out.cell i hi)⟩ (HCW.out.below hb)
        rw [HT.out] at h9
        exact h9)
       by_cases hcap : uc = 64
       ·subst hcap
        have hl64' : lst.length = 64 := by omega
        go_wp2_with fail
        go_region_with ((go_at_call 94; refine (hmix.out _ (Below.refl _ _).drew).mono ?_; rintro e w4 ⟨rfl, hb4⟩; have hbw4 := ((Below.refl wr.heap.size wr).drew).trans hb4; have HX4 := Lib.hid (show Box8 w4 w.heap.size SB (stV ⟨ta, tb, tc, td, te, tf, tg, th⟩) (.slice (some ⟨g, o, none⟩) lst.length 64) lst.length lst from ⟨HBX.out.older hbw4, HOW.out.older hbw4⟩); have HB4 := Lib.hid (HBW.out.trans (hbw4.mono HBW.out.size)); have hz4 := HX4.out.1.lt; have d0 : World.cell? w4 ⟨SB, 0, none⟩ = some (.int .u32 ta) := HX4.out.1.cell (i := 0) rfl; have d1 : World.cell? w4 ⟨SB, 1, none⟩ = some (.int .u32 tb) := HX4.out.1.cell (i := 1) rfl; have d2 : World.cell? w4 ⟨SB, 2, none⟩ = some (.int .u32 tc) := HX4.out.1.cell (i := 2) rfl; have d3 : World.cell? w4 ⟨SB, 3, none⟩ = some (.int .u32 td) := HX4.out.1.cell (i := 3) rfl; have d4 : World.cell? w4 ⟨SB, 4, none⟩ = some (.int .u32 te) := HX4.out.1.cell (i := 4) rfl; have d5 : World.cell? w4 ⟨SB, 5, none⟩ = some (.int .u32 tf) := HX4.out.1.cell (i := 5) rfl; have d6 : World.cell? w4 ⟨SB, 6, none⟩ = some (.int .u32 tg) := HX4.out.1.cell (i := 6) rfl; have d7 : World.cell? w4 ⟨SB, 7, none⟩ = some (.int .u32 th) := HX4.out.1.cell (i := 7) rfl; have g0 := HX4.out.1.frz 0; have g1 := HX4.out.1.frz 1; have g2 := HX4.out.1.frz 2; have g3 := HX4.out.1.frz 3; have g4 := HX4.out.1.frz 4; have g5 := HX4.out.1.frz 5; have g6 := HX4.out.1.frz 6; have g7 := HX4.out.1.frz 7; clear hb4 hbw4))
        all_goals
          go_wp2_with fail
          have HX5 := Lib.hid (HX4.out.setS ⟨na, nb, nc, nd, ne, nf, ng, nh⟩)
          have HB5 := Lib.hid (below_setS (s' := ⟨na, nb, nc, nd, ne, nf, ng, nh⟩) HB4.out HZS.out)
          go_roundg (gk - 64)
          case rel => exact ⟨⟨na, nb, nc, nd, ne, nf, ng, nh⟩, lst.drop 64, 0, (some ⟨g, o, none⟩), 0, by first | rfl | go_num, Lib.hid (by rw [List.length_drop]; try omega), Lib.hid (by have := HQ.out; rw [List.length_drop]; omega), Lib.hid (by have := HMOD.out; rw [List.length_drop]; omega), by omega, HX5.out.1, by have h9 := (own_rest0 HX5.out.2 hl64'); rw [List.length_drop] at h9; rw [show lst.length - 64 = 0 by omega] at h9; exact h9, Lib.hid ((runL_step hge HT.out).trans HRUN.out), HB5.out⟩
          case measure => have := HQ.out; omega
       ·have hcapi : (64 : Int) < (uc : Int) := by omega
        have hcapn : 64 < uc := by omega
        go_wp2_with fail
        go_region_with ((go_at_call 94; refine (hmix.out _ (Below.refl _ _).drew).mono ?_; rintro e w4 ⟨rfl, hb4⟩; have hbw4 := ((Below.refl wr.heap.size wr).drew).trans hb4; have HX4 := Lib.hid (show Box8 w4 w.heap.size SB (stV ⟨ta, tb, tc, td, te, tf, tg, th⟩) (.slice (some ⟨g, o, none⟩) lst.length uc) lst.length lst from ⟨HBX.out.older hbw4, HOW.out.older hbw4⟩); have HB4 := Lib.hid (HBW.out.trans (hbw4.mono HBW.out.size)); have hz4 := HX4.out.1.lt; have d0 : World.cell? w4 ⟨SB, 0, none⟩ = some (.int .u32 ta) := HX4.out.1.cell (i := 0) rfl; have d1 : World.cell? w4 ⟨SB, 1, none⟩ = some (.int .u32 tb) := HX4.out.1.cell (i := 1) rfl; have d2 : World.cell? w4 ⟨SB, 2, none⟩ = some (.int .u32 tc) := HX4.out.1.cell (i := 2) rfl; have d3 : World.cell? w4 ⟨SB, 3, none⟩ = some (.int .u32 td) := HX4.out.1.cell (i := 3) rfl; have d4 : World.cell? w4 ⟨SB, 4, none⟩ = some (.int .u32 te) := HX4.out.1.cell (i := 4) rfl; have d5 : World.cell? w4 ⟨SB, 5, none⟩ = some (.int .u32 tf) := HX4.out.1.cell (i := 5) rfl; have d6 : World.cell? w4 ⟨SB, 6, none⟩ = some (.int .u32 tg) := HX4.out.1.cell (i := 6) rfl; have d7 : World.cell? w4 ⟨SB, 7, none⟩ = some (.int .u32 th) := HX4.out.1.cell (i := 7) rfl; have g0 := HX4.out.1.frz 0; have g1 := HX4.out.1.frz 1; have g2 := HX4.out.1.frz 2; have g3 := HX4.out.1.frz 3; have g4 := HX4.out.1.frz 4; have g5 := HX4.out.1.frz 5; have g6 := HX4.out.1.frz 6; have g7 := HX4.out.1.frz 7; clear hb4 hbw4))
        all_goals
          go_wp2_with fail
          have HX5 := Lib.hid (HX4.out.setS ⟨na, nb, nc, nd, ne, nf, ng, nh⟩)
          have HB5 := Lib.hid (below_setS (s' := ⟨na, nb, nc, nd, ne, nf, ng, nh⟩) HB4.out HZS.out)
          go_roundg (gk - 64)
          case rel => exact ⟨⟨na, nb, nc, nd, ne, nf, ng, nh⟩, lst.drop 64, (lst.length - 64), (some ⟨g, o + 64, none⟩), (uc - 64), by first | rfl | go_num, Lib.hid (by rw [List.length_drop]; try omega), Lib.hid (by have := HQ.out; rw [List.length_drop]; omega), Lib.hid (by have := HMOD.out; rw [List.length_drop]; omega), by omega, HX5.out.1, by have h9 := (own_rest HX5.out.2 hge hcapn); rw [List.length_drop] at h9; skip; exact h9, Lib.hid ((runL_step hge HT.out).trans HRUN.out), HB5.out⟩
          case measure => have := HQ.out; omega
      ·have hN0 : N = 0 := by omega
       have hl0 : lst = [] := List.eq_nil_of_length_eq_zero (by have := HN.out; omega)
       have hpi : ¬ (0 : Int) < (N : Int) := by omega
       subst hN0
       subst hl0
       have HFIN := Lib.hid (show outM ⟨ta, tb, tc, td, te, tf, tg, th⟩ = outM (runL mixM ⟨sa, sb, sc, sd, se, sf, sg, sh⟩ (l ++ tailM n)).1 by rw [← HRUN.out, runL_end (by simp)])
       have hmk := HMK.out
       have i0 : ∀ w, (Instr.index 155 (.agg #[.int .u32 ta, .int .u32 tb, .int .u32 tc, .int .u32 td, .int .u32 te, .int .u32 tf, .int .u32 tg, .int .u32 th]) (.int .i64 0)).run Tryz.prog w = .ok (.int .u32 ta) w := fun _ => by kernel_rfl
       have i1 : ∀ w, (Instr.index 155 (.agg #[.int .u32 ta, .int .u32 tb, .int .u32 tc, .int .u32 td, .int .u32 te, .int .u32 tf, .int .u32 tg, .int .u32 th]) (.int .i64 1)).run Tryz.prog w = .ok (.int .u32 tb) w := fun _ => by kernel_rfl
       have i2 : ∀ w, (Instr.index 155 (.agg #[.int .u32 ta, .int .u32 tb, .int .u32 tc, .int .u32 td, .int .u32 te, .int .u32 tf, .int .u32 tg, .int .u32 th]) (.int .i64 2)).run Tryz.prog w = .ok (.int .u32 tc) w := fun _ => by kernel_rfl
       have i3 : ∀ w, (Instr.index 155 (.agg #[.int .u32 ta, .int .u32 tb, .int .u32 tc, .int .u32 td, .int .u32 te, .int .u32 tf, .int .u32 tg, .int .u32 th]) (.int .i64 3)).run Tryz.prog w = .ok (.int .u32 td) w := fun _ => by kernel_rfl
       have i4 : ∀ w, (Instr.index 155 (.agg #[.int .u32 ta, .int .u32 tb, .int .u32 tc, .int .u32 td, .int .u32 te, .int .u32 tf, .int .u32 tg, .int .u32 th]) (.int .i64 4)).run Tryz.prog w = .ok (.int .u32 te) w := fun _ => by kernel_rfl
       have i5 : ∀ w, (Instr.index 155 (.agg #[.int .u32 ta, .int .u32 tb, .int .u32 tc, .int .u32 td, .int .u32 te, .int .u32 tf, .int .u32 tg, .int .u32 th]) (.int .i64 5)).run Tryz.prog w = .ok (.int .u32 tf) w := fun _ => by kernel_rfl
       have i6 : ∀ w, (Instr.index 155 (.agg #[.int .u32 ta, .int .u32 tb, .int .u32 tc, .int .u32 td, .int .u32 te, .int .u32 tf, .int .u32 tg, .int .u32 th]) (.int .i64 6)).run Tryz.prog w = .ok (.int .u32 tg) w := fun _ => by kernel_rfl
       have i7 : ∀ w, (Instr.index 155 (.agg #[.int .u32 ta, .int .u32 tb, .int .u32 tc, .int .u32 td, .int .u32 te, .int .u32 tf, .int .u32 tg, .int .u32 th]) (.int .i64 7)).run Tryz.prog w = .ok (.int .u32 th) w := fun _ => by kernel_rfl
       have HO0 := Lib.hid (show OwnWin (wr.alloc (.cells (bvals (List.replicate 32 0)).toArray 5)) w.heap.size 5 1 (.slice (some ⟨wr.heap.size, 0, none⟩) 0 32) 0 (bvals (outK ⟨ta, tb, tc, td, te, tf, tg, th⟩ 0)) from ⟨rfl, .inr ⟨wr.heap.size, 0, 32, _, rfl, HBW.out.size, heap_alloc_new wr _, Nat.zero_le _, by unfold maxLen; omega, by decide, by simp [outK, bvals]⟩⟩)
       have HB0 := Lib.hid (HBW.out.alloc HBW.out.size (.cells (bvals (List.replicate 32 0)).toArray 5))
       have hm0 := hmk wr
       clear hmk
       go_wp2_with fail
       go_loopg [56, 6, 8] 8 (fun gq iv s6 s8 wr => ∃ (k : Nat) (i : Int) (N : Nat) (a : Option Addr) (c : Nat), i = k ∧ k ≤ 8 ∧ Hid (8 ≤ gq + k) ∧ iv = .int .i64 i ∧ s6 = .slice a N c ∧ Hid (N = 4 * k) ∧ OwnWin wr w.heap.size 5 1 (.slice a N c) N (bvals (outK ⟨ta, tb, tc, td, te, tf, tg, th⟩ k)) ∧ Below w.heap.size w wr)
       case atStart => exact ⟨0, 0, 0, _, 32, rfl, Nat.zero_le _, Lib.hid (by omega), rfl, rfl, Lib.hid rfl, HO0.out, HB0.out⟩
       case round =>
        obtain ⟨k, i, N, ua, uc, hki, hk8, HQ, rfl, rfl, HN, hown, hbel⟩ := hrel
        clear HO0 HB0 HOW HBW HBX HCW
        have HOW := Lib.hid hown
        have HBW := Lib.hid hbel
        have HZZ : Hid (∀ C : Array Value, w.heap.size ≤ (wr.alloc (.cells C 5)).heap.size) := Lib.hid (fun C => by have := hbel.size; simp; omega)
        have hNb : N ≤ 40 := by have := HN.out; omega
        clear hown hbel
        rcases (show (k = 0 ∧ i = 0) ∨ (k = 1 ∧ i = 1) ∨ (k = 2 ∧ i = 2) ∨ (k = 3 ∧ i = 3) ∨ (k = 4 ∧ i = 4) ∨ (k = 5 ∧ i = 5) ∨ (k = 6 ∧ i = 6) ∨ (k = 7 ∧ i = 7) ∨ (k = 8 ∧ i = 8) by omega) with ⟨rfl, rfl⟩ | ⟨rfl, rfl⟩ | ⟨rfl, rfl⟩ | ⟨rfl, rfl⟩ | ⟨rfl, rfl⟩ | ⟨rfl, rfl⟩ | ⟨rfl, rfl⟩ | ⟨rfl, rfl⟩ | ⟨rfl, rfl⟩
        ·clear hk8 hki
         go_wp2_with ((at_builtin; refine wpList_appw tyBytes (by rfl) _ _ (by rfl) w.heap.size (.slice ua N uc) N _ (by rfl) (HOW.out.alloc _) (HZZ.out _) (.slice (some ⟨wr.heap.size, 0, none⟩) 4 4) 4 [.int .u8 (ta / 16777216 % 256), .int .u8 (ta / 65536 % 256), .int .u8 (ta / 256 % 256), .int .u8 (ta % 256)] (by rfl) (srcMany (heap_alloc_new wr _)) (by rfl) (by simp [Value.oneCell']) (by omega) ?_; intro v' w2 hown2 hgrow2 hlies2))
         obtain ⟨ub, ud, rfl, hud⟩ := hown2.form
         have HBN := Lib.hid (belowK_grown (HBW.out.alloc HBW.out.size _) hgrow2 (Nat.le_trans HBW.out.size (by simp)) (fun q hq => (HOW.out.lt q hq).1))
         have HON := Lib.hid (show OwnWin w2 w.heap.size 5 1 (.slice ub (N + 4) ud) (N + 4) (bvals (outK ⟨ta, tb, tc, td, te, tf, tg, th⟩ (0 + 1))) by rw [outK_next ⟨ta, tb, tc, td, te, tf, tg, th⟩ 0 (by omega), ← bvals_append, show (stL ⟨ta, tb, tc, td, te, tf, tg, th⟩).getD 0 0 = ta from rfl, word4_vals]; exact hown2)
         clear hown2 hgrow2 hlies2
         go_roundg (gk - 1)
         case rel => exact ⟨1, 1, N + 4, ub, ud, rfl, by omega, Lib.hid (by have := HQ.out; omega), by go_num, rfl, Lib.hid (by have := HN.out; omega), HON.out, HBN.out⟩
         case measure => have := HQ.out; omega
        ·clear hk8 hki
         go_wp2_with ((at_builtin; refine wpList_appw tyBytes (by rfl) _ _ (by rfl) w.heap.size (.slice ua N uc) N _ (by rfl) (HOW.out.alloc _) (HZZ.out _) (.slice (some ⟨wr.heap.size, 0, none⟩) 4 4) 4 [.int .u8 (tb / 16777216 % 256), .int .u8 (tb / 65536 % 256), .int .u8 (tb / 256 % 256), .int .u8 (tb % 256)] (by rfl) (srcMany (heap_alloc_new wr _)) (by rfl) (by simp [Value.oneCell']) (by omega) ?_; intro v' w2 hown2 hgrow2 hlies2))
         obtain ⟨ub, ud, rfl, hud⟩ := hown2.form
         have HBN := Lib.hid (belowK_grown (HBW.out.alloc HBW.out.size _) hgrow2 (Nat.le_trans HBW.out.size (by simp)) (fun q hq => (HOW.out.lt q hq).1))
         have HON := Lib.hid (show OwnWin w2 w.heap.size 5 1 (.slice ub (N + 4) ud) (N + 4) (bvals (outK ⟨ta, tb, tc, td, te, tf, tg, th⟩ (1 + 1))) by rw [outK_next ⟨ta, tb, tc, td, te, tf, tg, th⟩ 1 (by omega), ← bvals_append, show (stL ⟨ta, tb, tc, td, te, tf, tg, th⟩).getD 1 0 = tb from rfl, word4_vals]; exact hown2)
         clear hown2 hgrow2 hlies2
         go_roundg (gk - 1)
         case rel => exact ⟨2, 2, N + 4, ub, ud, rfl, by omega, Lib.hid (by have := HQ.out; omega), by go_num, rfl, Lib.hid (by have := HN.out; omega), HON.out, HBN.out⟩
         case measure => have := HQ.out; omega
        ·clear hk8 hki
         go_wp2_with ((at_builtin; refine wpList_appw tyBytes (by rfl) _ _ (by rfl) w.heap.size (.slice ua N uc) N _ (by rfl) (HOW.out.alloc _) (HZZ.out _) (.slice (some ⟨wr.heap.size, 0, none⟩) 4 4) 4 [.int .u8 (tc / 16777216 % 256), .int .u8 (tc / 65536 % 256), .int .u8 (tc / 256 % 256), .int .u8 (tc % 256)] (by rfl) (srcMany (heap_alloc_new wr _)) (by rfl) (by simp [Value.oneCell']) (by omega) ?_; intro v' w2 hown2 hgrow2 hlies2))
         obtain ⟨ub, ud, rfl, hud⟩ := hown2.form
         have HBN := Lib.hid (belowK_grown (HBW.out.alloc HBW.out.size _) hgrow2 (Nat.le_trans HBW.out.size (by simp)) (fun q hq => (HOW.out.lt q hq).1))
         have HON := Lib.hid (show OwnWin w2 w.heap.size 5 1 (.slice ub (N + 4) ud) (N + 4) (bvals (outK ⟨ta, tb, tc, td, te, tf, tg, th⟩ (2 + 1))) by rw [outK_next ⟨ta, tb, tc, td, te, tf, tg, th⟩ 2 (by omega), ← bvals_append, show (stL ⟨ta, tb, tc, td, te, tf, tg, th⟩).getD 2 0 = tc from rfl, word4_vals]; exact hown2)
         clear hown2 hgrow2 hlies2
         go_roundg (gk - 1)
         case rel => exact ⟨3, 3, N + 4, ub, ud, rfl, by omega, Lib.hid (by have := HQ.out; omega), by go_num, rfl, Lib.hid (by have := HN.out; omega), HON.out, HBN.out⟩
         case measure => have := HQ.out; omega
        ·clear hk8 hki
         go_wp2_with ((at_builtin; refine wpList_appw tyBytes (by rfl) _ _ (by rfl) w.heap.size (.slice ua N uc) N _ (by rfl) (HOW.out.alloc _) (HZZ.out _) (.slice (some ⟨wr.heap.size, 0, none⟩) 4 4) 4 [.int .u8 (td / 16777216 % 256), .int .u8 (td / 65536 % 256), .int .u8 (td / 256 % 256), .int .u8 (td % 256)] (by rfl) (srcMany (heap_alloc_new wr _)) (by rfl) (by simp [Value.oneCell']) (by omega) ?_; intro v' w2 hown2 hgrow2 hlies2))
         obtain ⟨ub, ud, rfl, hud⟩ := hown2.form
         have HBN := Lib.hid (belowK_grown (HBW.out.alloc HBW.out.size _) hgrow2 (Nat.le_trans HBW.out.size (by simp)) (fun q hq => (HOW.out.lt q hq).1))
         have HON := Lib.hid (show OwnWin w2 w.heap.size 5 1 (.slice ub (N + 4) ud) (N + 4) (bvals (outK ⟨ta, tb, tc, td, te, tf, tg, th⟩ (3 + 1))) by rw [outK_next ⟨ta, tb, tc, td, te, tf, tg, th⟩ 3 (by omega), ← bvals_append, show (stL ⟨ta, tb, tc, td, te, tf, tg, th⟩).getD 3 0 = td from rfl, word4_vals]; exact hown2)
         clear hown2 hgrow2 hlies2
         go_roundg (gk - 1)
         case rel => exact ⟨4, 4, N + 4, ub, ud, rfl, by omega, Lib.hid (by have := HQ.out; omega), by go_num, rfl, Lib.hid (by have := HN.out; omega), HON.out, HBN.out⟩
         case measure => have := HQ.out; omega
        ·clear hk8 hki
         go_wp2_with ((at_builtin; refine wpList_appw tyBytes (by rfl) _ _ (by rfl) w.heap.size (.slice ua N uc) N _ (by rfl) (HOW.out.alloc _) (HZZ.out _) (.slice (some ⟨wr.heap.size, 0, none⟩) 4 4) 4 [.int .u8 (te / 16777216 % 256), .int .u8 (te / 65536 % 256), .int .u8 (te / 256 % 256), .int .u8 (te % 256)] (by rfl) (srcMany (heap_alloc_new wr _)) (by rfl) (by simp [Value.oneCell']) (by omega) ?_; intro v' w2 hown2 hgrow2 hlies2))
         obtain ⟨ub, ud, rfl, hud⟩ := hown2.form
         have HBN := Lib.hid (belowK_grown (HBW.out.alloc HBW.out.size _) hgrow2 (Nat.le_trans HBW.out.size (by simp)) (fun q hq => (HOW.out.lt q hq).1))
         have HON := Lib.hid (show OwnWin w2 w.heap.size 5 1 (.slice ub (N + 4) ud) (N + 4) (bvals (outK ⟨ta, tb, tc, td, te, tf, tg, th⟩ (4 + 1))) by rw [outK_next ⟨ta, tb, tc, td, te, tf, tg, th⟩ 4 (by omega), ← bvals_append, show (stL ⟨ta, tb, tc, td, te, tf, tg, th⟩).getD 4 0 = te from rfl, word4_vals]; exact hown2)
         clear hown2 hgrow2 hlies2
         go_roundg (gk - 1)
         case rel => exact ⟨5, 5, N + 4, ub, ud, rfl, by omega, Lib.hid (by have := HQ.out; omega), by go_num, rfl, Lib.hid (by have := HN.out; omega), HON.out, HBN.out⟩
         case measure => have := HQ.out; omega
        ·clear hk8 hki
         go_wp2_with ((at_builtin; refine wpList_appw tyBytes (by rfl) _ _ (by rfl) w.heap.size (.slice ua N uc) N _ (by rfl) (HOW.out.alloc _) (HZZ.out _) (.slice (some ⟨wr.heap.size, 0, none⟩) 4 4) 4 [.int .u8 (tf / 16777216 % 256), .int .u8 (tf / 65536 % 256), .int .u8 (tf / 256 % 256), .int .u8 (tf % 256)] (by rfl) (srcMany (heap_alloc_new wr _)) (by rfl) (by simp [Value.oneCell']) (by omega) ?_; intro v' w2 hown2 hgrow2 hlies2))
         obtain ⟨ub, ud, rfl, hud⟩ := hown2.form
         have HBN := Lib.hid (belowK_grown (HBW.out.alloc HBW.out.size _) hgrow2 (Nat.le_trans HBW.out.size (by simp)) (fun q hq => (HOW.out.lt q hq).1))
         have HON := Lib.hid (show OwnWin w2 w.heap.size 5 1 (.slice ub (N + 4) ud) (N + 4) (bvals (outK ⟨ta, tb, tc, td, te, tf, tg, th⟩ (5 + 1))) by rw [outK_next ⟨ta, tb, tc, td, te, tf, tg, th⟩ 5 (by omega), ← bvals_append, show (stL ⟨ta, tb, tc, td, te, tf, tg, th⟩).getD 5 0 = tf from rfl, word4_vals]; exact hown2)
         clear hown2 hgrow2 hlies2
         go_roundg (gk - 1)
         case rel => exact ⟨6, 6, N + 4, ub, ud, rfl, by omega, Lib.hid (by have := HQ.out; omega), by go_num, rfl, Lib.hid (by have := HN.out; omega), HON.out, HBN.out⟩
         case measure => have := HQ.out; omega
        ·clear hk8 hki
         go_wp2_with ((at_builtin; refine wpList_appw tyBytes (by rfl) _ _ (by rfl) w.heap.size (.slice ua N uc) N _ (by rfl) (HOW.out.alloc _) (HZZ.out _) (.slice (some ⟨wr.heap.size, 0, none⟩) 4 4) 4 [.int .u8 (tg / 16777216 % 256), .int .u8 (tg / 65536 % 256), .int .u8 (tg / 256 % 256), .int .u8 (tg % 256)] (by rfl) (srcMany (heap_alloc_new wr _)) (by rfl) (by simp [Value.oneCell']) (by omega) ?_; intro v' w2 hown2 hgrow2 hlies2))
         obtain ⟨ub, ud, rfl, hud⟩ := hown2.form
         have HBN := Lib.hid (belowK_grown (HBW.out.alloc HBW.out.size _) hgrow2 (Nat.le_trans HBW.out.size (by simp)) (fun q hq => (HOW.out.lt q hq).1))
         have HON := Lib.hid (show OwnWin w2 w.heap.size 5 1 (.slice ub (N + 4) ud) (N + 4) (bvals (outK ⟨ta, tb, tc, td, te, tf, tg, th⟩ (6 + 1))) by rw [outK_next ⟨ta, tb, tc, td, te, tf, tg, th⟩ 6 (by omega), ← bvals_append, show (stL ⟨ta, tb, tc, td, te, tf, tg, th⟩).getD 6 0 = tg from rfl, word4_vals]; exact hown2)
         clear hown2 hgrow2 hlies2
         go_roundg (gk - 1)
         case rel => exact ⟨7, 7, N + 4, ub, ud, rfl, by omega, Lib.hid (by have := HQ.out; omega), by go_num, rfl, Lib.hid (by have := HN.out; omega), HON.out, HBN.out⟩
         case measure => have := HQ.out; omega
        ·clear hk8 hki
         go_wp2_with ((at_builtin; refine wpList_appw tyBytes (by rfl) _ _ (by rfl) w.heap.size (.slice ua N uc) N _ (by rfl) (HOW.out.alloc _) (HZZ.out _) (.slice (some ⟨wr.heap.size, 0, none⟩) 4 4) 4 [.int .u8 (th / 16777216 % 256), .int .u8 (th / 65536 % 256), .int .u8 (th / 256 % 256), .int .u8 (th % 256)] (by rfl) (srcMany (heap_alloc_new wr _)) (by rfl) (by simp [Value.oneCell']) (by omega) ?_; intro v' w2 hown2 hgrow2 hlies2))
         obtain ⟨ub, ud, rfl, hud⟩ := hown2.form
         have HBN := Lib.hid (belowK_grown (HBW.out.alloc HBW.out.size _) hgrow2 (Nat.le_trans HBW.out.size (by simp)) (fun q hq => (HOW.out.lt q hq).1))
         have HON := Lib.hid (show OwnWin w2 w.heap.size 5 1 (.slice ub (N + 4) ud) (N + 4) (bvals (outK ⟨ta, tb, tc, td, te, tf, tg, th⟩ (7 + 1))) by rw [outK_next ⟨ta, tb, tc, td, te, tf, tg, th⟩ 7 (by omega), ← bvals_append, show (stL ⟨ta, tb, tc, td, te, tf, tg, th⟩).getD 7 0 = th from rfl, word4_vals]; exact hown2)
         clear hown2 hgrow2 hlies2
         go_roundg (gk - 1)
         case rel => exact ⟨8, 8, N + 4, ub, ud, rfl, by omega, Lib.hid (by have := HQ.out; omega), by go_num, rfl, Lib.hid (by have := HN.out; omega), HON.out, HBN.out⟩
         case measure => have := HQ.out; omega
        ·clear hk8 hki
         obtain rfl : N = 32 := by have := HN.out; omega
         go_wp2_with fail
         go_ret
         exact ⟨ua, uc, rfl, by rw [← HFIN.out, ← outK_all]; exact HOW.out, HBW.out⟩
  ·have ht : ((N : Int) % 64 != 56) = true := by
    have h9 : ¬ (l.length + 1 + j) % 64 = 56 := fun e => hlt ((zeros_test HLN.out hj).1 e)
    have h8 := HN.out
    simp only [bne_iff_ne, ne_eq]
    omega
   have HZZ := Lib.hid (show w.heap.size ≤ (wr.alloc (.cells #[.int .u8 0] 5)).heap.size by have := HBW.out.size; simp; omega)
   go_wp2_with ((at_builtin; refine wpList_appw tyBytes (by rfl) _ _ (by rfl) w.heap.size (.slice ua N uc) N _ (by rfl) (HOW.out.alloc _) HZZ.out (.slice (some ⟨wr.heap.size, 0, none⟩) 1 1) 1 [.int .u8 0] (by rfl) (srcMany (heap_alloc_new wr _)) (by rfl) (by simp [Value.oneCell']) (by omega) ?_; intro v' w2 hown2 hgrow2 hlies2))
   obtain ⟨ub, ud, rfl, hud⟩ := hown2.form
   have HBN := Lib.hid (belowK_grown (HBW.out.alloc HBW.out.size _) hgrow2 (Nat.le_trans HBW.out.size (by simp)) (fun q hq => (HOW.out.lt q hq).1))
   have HON := Lib.hid (show OwnWin w2 w.heap.size 5 1 (.slice ub (N + 1) ud) (N + 1) (bvals (l ++ 128 :: List.replicate (j + 1) 0)) by rw [List.replicate_succ', show l ++ 128 :: (List.replicate j 0 ++ [0]) = (l ++ 128 :: List.replicate j 0) ++ [0] by simp, ← bvals_append]; exact hown2)
   clear hown2 hgrow2 hlies2
   go_roundg (gk - 1)
   case rel => exact ⟨j + 1, N + 1, ub, ud, by omega, Lib.hid (by have := HQ.out; omega), rfl, Lib.hid (by have := HN.out; omega), HON.out, HBN.out⟩
   case measure => have := HQ.out; omega
end Dg
end Go.Proofs.YtpkhbhdidkkebaaGreatDoor
end

