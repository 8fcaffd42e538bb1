/- Contracts and plain facts that the statement's proof leans on (texts joined). No condition beyond those that each names. -/
import Derived.Laws.MakeOwn
import Derived.Laws.CopyOwn
import Derived.Test.YtpmhkkjecapbeaaGreatDoorPkA
import Derived.Test.YtpmhkkjecapbeaaGreatDoorPkG
import Derived.Test.YtpmhkkjecapbeaaGreatDoorPkI
section
namespace Go.Proofs.YtpmhkkjecapbeaaGreatDoor
open Go.RowKit Pl Ad
set_option maxRecDepth 100000
set_option maxHeartbeats 4000000
set_option linter.unusedVariables false
set_option linter.unusedSimpArgs false
namespace Dg
open Kr
theorem bytesCloneV (v : Value) (l : Bs) (w : World) (h : SrcAt w v l.length (bvals l)) (hl : l.length ≤ 1000000) :
    Calls Tryz.prog 111 #[v] w fun e w' => ∃ u, e = .returned u ∧ OwnWin w' w.heap.size 5 1 u l.length (bvals l) ∧ Below w.heap.size w w' := by
  have HO := Lib.hid h
  rcases h with ⟨rfl, h0, _⟩ | ⟨ad, cap, rfl, hb⟩
  · obtain rfl : l = [] := List.eq_nil_of_length_eq_zero h0
    have HN := Lib.hid (OwnWin.nil w w.heap.size 5 1)
    have e0 : ∀ wx : World, (binOp .eql 45 (.slice none 0 0) (.slice none 0 0)).run Tryz.prog wx = .ok (.bool true) wx := fun wx => by kernel_rfl
    clear h0
    go_enter Tryz.func111, Tryz.ntmps111
    go_wp2
    go_ret
    exact ⟨_, rfl, HN.out, Below.refl _ _⟩
  · have e0 : ∀ wx : World, (binOp .eql 45 (.slice (some ad) l.length cap) (.slice none 0 0)).run Tryz.prog wx = .ok (.bool false) wx := fun wx => Go.Lib.run_eql_slice_nil wx _ _ _ _ _ _ _ Tryz.underlying45
    clear hb
    go_enter Tryz.func111, Tryz.ntmps111
    go_wp2_with ((at_builtin; refine wpList_appw tyBytes rfl _ _ rfl w.heap.size (.slice (some ⟨w.heap.size, 0, none⟩) 0 0) 0 [] rfl (ownK_empty (heap_alloc_new w _) (Nat.le_refl _)) (by simp) (.slice (some ad) l.length cap) l.length (bvals l) rfl (HO.out.older ((Below.refl _ _).alloc (Nat.le_refl _) _)) (by rw [bvals_len]; omega) (bvals_one _) (by omega) ?_; intro v' w2 hown2 hgrow2 hlies2; rw [Nat.zero_add, List.nil_append] at hown2))
    go_ret
    exact ⟨_, rfl, hown2, belowK_grown ((Below.refl w.heap.size w).alloc (Nat.le_refl _) _) hgrow2 (by simp) (fun q hq => by simp [Value.ownBlock] at hq; omega)⟩
theorem bytesClone_any (a : Option Addr) (c : Nat) (l : Bs) (w : World) (h : SrcAt w (.slice a l.length c) l.length (bvals l)) (hl : l.length ≤ 1000000) :
    Calls Tryz.prog 111 #[.slice a l.length c] w fun e w' => ∃ ua uc, e = .returned (.slice ua l.length uc) ∧ OwnWin w' w.heap.size 5 1 (.slice ua l.length uc) l.length (bvals l) ∧ Below w.heap.size w w' :=
  (bytesCloneV _ l w h hl).mono fun e w' hx => by
    obtain ⟨u, rfl, hu, hb⟩ := hx
    obtain ⟨ua, uc, rfl, _⟩ := hu.form
    exact ⟨ua, uc, rfl, hu, hb⟩
theorem word4_vals (x : Int) : bvals (word4 x) = [.int .u8 (x / 16777216 % 256), .int .u8 (x / 65536 % 256), .int .u8 (x / 256 % 256), .int .u8 (x % 256)] := by
  have h : ∀ z : Int, ((UInt8.ofNat (z % 256).toNat).toNat : Int) = z % 256 := fun z => by
    rw [UInt8.toNat_ofNat']
    omega
  simp only [bvals, word4, List.map_cons, List.map_nil, h]
theorem be8_take (n : Nat) : ∀ k, k < 8 → (be8 n).take (k + 1) = (be8 n).take k ++ [UInt8.ofNat (n / 2 ^ (56 - 8 * k))] := by
  intro k hk
  match k, hk with
  | 0, _ => rfl
  | 1, _ => rfl
  | 2, _ => rfl
  | 3, _ => rfl
  | 4, _ => rfl
  | 5, _ => rfl
  | 6, _ => rfl
  | 7, _ => rfl
theorem srcMany {w : World} {g n c : Nat} {C : Array Value} {e : TypeId} {fr : Nat × Nat} (h : w.heap[g]? = some (.cells C e fr)) : SrcAt w (.slice (some ⟨g, 0, none⟩) n c) n C.toList := by
  refine .inr ⟨_, _, rfl, fun j u hu => ?_⟩
  rw [Addr.add_lit, Nat.zero_add, cell_of_row w g j C e fr h]
  simpa using hu
/-- The first k words' bytes. -/
def outK (s : St) (k : Nat) : Bs := ((stL s).take k).flatMap word4
theorem outK_all (s : St) : outK s 8 = outM s := rfl
theorem outK_next (s : St) : ∀ k, k < 8 → outK s (k + 1) = outK s k ++ word4 ((stL s).getD k 0) := by
  intro k hk
  match k, hk with
  | 0, _ => rfl
  | 1, _ => rfl
  | 2, _ => rfl
  | 3, _ => rfl
  | 4, _ => rfl
  | 5, _ => rfl
  | 6, _ => rfl
  | 7, _ => rfl
/-- A box of eight words and a slice. -/
def Box8 (w : World) (B R : Nat) (cs : Array Value) (v : Value) (n : Nat) (l : Bs) : Prop := Bx w R 172 cs ∧ OwnWin w B 5 1 v n (bvals l)
theorem Box8.set {w : World} {B R n : Nat} {cs : Array Value} {v : Value} {l : Bs} (h : Box8 w B R cs v n l) (i : Nat) (u : Value) : Box8 (w.setCell ⟨R, i, none⟩ u) B R (cs.setIfInBounds i u) v n l :=
  ⟨h.1.set i u, own_setB h.2 h.1 (by decide)⟩
theorem setV_cells (s s' : St) : ((((((((stV s).setIfInBounds 0 (.int .u32 s'.a)).setIfInBounds 1 (.int .u32 s'.b)).setIfInBounds 2 (.int .u32 s'.c)).setIfInBounds 3 (.int .u32 s'.d)).setIfInBounds 4 (.int .u32 s'.e)).setIfInBounds 5 (.int .u32 s'.f)).setIfInBounds 6 (.int .u32 s'.g)).setIfInBounds 7 (.int .u32 s'.h) = stV s' := by
  simp [stV]
theorem Box8.setS {w : World} {B R n : Nat} {s : St} {v : Value} {l : Bs} (h : Box8 w B R (stV s) v n l) (s' : St) : Box8 ((((((((w.setCell ⟨R, 0, none⟩ (.int .u32 s'.a)).setCell ⟨R, 1, none⟩ (.int .u32 s'.b)).setCell ⟨R, 2, none⟩ (.int .u32 s'.c)).setCell ⟨R, 3, none⟩ (.int .u32 s'.d)).setCell ⟨R, 4, none⟩ (.int .u32 s'.e)).setCell ⟨R, 5, none⟩ (.int .u32 s'.f)).setCell ⟨R, 6, none⟩ (.int .u32 s'.g)).setCell ⟨R, 7, none⟩ (.int .u32 s'.h)) B R (stV s') v n l := by
  have h8 := (((((((h.set 0 (.int .u32 s'.a)).set 1 (.int .u32 s'.b)).set 2 (.int .u32 s'.c)).set 3 (.int .u32 s'.d)).set 4 (.int .u32 s'.e)).set 5 (.int .u32 s'.f)).set 6 (.int .u32 s'.g)).set 7 (.int .u32 s'.h)
  rw [setV_cells] at h8
  exact h8
theorem tail_parts (l : Bs) (n : Nat) : l ++ 128 :: List.replicate (zerosN n) 0 ++ (be8 (8 * n)).take 8 = l ++ tailM n := by
  rw [show (be8 (8 * n)).take 8 = be8 (8 * n) from rfl]
  simp [tailM]
theorem zeros_test {l n j : Nat} (hl : l = n % 64) (hj : j ≤ zerosN n) : (l + 1 + j) % 64 = 56 ↔ j = zerosN n := by
  unfold zerosN at hj ⊢
  omega
theorem zeros_lt (n : Nat) : zerosN n < 64 := by unfold zerosN; omega
theorem hsum_any (B R : Nat) (s : St) (v : Value) (l : Bs) (n : Nat) (w : World) (h : HashAt w B R s v l n) (hc : ConstAt w) (hl : l.length = n % 64) (hn : n ≤ 1073741824) :
    Calls Tryz.prog 76 #[ptrK R] w fun e w' => ∃ a c, e = .returned (.slice a 32 c) ∧ OwnWin w' w.heap.size 5 1 (.slice a 32 c) 32 (bvals (outM (runL mixM s (l ++ tailM n)).1)) ∧ Below w.heap.size w w' := by
  obtain ⟨sa, sb, sc, sd, se, sf, sg, sh⟩ := s
  obtain ⟨va, vc, rfl, hvc⟩ := h.own.form
  have HH := Lib.hid h
  have HC := Lib.hid hc
  have HLN := Lib.hid hl
  have hl64 : l.length < 64 := by rw [hl]; omega
  have hz64 := zeros_lt n
  have c0 : World.cell? w ⟨R, 0, none⟩ = some (.int .u32 sa) := (h).box.cell (i := 0) rfl
  have c1 : World.cell? w ⟨R, 1, none⟩ = some (.int .u32 sb) := (h).box.cell (i := 1) rfl
  have c2 : World.cell? w ⟨R, 2, none⟩ = some (.int .u32 sc) := (h).box.cell (i := 2) rfl
  have c3 : World.cell? w ⟨R, 3, none⟩ = some (.int .u32 sd) := (h).box.cell (i := 3) rfl
  have c4 : World.cell? w ⟨R, 4, none⟩ = some (.int .u32 se) := (h).box.cell (i := 4) rfl
  have c5 : World.cell? w ⟨R, 5, none⟩ = some (.int .u32 sf) := (h).box.cell (i := 5) rfl
  have c6 : World.cell? w ⟨R, 6, none⟩ = some (.int .u32 sg) := (h).box.cell (i := 6) rfl
  have c7 : World.cell? w ⟨R, 7, none⟩ = some (.int .u32 sh) := (h).box.cell (i := 7) rfl
  have c9 : World.cell? w ⟨R, 9, none⟩ = some (.int .i64 (n : Int)) := (h).box.cell (i := 9) rfl
  have c8 : World.cell? w ⟨R, 8, none⟩ = some (.slice va l.length vc) := h.box.cell (i := 8) rfl
  have hz := h.box.lt
  have hmk : ∀ w, (Instr.makeSlice 45 (.int .i64 0) (.int .i64 32)).run Tryz.prog w = .ok (.slice (some ⟨w.heap.size, 0, none⟩) 0 32) (w.alloc (.cells (bvals (List.replicate 32 0)).toArray 5)) := fun _ => by kernel_rfl
  have HMK := Lib.hid hmk
  clear h hc hl hmk
  go_enter Tryz.func76, Tryz.ntmps76
  go_wp2_with (first | (go_at_call 111; refine (bytesClone_any va vc l _ (SrcAt.of HH.out.own) (by omega)).mono ?_; rintro e w1 ⟨ua, uc, rfl, hu, hb1⟩; have HOW := Lib.hid hu; have HBW := Lib.hid hb1; have HZZ := Lib.hid (show w.heap.size ≤ (w1.alloc (.cells #[.int .u8 128] 5)).heap.size by have := hb1.size; simp; omega); clear hu hb1) | (at_builtin; refine wpList_appw tyBytes (by rfl) _ _ (by rfl) w.heap.size (.slice ua l.length uc) l.length _ (by rfl) (HOW.out.alloc _) HZZ.out (.slice (some ⟨w1.heap.size, 0, none⟩) 1 1) 1 [.int .u8 128] (by rfl) (srcMany (heap_alloc_new w1 _)) (by rfl) (by simp [Value.oneCell']) (by omega) ?_; intro v' w2 hown2 hgrow2 hlies2))
  obtain ⟨ub, ud, rfl, hud⟩ := hown2.form
  have HBN := Lib.hid (belowK_grown (HBW.out.alloc HBW.out.size _) hgrow2 (Nat.le_trans HBW.out.size (by simp)) (fun q hq => (HOW.out.lt q hq).1))
  have HON := Lib.hid (show OwnWin w2 w.heap.size 5 1 (.slice ub (l.length + 1) ud) (l.length + 1) (bvals (l ++ 128 :: List.replicate 0 0)) by rw [show l ++ 128 :: List.replicate 0 0 = l ++ [128] from rfl, ← bvals_append]; exact hown2)
  clear hown2 hgrow2 hlies2 c0 c1 c2 c3 c4 c5 c6 c7 c8 c9 hz HZZ
  go_wp2_with fail
  go_loopg [3] (zerosN n) (fun gq sv wr => ∃ (j N : Nat) (a : Option Addr) (c : Nat), j ≤ zerosN n ∧ Hid (zerosN n ≤ gq + j) ∧ sv = .slice a N c ∧ Hid (N = l.length + 1 + j) ∧ OwnWin wr w.heap.size 5 1 (.slice a N c) N (bvals (l ++ 128 :: List.replicate j 0)) ∧ Below w.heap.size w wr)
  case atStart => exact ⟨0, l.length + 1, ub, ud, Nat.zero_le _, Lib.hid (by omega), rfl, Lib.hid rfl, HON.out, HBN.out⟩
  case round =>
    obtain ⟨j, N, ua, uc, hj, HQ, rfl, HN, hown, hbel⟩ := hrel
    clear HON HBN HOW HBW
    have HOW := Lib.hid hown
    have HBW := Lib.hid hbel
    have hN0 : (0 : Int) ≤ (N : Int) := by omega
    have hNb : N ≤ 200 := by have := HN.out; omega
    clear hown hbel
    by_cases hlt : j = zerosN n
    · have ht : ((N : Int) % 64 != 56) = false := by
        have h9 := (zeros_test HLN.out hj).2 hlt
        have h8 := HN.out
        simp only [bne_eq_false_iff_eq]
        omega
      subst hlt
      have HHW := Lib.hid (HH.out.older HBW.out)
      go_wp2_with fail
      have HON := Lib.hid (show OwnWin wr w.heap.size 5 1 (.slice ua N uc) N (bvals (l ++ 128 :: List.replicate (zerosN n) 0 ++ (be8 (8 * n)).take 0)) by rw [List.take_zero, List.append_nil]; exact HOW.out)
      have HM := Lib.hid (show N = l.length + 1 + zerosN n from HN.out)
      go_loopg [4, 3] 8 (fun gq iv sv wr => ∃ (k : Nat) (i : Int) (N : Nat) (a : Option Addr) (c : Nat), i = 7 - k ∧ k ≤ 8 ∧ Hid (8 ≤ gq + k) ∧ iv = .int .i64 i ∧ sv = .slice a N c ∧ Hid (N = l.length + 1 + zerosN n + k) ∧ OwnWin wr w.heap.size 5 1 (.slice a N c) N (bvals (l ++ 128 :: List.replicate (zerosN n) 0 ++ (be8 (8 * n)).take k)) ∧ Below w.heap.size w wr)
      case atStart => exact ⟨0, 7, N, ua, uc, by omega, Nat.zero_le _, Lib.hid (by omega), rfl, rfl, Lib.hid (by have := HM.out; omega), HON.out, HBW.out⟩
      case round =>
        obtain ⟨k, i, N, ua, uc, hki, hk8, HQ, rfl, rfl, HN, hown, hbel⟩ := hrel
        clear HON HOW HBW HHW HM
        have HOW := Lib.hid hown
        have HBW := Lib.hid hbel
        have HHW := Lib.hid (HH.out.older hbel)
        have HZZ : Hid (∀ C : Array Value, w.heap.size ≤ (wr.alloc (.cells C 5)).heap.size) := Lib.hid (fun C => by have := hbel.size; simp; omega)
        have hNb : N ≤ 300 := by have := HN.out; omega
        have hw8 : IntKind.i64.wrap (8 * (n : Int)) = 8 * (n : Int) := by rw [IntKind.wrap_i64]; omega
        clear hown hbel
        rcases (show (k = 0 ∧ i = 7) ∨ (k = 1 ∧ i = 6) ∨ (k = 2 ∧ i = 5) ∨ (k = 3 ∧ i = 4) ∨ (k = 4 ∧ i = 3) ∨ (k = 5 ∧ i = 2) ∨ (k = 6 ∧ i = 1) ∨ (k = 7 ∧ i = 0) ∨ (k = 8 ∧ i = -1) by omega) with ⟨rfl, rfl⟩ | ⟨rfl, rfl⟩ | ⟨rfl, rfl⟩ | ⟨rfl, rfl⟩ | ⟨rfl, rfl⟩ | ⟨rfl, rfl⟩ | ⟨rfl, rfl⟩ | ⟨rfl, rfl⟩ | ⟨rfl, rfl⟩
        · clear hk8 hki
          have c9 : wr.cell? ⟨R, 9, none⟩ = some (.int .i64 (n : Int)) := HHW.out.box.cell (i := 9) rfl
          have hz := HHW.out.box.lt
          have HBY := Lib.hid (show (8 * (n : Int) / 72057594037927936) = ((UInt8.ofNat (8 * n / 2 ^ (56 - 8 * 0))).toNat : Int) by rw [UInt8.toNat_ofNat']; omega)
          go_wp2_with ((at_builtin; refine wpList_appw tyBytes (by rfl) _ _ (by rfl) w.heap.size (.slice ua N uc) N _ (by rfl) (HOW.out.alloc _) (HZZ.out _) (.slice (some ⟨wr.heap.size, 0, none⟩) 1 1) 1 [.int .u8 (8 * (n : Int) / 72057594037927936)] (by rfl) (srcMany (heap_alloc_new wr _)) (by rfl) (by simp [Value.oneCell']) (by omega) ?_; intro v' w2 hown2 hgrow2 hlies2))
          obtain ⟨ub, ud, rfl, hud⟩ := hown2.form
          have HBN := Lib.hid (belowK_grown (HBW.out.alloc HBW.out.size _) hgrow2 (Nat.le_trans HBW.out.size (by simp)) (fun q hq => (HOW.out.lt q hq).1))
          have HON := Lib.hid (show OwnWin w2 w.heap.size 5 1 (.slice ub (N + 1) ud) (N + 1) (bvals (l ++ 128 :: List.replicate (zerosN n) 0 ++ (be8 (8 * n)).take (0 + 1))) by rw [be8_take _ _ (by omega), ← List.append_assoc, ← bvals_append]; have h9 := hown2; rw [HBY.out] at h9; exact h9)
          clear hown2 hgrow2 hlies2
          go_roundg (gk - 1)
          case rel => exact ⟨1, 6, N + 1, ub, ud, by omega, by omega, Lib.hid (by have := HQ.out; omega), by go_num, rfl, Lib.hid (by have := HN.out; omega), HON.out, HBN.out⟩
          case measure => have := HQ.out; omega
        · clear hk8 hki
          have c9 : wr.cell? ⟨R, 9, none⟩ = some (.int .i64 (n : Int)) := HHW.out.box.cell (i := 9) rfl
          have hz := HHW.out.box.lt
          have HBY := Lib.hid (show (8 * (n : Int) / 281474976710656) = ((UInt8.ofNat (8 * n / 2 ^ (56 - 8 * 1))).toNat : Int) by rw [UInt8.toNat_ofNat']; omega)
          go_wp2_with ((at_builtin; refine wpList_appw tyBytes (by rfl) _ _ (by rfl) w.heap.size (.slice ua N uc) N _ (by rfl) (HOW.out.alloc _) (HZZ.out _) (.slice (some ⟨wr.heap.size, 0, none⟩) 1 1) 1 [.int .u8 (8 * (n : Int) / 281474976710656)] (by rfl) (srcMany (heap_alloc_new wr _)) (by rfl) (by simp [Value.oneCell']) (by omega) ?_; intro v' w2 hown2 hgrow2 hlies2))
          obtain ⟨ub, ud, rfl, hud⟩ := hown2.form
          have HBN := Lib.hid (belowK_grown (HBW.out.alloc HBW.out.size _) hgrow2 (Nat.le_trans HBW.out.size (by simp)) (fun q hq => (HOW.out.lt q hq).1))
          have HON := Lib.hid (show OwnWin w2 w.heap.size 5 1 (.slice ub (N + 1) ud) (N + 1) (bvals (l ++ 128 :: List.replicate (zerosN n) 0 ++ (be8 (8 * n)).take (1 + 1))) by rw [be8_take _ _ (by omega), ← List.append_assoc, ← bvals_append]; have h9 := hown2; rw [HBY.out] at h9; exact h9)
          clear hown2 hgrow2 hlies2
          go_roundg (gk - 1)
          case rel => exact ⟨2, 5, N + 1, ub, ud, by omega, by omega, Lib.hid (by have := HQ.out; omega), by go_num, rfl, Lib.hid (by have := HN.out; omega), HON.out, HBN.out⟩
          case measure => have := HQ.out; omega
        · clear hk8 hki
          have c9 : wr.cell? ⟨R, 9, none⟩ = some (.int .i64 (n : Int)) := HHW.out.box.cell (i := 9) rfl
          have hz := HHW.out.box.lt
          have HBY := Lib.hid (show (8 * (n : Int) / 1099511627776) = ((UInt8.ofNat (8 * n / 2 ^ (56 - 8 * 2))).toNat : Int) by rw [UInt8.toNat_ofNat']; omega)
          go_wp2_with ((at_builtin; refine wpList_appw tyBytes (by rfl) _ _ (by rfl) w.heap.size (.slice ua N uc) N _ (by rfl) (HOW.out.alloc _) (HZZ.out _) (.slice (some ⟨wr.heap.size, 0, none⟩) 1 1) 1 [.int .u8 (8 * (n : Int) / 1099511627776)] (by rfl) (srcMany (heap_alloc_new wr _)) (by rfl) (by simp [Value.oneCell']) (by omega) ?_; intro v' w2 hown2 hgrow2 hlies2))
          obtain ⟨ub, ud, rfl, hud⟩ := hown2.form
          have HBN := Lib.hid (belowK_grown (HBW.out.alloc HBW.out.size _) hgrow2 (Nat.le_trans HBW.out.size (by simp)) (fun q hq => (HOW.out.lt q hq).1))
          have HON := Lib.hid (show OwnWin w2 w.heap.size 5 1 (.slice ub (N + 1) ud) (N + 1) (bvals (l ++ 128 :: List.replicate (zerosN n) 0 ++ (be8 (8 * n)).take (2 + 1))) by rw [be8_take _ _ (by omega), ← List.append_assoc, ← bvals_append]; have h9 := hown2; rw [HBY.out] at h9; exact h9)
          clear hown2 hgrow2 hlies2
          go_roundg (gk - 1)
          case rel => exact ⟨3, 4, N + 1, ub, ud, by omega, by omega, Lib.hid (by have := HQ.out; omega), by go_num, rfl, Lib.hid (by have := HN.out; omega), HON.out, HBN.out⟩
          case measure => have := HQ.out; omega
        · clear hk8 hki
          have c9 : wr.cell? ⟨R, 9, none⟩ = some (.int .i64 (n : Int)) := HHW.out.box.cell (i := 9) rfl
          have hz := HHW.out.box.lt
          have HBY := Lib.hid (show (8 * (n : Int) / 4294967296) = ((UInt8.ofNat (8 * n / 2 ^ (56 - 8 * 3))).toNat : Int) by rw [UInt8.toNat_ofNat']; omega)
          go_wp2_with ((at_builtin; refine wpList_appw tyBytes (by rfl) _ _ (by rfl) w.heap.size (.slice ua N uc) N _ (by rfl) (HOW.out.alloc _) (HZZ.out _) (.slice (some ⟨wr.heap.size, 0, none⟩) 1 1) 1 [.int .u8 (8 * (n : Int) / 4294967296)] (by rfl) (srcMany (heap_alloc_new wr _)) (by rfl) (by simp [Value.oneCell']) (by omega) ?_; intro v' w2 hown2 hgrow2 hlies2))
          obtain ⟨ub, ud, rfl, hud⟩ := hown2.form
          have HBN := Lib.hid (belowK_grown (HBW.out.alloc HBW.out.size _) hgrow2 (Nat.le_trans HBW.out.size (by simp)) (fun q hq => (HOW.out.lt q hq).1))
          have HON := Lib.hid (show OwnWin w2 w.heap.size 5 1 (.slice ub (N + 1) ud) (N + 1) (bvals (l ++ 128 :: List.replicate (zerosN n) 0 ++ (be8 (8 * n)).take (3 + 1))) by rw [be8_take _ _ (by omega), ← List.append_assoc, ← bvals_append]; have h9 := hown2; rw [HBY.out] at h9; exact h9)
          clear hown2 hgrow2 hlies2
          go_roundg (gk - 1)
          case rel => exact ⟨4, 3, N + 1, ub, ud, by omega, by omega, Lib.hid (by have := HQ.out; omega), by go_num, rfl, Lib.hid (by have := HN.out; omega), HON.out, HBN.out⟩
          case measure => have := HQ.out; omega
        · clear hk8 hki
          have c9 : wr.cell? ⟨R, 9, none⟩ = some (.int .i64 (n : Int)) := HHW.out.box.cell (i := 9) rfl
          have hz := HHW.out.box.lt
          have HBY := Lib.hid (show (8 * (n : Int) / 16777216 % 256) = ((UInt8.ofNat (8 * n / 2 ^ (56 - 8 * 4))).toNat : Int) by rw [UInt8.toNat_ofNat']; omega)
          go_wp2_with ((at_builtin; refine wpList_appw tyBytes (by rfl) _ _ (by rfl) w.heap.size (.slice ua N uc) N _ (by rfl) (HOW.out.alloc _) (HZZ.out _) (.slice (some ⟨wr.heap.size, 0, none⟩) 1 1) 1 [.int .u8 (8 * (n : Int) / 16777216 % 256)] (by rfl) (srcMany (heap_alloc_new wr _)) (by rfl) (by simp [Value.oneCell']) (by omega) ?_; intro v' w2 hown2 hgrow2 hlies2))
          obtain ⟨ub, ud, rfl, hud⟩ := hown2.form
          have HBN := Lib.hid (belowK_grown (HBW.out.alloc HBW.out.size _) hgrow2 (Nat.le_trans HBW.out.size (by simp)) (fun q hq => (HOW.out.lt q hq).1))
          have HON := Lib.hid (show OwnWin w2 w.heap.size 5 1 (.slice ub (N + 1) ud) (N + 1) (bvals (l ++ 128 :: List.replicate (zerosN n) 0 ++ (be8 (8 * n)).take (4 + 1))) by rw [be8_take _ _ (by omega), ← List.append_assoc, ← bvals_append]; have h9 := hown2; rw [HBY.out] at h9; exact h9)
          clear hown2 hgrow2 hlies2
          go_roundg (gk - 1)
          case rel => exact ⟨5, 2, N + 1, ub, ud, by omega, by omega, Lib.hid (by have := HQ.out; omega), by go_num, rfl, Lib.hid (by have := HN.out; omega), HON.out, HBN.out⟩
          case measure => have := HQ.out; omega
        · clear hk8 hki
          have c9 : wr.cell? ⟨R, 9, none⟩ = some (.int .i64 (n : Int)) := HHW.out.box.cell (i := 9) rfl
          have hz := HHW.out.box.lt
          have HBY := Lib.hid (show (8 * (n : Int) / 65536 % 256) = ((UInt8.ofNat (8 * n / 2 ^ (56 - 8 * 5))).toNat : Int) by rw [UInt8.toNat_ofNat']; omega)
          go_wp2_with ((at_builtin; refine wpList_appw tyBytes (by rfl) _ _ (by rfl) w.heap.size (.slice ua N uc) N _ (by rfl) (HOW.out.alloc _) (HZZ.out _) (.slice (some ⟨wr.heap.size, 0, none⟩) 1 1) 1 [.int .u8 (8 * (n : Int) / 65536 % 256)] (by rfl) (srcMany (heap_alloc_new wr _)) (by rfl) (by simp [Value.oneCell']) (by omega) ?_; intro v' w2 hown2 hgrow2 hlies2))
          obtain ⟨ub, ud, rfl, hud⟩ := hown2.form
          have HBN := Lib.hid (belowK_grown (HBW.out.alloc HBW.out.size _) hgrow2 (Nat.le_trans HBW.out.size (by simp)) (fun q hq => (HOW.out.lt q hq).1))
          have HON := Lib.hid (show OwnWin w2 w.heap.size 5 1 (.slice ub (N + 1) ud) (N + 1) (bvals (l ++ 128 :: List.replicate (zerosN n) 0 ++ (be8 (8 * n)).take (5 + 1))) by rw [be8_take _ _ (by omega), ← List.append_assoc, ← bvals_append]; have h9 := hown2; rw [HBY.out] at h9; exact h9)
          clear hown2 hgrow2 hlies2
          go_roundg (gk - 1)
          case rel => exact ⟨6, 1, N + 1, ub, ud, by omega, by omega, Lib.hid (by have := HQ.out; omega), by go_num, rfl, Lib.hid (by have := HN.out; omega), HON.out, HBN.out⟩
          case measure => have := HQ.out; omega
        · clear hk8 hki
          have c9 : wr.cell? ⟨R, 9, none⟩ = some (.int .i64 (n : Int)) := HHW.out.box.cell (i := 9) rfl
          have hz := HHW.out.box.lt
          have HBY := Lib.hid (show (8 * (n : Int) / 256 % 256) = ((UInt8.ofNat (8 * n / 2 ^ (56 - 8 * 6))).toNat : Int) by rw [UInt8.toNat_ofNat']; omega)
          go_wp2_with ((at_builtin; refine wpList_appw tyBytes (by rfl) _ _ (by rfl) w.heap.size (.slice ua N uc) N _ (by rfl) (HOW.out.alloc _) (HZZ.out _) (.slice (some ⟨wr.heap.size, 0, none⟩) 1 1) 1 [.int .u8 (8 * (n : Int) / 256 % 256)] (by rfl) (srcMany (heap_alloc_new wr _)) (by rfl) (by simp [Value.oneCell']) (by omega) ?_; intro v' w2 hown2 hgrow2 hlies2))
          obtain ⟨ub, ud, rfl, hud⟩ := hown2.form
          have HBN := Lib.hid (belowK_grown (HBW.out.alloc HBW.out.size _) hgrow2 (Nat.le_trans HBW.out.size (by simp)) (fun q hq => (HOW.out.lt q hq).1))
          have HON := Lib.hid (show OwnWin w2 w.heap.size 5 1 (.slice ub (N + 1) ud) (N + 1) (bvals (l ++ 128 :: List.replicate (zerosN n) 0 ++ (be8 (8 * n)).take (6 + 1))) by rw [be8_take _ _ (by omega), ← List.append_assoc, ← bvals_append]; have h9 := hown2; rw [HBY.out] at h9; exact h9)
          clear hown2 hgrow2 hlies2
          go_roundg (gk - 1)
          case rel => exact ⟨7, 0, N + 1, ub, ud, by omega, by omega, Lib.hid (by have := HQ.out; omega), by go_num, rfl, Lib.hid (by have := HN.out; omega), HON.out, HBN.out⟩
          case measure => have := HQ.out; omega
        · clear hk8 hki
          have c9 : wr.cell? ⟨R, 9, none⟩ = some (.int .i64 (n : Int)) := HHW.out.box.cell (i := 9) rfl
          have hz := HHW.out.box.lt
          have HBY := Lib.hid (show (8 * (n : Int) % 256) = ((UInt8.ofNat (8 * n / 2 ^ (56 - 8 * 7))).toNat : Int) by rw [UInt8.toNat_ofNat']; omega)
          go_wp2_with ((at_builtin; refine wpList_appw tyBytes (by rfl) _ _ (by rfl) w.heap.size (.slice ua N uc) N _ (by rfl) (HOW.out.alloc _) (HZZ.out _) (.slice (some ⟨wr.heap.size, 0, none⟩) 1 1) 1 [.int .u8 (8 * (n : Int) % 256)] (by rfl) (srcMany (heap_alloc_new wr _)) (by rfl) (by simp [Value.oneCell']) (by omega) ?_; intro v' w2 hown2 hgrow2 hlies2))
          obtain ⟨ub, ud, rfl, hud⟩ := hown2.form
          have HBN := Lib.hid (belowK_grown (HBW.out.alloc HBW.out.size _) hgrow2 (Nat.le_trans HBW.out.size (by simp)) (fun q hq => (HOW.out.lt q hq).1))
          have HON := Lib.hid (show OwnWin w2 w.heap.size 5 1 (.slice ub (N + 1) ud) (N + 1) (bvals (l ++ 128 :: List.replicate (zerosN n) 0 ++ (be8 (8 * n)).take (7 + 1))) by rw [be8_take _ _ (by omega), ← List.append_assoc, ← bvals_append]; have h9 := hown2; rw [HBY.out] at h9; exact h9)
          clear hown2 hgrow2 hlies2
          go_roundg (gk - 1)
          case rel => exact ⟨8, -1, N + 1, ub, ud, by omega, by omega, Lib.hid (by have := HQ.out; omega), by go_num, rfl, Lib.hid (by have := HN.out; omega), HON.out, HBN.out⟩
          case measure => have := HQ.out; omega
        · clear hk8 hw8 hki
          have HRN := Lib.hid (show OwnWin wr w.heap.size 5 1 (.slice ua N uc) N (bvals (l ++ tailM n)) by rw [← tail_parts]; exact HOW.out)
          have HLEN := Lib.hid (show N = (l ++ tailM n).length by have h9 := HRN.out.1; rw [bvals_len] at h9; omega)
          have c0 : wr.cell? ⟨R, 0, none⟩ = some (.int .u32 sa) := HHW.out.box.cell (i := 0) rfl
          have c1 : wr.cell? ⟨R, 1, none⟩ = some (.int .u32 sb) := HHW.out.box.cell (i := 1) rfl
          have c2 : wr.cell? ⟨R, 2, none⟩ = some (.int .u32 sc) := HHW.out.box.cell (i := 2) rfl
          have c3 : wr.cell? ⟨R, 3, none⟩ = some (.int .u32 sd) := HHW.out.box.cell (i := 3) rfl
          have c4 : wr.cell? ⟨R, 4, none⟩ = some (.int .u32 se) := HHW.out.box.cell (i := 4) rfl
          have c5 : wr.cell? ⟨R, 5, none⟩ = some (.int .u32 sf) := HHW.out.box.cell (i := 5) rfl
          have c6 : wr.cell? ⟨R, 6, none⟩ = some (.int .u32 sg) := HHW.out.box.cell (i := 6) rfl
          have c7 : wr.cell? ⟨R, 7, none⟩ = some (.int .u32 sh) := HHW.out.box.cell (i := 7) rfl
          have c9 : wr.cell? ⟨R, 9, none⟩ = some (.int .i64 (n : Int)) := HHW.out.box.cell (i := 9) rfl
          have hz := HHW.out.box.lt
          have hb9 := (Below.refl wr.heap.size wr).alloc (Nat.le_refl _) (.cells (stV ⟨sa, sb, sc, sd, se, sf, sg, sh⟩) 172)
          have HS0 := Lib.hid (show Bx (wr.alloc (.cells (stV ⟨sa, sb, sc, sd, se, sf, sg, sh⟩) 172)) wr.heap.size 172 (stV ⟨sa, sb, sc, sd, se, sf, sg, sh⟩) from Bx.new wr _ _)
          have HO0 := Lib.hid (HRN.out.older hb9)
          have HB0 := Lib.hid (HBW.out.trans (hb9.mono HBW.out.size))
          have HZS := Lib.hid HBW.out.size
          have hlen64 := (show ((l ++ tailM n).length) % 64 = 0 by have h9 := tailM_len n; have h8 := HLN.out; rw [List.length_append]; omega)
          have HL64 := Lib.hid hlen64
          clear hb9 hlen64
          go_wp2_with fail
          obtain ⟨SB, hSB⟩ : ∃ x, wr.heap.size = x := ⟨_, rfl⟩
          rw [hSB] at HS0 HZS
          rw [hSB]
          clear hSB c0 c1 c2 c3 c4 c5 c6 c7 c9 hz
          go_loopg [3] N (fun gq sv wr => ∃ (s' : St) (lst : Bs) (N : Nat) (a : Option Addr) (c : Nat), sv = .slice a N c ∧ Hid (N = lst.length) ∧ Hid (lst.length ≤ gq) ∧ Hid (lst.length % 64 = 0) ∧ N ≤ 400 ∧ Bx wr SB 172 (stV s') ∧ OwnWin wr w.heap.size 5 1 (.slice a N c) N (bvals lst) ∧ Hid (runL mixM s' lst = runL mixM ⟨sa, sb, sc, sd, se, sf, sg, sh⟩ (l ++ tailM n)) ∧ Below w.heap.size w wr)
          case atStart => exact ⟨⟨sa, sb, sc, sd, se, sf, sg, sh⟩, l ++ tailM n, N, ua, uc, rfl, HLEN.out ▸ Lib.hid rfl, Lib.hid (by have := HLEN.out; omega), HL64, by omega, HS0.out, HO0.out, Lib.hid rfl, HB0.out⟩
          case round =>
            obtain ⟨t, lst, N, ua, uc, rfl, HN, HQ, HMOD, hNb, hbx, hown, HRUN, hbel⟩ := hrel
            clear HS0 HO0 HB0 HRN HLEN HOW HBW HHW HL64
            have HBX := Lib.hid hbx
            have HOW := Lib.hid hown
            have HBW := Lib.hid hbel
            have HCW := Lib.hid (HC.out.below hbel)
            obtain ⟨ta, tb, tc, td, te, tf, tg, th⟩ := t
            have c0 : wr.cell? ⟨SB, 0, none⟩ = some (.int .u32 ta) := hbx.cell (i := 0) rfl
            have c1 : wr.cell? ⟨SB, 1, none⟩ = some (.int .u32 tb) := hbx.cell (i := 1) rfl
            have c2 : wr.cell? ⟨SB, 2, none⟩ = some (.int .u32 tc) := hbx.cell (i := 2) rfl
            have c3 : wr.cell? ⟨SB, 3, none⟩ = some (.int .u32 td) := hbx.cell (i := 3) rfl
            have c4 : wr.cell? ⟨SB, 4, none⟩ = some (.int .u32 te) := hbx.cell (i := 4) rfl
            have c5 : wr.cell? ⟨SB, 5, none⟩ = some (.int .u32 tf) := hbx.cell (i := 5) rfl
            have c6 : wr.cell? ⟨SB, 6, none⟩ = some (.int .u32 tg) := hbx.cell (i := 6) rfl
            have c7 : wr.cell? ⟨SB, 7, none⟩ = some (.int .u32 th) := hbx.cell (i := 7) rfl
            have hzb := hbx.lt
            clear hbx hown hbel
            by_cases hpos : 0 < N
            · have hge : 64 ≤ lst.length := by have := HN.out; have := HMOD.out; omega
              have hN64 : 64 ≤ N := by have := HN.out; omega
              have hpi : (0 : Int) < (N : Int) := by omega
              have hNl : N = lst.length := HN.out
              subst hNl
              obtain ⟨g, o, c, e', hnc2, hcm, hBg, hglt, _⟩ := HOW.out.cells (by omega)
              cases e'
              have HBK := Lib.hid (own_blk HOW.out rfl hge)
              have hc64i : (64 : Int) ≤ (uc : Int) := by omega
              obtain ⟨t, ht⟩ : ∃ t, mixM ⟨ta, tb, tc, td, te, tf, tg, th⟩ (lst.take 64) = t := ⟨_, rfl⟩
              have HT := Lib.hid ht
              clear ht
              obtain ⟨na, nb, nc, nd, ne, nf, ng, nh⟩ := t
              have hmix : Hid (∀ wz : World, Below wr.heap.size wr wz → Calls Tryz.prog 110 #[.agg #[.int .u32 ta, .int .u32 tb, .int .u32 tc, .int .u32 td, .int .u32 te, .int .u32 tf, .int .u32 tg, .int .u32 th], .slice (some ⟨g, o, none⟩) 64 uc] wz fun e w' => e = .returned (.agg #[.int .u32 na, .int .u32 nb, .int .u32 nc, .int .u32 nd, .int .u32 ne, .int .u32 nf, .int .u32 ng, .int .u32 nh]) ∧ Below wz.heap.size wz w') := Lib.hid (fun wz hb => by
                have h9 := mix_any (lst.take 64) ⟨ta, tb, tc, td, te, tf, tg, th⟩ g o uc wz ⟨HBK.out.len, Nat.lt_of_lt_of_le HBK.out.lt hb.size, fun i hi => (hb.cell (p := ⟨g, o + i, none⟩) HBK.out.lt).trans (HBK.out.cell i hi)⟩ (HCW.out.below hb)
                rw [HT.out] at h9
                exact h9)
              by_cases hcap : uc = 64
              · subst hcap
                have hl64' : lst.length = 64 := by omega
                go_wp2_with fail
                go_region_with ((go_at_call 110; refine (hmix.out _ (Below.refl _ _).drew).mono ?_; rintro e w4 ⟨rfl, hb4⟩; have hbw4 := ((Below.refl wr.heap.size wr).drew).trans hb4; have HX4 := Lib.hid (show Box8 w4 w.heap.size SB (stV ⟨ta, tb, tc, td, te, tf, tg, th⟩) (.slice (some ⟨g, o, none⟩) lst.length 64) lst.length lst from ⟨HBX.out.older hbw4, HOW.out.older hbw4⟩); have HB4 := Lib.hid (HBW.out.trans (hbw4.mono HBW.out.size)); have hz4 := HX4.out.1.lt; have d0 : World.cell? w4 ⟨SB, 0, none⟩ = some (.int .u32 ta) := HX4.out.1.cell (i := 0) rfl; have d1 : World.cell? w4 ⟨SB, 1, none⟩ = some (.int .u32 tb) := HX4.out.1.cell (i := 1) rfl; have d2 : World.cell? w4 ⟨SB, 2, none⟩ = some (.int .u32 tc) := HX4.out.1.cell (i := 2) rfl; have d3 : World.cell? w4 ⟨SB, 3, none⟩ = some (.int .u32 td) := HX4.out.1.cell (i := 3) rfl; have d4 : World.cell? w4 ⟨SB, 4, none⟩ = some (.int .u32 te) := HX4.out.1.cell (i := 4) rfl; have d5 : World.cell? w4 ⟨SB, 5, none⟩ = some (.int .u32 tf) := HX4.out.1.cell (i := 5) rfl; have d6 : World.cell? w4 ⟨SB, 6, none⟩ = some (.int .u32 tg) := HX4.out.1.cell (i := 6) rfl; have d7 : World.cell? w4 ⟨SB, 7, none⟩ = some (.int .u32 th) := HX4.out.1.cell (i := 7) rfl; have g0 := HX4.out.1.frz 0; have g1 := HX4.out.1.frz 1; have g2 := HX4.out.1.frz 2; have g3 := HX4.out.1.frz 3; have g4 := HX4.out.1.frz 4; have g5 := HX4.out.1.frz 5; have g6 := HX4.out.1.frz 6; have g7 := HX4.out.1.frz 7; clear hb4 hbw4))
                all_goals
                  go_wp2_with fail
                  have HX5 := Lib.hid (HX4.out.setS ⟨na, nb, nc, nd, ne, nf, ng, nh⟩)
                  have HB5 := Lib.hid (below_setS (s' := ⟨na, nb, nc, nd, ne, nf, ng, nh⟩) HB4.out HZS.out)
                  go_roundg (gk - 64)
                  case rel => exact ⟨⟨na, nb, nc, nd, ne, nf, ng, nh⟩, lst.drop 64, 0, (some ⟨g, o, none⟩), 0, by first | rfl | go_num, Lib.hid (by rw [List.length_drop]; try omega), Lib.hid (by have := HQ.out; rw [List.length_drop]; omega), Lib.hid (by have := HMOD.out; rw [List.length_drop]; omega), by omega, HX5.out.1, by have h9 := (own_rest0 HX5.out.2 hl64'); rw [List.length_drop] at h9; rw [show lst.length - 64 = 0 by omega] at h9; exact h9, Lib.hid ((runL_step hge HT.out).trans HRUN.out), HB5.out⟩
                  case measure => have := HQ.out; omega
              · have hcapi : (64 : Int) < (uc : Int) := by omega
                have hcapn : 64 < uc := by omega
                go_wp2_with fail
                go_region_with ((go_at_call 110; refine (hmix.out _ (Below.refl _ _).drew).mono ?_; rintro e w4 ⟨rfl, hb4⟩; have hbw4 := ((Below.refl wr.heap.size wr).drew).trans hb4; have HX4 := Lib.hid (show Box8 w4 w.heap.size SB (stV ⟨ta, tb, tc, td, te, tf, tg, th⟩) (.slice (some ⟨g, o, none⟩) lst.length uc) lst.length lst from ⟨HBX.out.older hbw4, HOW.out.older hbw4⟩); have HB4 := Lib.hid (HBW.out.trans (hbw4.mono HBW.out.size)); have hz4 := HX4.out.1.lt; have d0 : World.cell? w4 ⟨SB, 0, none⟩ = some (.int .u32 ta) := HX4.out.1.cell (i := 0) rfl; have d1 : World.cell? w4 ⟨SB, 1, none⟩ = some (.int .u32 tb) := HX4.out.1.cell (i := 1) rfl; have d2 : World.cell? w4 ⟨SB, 2, none⟩ = some (.int .u32 tc) := HX4.out.1.cell (i := 2) rfl; have d3 : World.cell? w4 ⟨SB, 3, none⟩ = some (.int .u32 td) := HX4.out.1.cell (i := 3) rfl; have d4 : World.cell? w4 ⟨SB, 4, none⟩ = some (.int .u32 te) := HX4.out.1.cell (i := 4) rfl; have d5 : World.cell? w4 ⟨SB, 5, none⟩ = some (.int .u32 tf) := HX4.out.1.cell (i := 5) rfl; have d6 : World.cell? w4 ⟨SB, 6, none⟩ = some (.int .u32 tg) := HX4.out.1.cell (i := 6) rfl; have d7 : World.cell? w4 ⟨SB, 7, none⟩ = some (.int .u32 th) := HX4.out.1.cell (i := 7) rfl; have g0 := HX4.out.1.frz 0; have g1 := HX4.out.1.frz 1; have g2 := HX4.out.1.frz 2; have g3 := HX4.out.1.frz 3; have g4 := HX4.out.1.frz 4; have g5 := HX4.out.1.frz 5; have g6 := HX4.out.1.frz 6; have g7 := HX4.out.1.frz 7; clear hb4 hbw4))
                all_goals
                  go_wp2_with fail
                  have HX5 := Lib.hid (HX4.out.setS ⟨na, nb, nc, nd, ne, nf, ng, nh⟩)
                  have HB5 := Lib.hid (below_setS (s' := ⟨na, nb, nc, nd, ne, nf, ng, nh⟩) HB4.out HZS.out)
                  go_roundg (gk - 64)
                  case rel => exact ⟨⟨na, nb, nc, nd, ne, nf, ng, nh⟩, lst.drop 64, (lst.length - 64), (some ⟨g, o + 64, none⟩), (uc - 64), by first | rfl | go_num, Lib.hid (by rw [List.length_drop]; try omega), Lib.hid (by have := HQ.out; rw [List.length_drop]; omega), Lib.hid (by have := HMOD.out; rw [List.length_drop]; omega), by omega, HX5.out.1, by have h9 := (own_rest HX5.out.2 hge hcapn); rw [List.length_drop] at h9; skip; exact h9, Lib.hid ((runL_step hge HT.out).trans HRUN.out), HB5.out⟩
                  case measure => have := HQ.out; omega
            · have hN0 : N = 0 := by omega
              have hl0 : lst = [] := List.eq_nil_of_length_eq_zero (by have := HN.out; omega)
              have hpi : ¬ (0 : Int) < (N : Int) := by omega
              subst hN0
              subst hl0
              have HFIN := Lib.hid (show outM ⟨ta, tb, tc, td, te, tf, tg, th⟩ = outM (runL mixM ⟨sa, sb, sc, sd, se, sf, sg, sh⟩ (l ++ tailM n)).1 by rw [← HRUN.out, runL_end (by simp)])
              have hmk := HMK.out
              have i0 : ∀ w, (Instr.index 172 (.agg #[.int .u32 ta, .int .u32 tb, .int .u32 tc, .int .u32 td, .int .u32 te, .int .u32 tf, .int .u32 tg, .int .u32 th]) (.int .i64 0)).run Tryz.prog w = .ok (.int .u32 ta) w := fun _ => by kernel_rfl
              have i1 : ∀ w, (Instr.index 172 (.agg #[.int .u32 ta, .int .u32 tb, .int .u32 tc, .int .u32 td, .int .u32 te, .int .u32 tf, .int .u32 tg, .int .u32 th]) (.int .i64 1)).run Tryz.prog w = .ok (.int .u32 tb) w := fun _ => by kernel_rfl
              have i2 : ∀ w, (Instr.index 172 (.agg #[.int .u32 ta, .int .u32 tb, .int .u32 tc, .int .u32 td, .int .u32 te, .int .u32 tf, .int .u32 tg, .int .u32 th]) (.int .i64 2)).run Tryz.prog w = .ok (.int .u32 tc) w := fun _ => by kernel_rfl
              have i3 : ∀ w, (Instr.index 172 (.agg #[.int .u32 ta, .int .u32 tb, .int .u32 tc, .int .u32 td, .int .u32 te, .int .u32 tf, .int .u32 tg, .int .u32 th]) (.int .i64 3)).run Tryz.prog w = .ok (.int .u32 td) w := fun _ => by kernel_rfl
              have i4 : ∀ w, (Instr.index 172 (.agg #[.int .u32 ta, .int .u32 tb, .int .u32 tc, .int .u32 td, .int .u32 te, .int .u32 tf, .int .u32 tg, .int .u32 th]) (.int .i64 4)).run Tryz.prog w = .ok (.int .u32 te) w := fun _ => by kernel_rfl
              have i5 : ∀ w, (Instr.index 172 (.agg #[.int .u32 ta, .int .u32 tb, .int .u32 tc, .int .u32 td, .int .u32 te, .int .u32 tf, .int .u32 tg, .int .u32 th]) (.int .i64 5)).run Tryz.prog w = .ok (.int .u32 tf) w := fun _ => by kernel_rfl
              have i6 : ∀ w, (Instr.index 172 (.agg #[.int .u32 ta, .int .u32 tb, .int .u32 tc, .int .u32 td, .int .u32 te, .int .u32 tf, .int .u32 tg, .int .u32 th]) (.int .i64 6)).run Tryz.prog w = .ok (.int .u32 tg) w := fun _ => by kernel_rfl
              have i7 : ∀ w, (Instr.index 172 (.agg #[.int .u32 ta, .int .u32 tb, .int .u32 tc, .int .u32 td, .int .u32 te, .int .u32 tf, .int .u32 tg, .int .u32 th]) (.int .i64 7)).run Tryz.prog w = .ok (.int .u32 th) w := fun _ => by kernel_rfl
              have HO0 := Lib.hid (show OwnWin (wr.alloc (.cells (bvals (List.replicate 32 0)).toArray 5)) w.heap.size 5 1 (.slice (some ⟨wr.heap.size, 0, none⟩) 0 32) 0 (bvals (outK ⟨ta, tb, tc, td, te, tf, tg, th⟩ 0)) from ⟨rfl, .inr ⟨wr.heap.size, 0, 32, _, rfl, HBW.out.size, heap_alloc_new wr _, Nat.zero_le _, by unfold maxLen; omega, by decide, by simp [outK, bvals]⟩⟩)
              have HB0 := Lib.hid (HBW.out.alloc HBW.out.size (.cells (bvals (List.replicate 32 0)).toArray 5))
              have hm0 := hmk wr
              clear hmk
              go_wp2_with fail
              go_loopg [56, 6, 8] 8 (fun gq iv s6 s8 wr => ∃ (k : Nat) (i : Int) (N : Nat) (a : Option Addr) (c : Nat), i = k ∧ k ≤ 8 ∧ Hid (8 ≤ gq + k) ∧ iv = .int .i64 i ∧ s6 = .slice a N c ∧ Hid (N = 4 * k) ∧ OwnWin wr w.heap.size 5 1 (.slice a N c) N (bvals (outK ⟨ta, tb, tc, td, te, tf, tg, th⟩ k)) ∧ Below w.heap.size w wr)
              case atStart => exact ⟨0, 0, 0, _, 32, rfl, Nat.zero_le _, Lib.hid (by omega), rfl, rfl, Lib.hid rfl, HO0.out, HB0.out⟩
              case round =>
                obtain ⟨k, i, N, ua, uc, hki, hk8, HQ, rfl, rfl, HN, hown, hbel⟩ := hrel
                clear HO0 HB0 HOW HBW HBX HCW
                have HOW := Lib.hid hown
                have HBW := Lib.hid hbel
                have HZZ : Hid (∀ C : Array Value, w.heap.size ≤ (wr.alloc (.cells C 5)).heap.size) := Lib.hid (fun C => by have := hbel.size; simp; omega)
                have hNb : N ≤ 40 := by have := HN.out; omega
                clear hown hbel
                rcases (show (k = 0 ∧ i = 0) ∨ (k = 1 ∧ i = 1) ∨ (k = 2 ∧ i = 2) ∨ (k = 3 ∧ i = 3) ∨ (k = 4 ∧ i = 4) ∨ (k = 5 ∧ i = 5) ∨ (k = 6 ∧ i = 6) ∨ (k = 7 ∧ i = 7) ∨ (k = 8 ∧ i = 8) by omega) with ⟨rfl, rfl⟩ | ⟨rfl, rfl⟩ | ⟨rfl, rfl⟩ | ⟨rfl, rfl⟩ | ⟨rfl, rfl⟩ | ⟨rfl, rfl⟩ | ⟨rfl, rfl⟩ | ⟨rfl, rfl⟩ | ⟨rfl, rfl⟩
                · clear hk8 hki
                  go_wp2_with ((at_builtin; refine wpList_appw tyBytes (by rfl) _ _ (by rfl) w.heap.size (.slice ua N uc) N _ (by rfl) (HOW.out.alloc _) (HZZ.out _) (.slice (some ⟨wr.heap.size, 0, none⟩) 4 4) 4 [.int .u8 (ta / 16777216 % 256), .int .u8 (ta / 65536 % 256), .int .u8 (ta / 256 % 256), .int .u8 (ta % 256)] (by rfl) (srcMany (heap_alloc_new wr _)) (by rfl) (by simp [Value.oneCell']) (by omega) ?_; intro v' w2 hown2 hgrow2 hlies2))
                  obtain ⟨ub, ud, rfl, hud⟩ := hown2.form
                  have HBN := Lib.hid (belowK_grown (HBW.out.alloc HBW.out.size _) hgrow2 (Nat.le_trans HBW.out.size (by simp)) (fun q hq => (HOW.out.lt q hq).1))
                  have HON := Lib.hid (show OwnWin w2 w.heap.size 5 1 (.slice ub (N + 4) ud) (N + 4) (bvals (outK ⟨ta, tb, tc, td, te, tf, tg, th⟩ (0 + 1))) by rw [outK_next ⟨ta, tb, tc, td, te, tf, tg, th⟩ 0 (by omega), ← bvals_append, show (stL ⟨ta, tb, tc, td, te, tf, tg, th⟩).getD 0 0 = ta from rfl, word4_vals]; exact hown2)
                  clear hown2 hgrow2 hlies2
                  go_roundg (gk - 1)
                  case rel => exact ⟨1, 1, N + 4, ub, ud, rfl, by omega, Lib.hid (by have := HQ.out; omega), by go_num, rfl, Lib.hid (by have := HN.out; omega), HON.out, HBN.out⟩
                  case measure => have := HQ.out; omega
                · clear hk8 hki
                  go_wp2_with ((at_builtin; refine wpList_appw tyBytes (by rfl) _ _ (by rfl) w.heap.size (.slice ua N uc) N _ (by rfl) (HOW.out.alloc _) (HZZ.out _) (.slice (some ⟨wr.heap.size, 0, none⟩) 4 4) 4 [.int .u8 (tb / 16777216 % 256), .int .u8 (tb / 65536 % 256), .int .u8 (tb / 256 % 256), .int .u8 (tb % 256)] (by rfl) (srcMany (heap_alloc_new wr _)) (by rfl) (by simp [Value.oneCell']) (by omega) ?_; intro v' w2 hown2 hgrow2 hlies2))
                  obtain ⟨ub, ud, rfl, hud⟩ := hown2.form
                  have HBN := Lib.hid (belowK_grown (HBW.out.alloc HBW.out.size _) hgrow2 (Nat.le_trans HBW.out.size (by simp)) (fun q hq => (HOW.out.lt q hq).1))
                  have HON := Lib.hid (show OwnWin w2 w.heap.size 5 1 (.slice ub (N + 4) ud) (N + 4) (bvals (outK ⟨ta, tb, tc, td, te, tf, tg, th⟩ (1 + 1))) by rw [outK_next ⟨ta, tb, tc, td, te, tf, tg, th⟩ 1 (by omega), ← bvals_append, show (stL ⟨ta, tb, tc, td, te, tf, tg, th⟩).getD 1 0 = tb from rfl, word4_vals]; exact hown2)
                  clear hown2 hgrow2 hlies2
                  go_roundg (gk - 1)
                  case rel => exact ⟨2, 2, N + 4, ub, ud, rfl, by omega, Lib.hid (by have := HQ.out; omega), by go_num, rfl, Lib.hid (by have := HN.out; omega), HON.out, HBN.out⟩
                  case measure => have := HQ.out; omega
                · clear hk8 hki
                  go_wp2_with ((at_builtin; refine wpList_appw tyBytes (by rfl) _ _ (by rfl) w.heap.size (.slice ua N uc) N _ (by rfl) (HOW.out.alloc _) (HZZ.out _) (.slice (some ⟨wr.heap.size, 0, none⟩) 4 4) 4 [.int .u8 (tc / 16777216 % 256), .int .u8 (tc / 65536 % 256), .int .u8 (tc / 256 % 256), .int .u8 (tc % 256)] (by rfl) (srcMany (heap_alloc_new wr _)) (by rfl) (by simp [Value.oneCell']) (by omega) ?_; intro v' w2 hown2 hgrow2 hlies2))
                  obtain ⟨ub, ud, rfl, hud⟩ := hown2.form
                  have HBN := Lib.hid (belowK_grown (HBW.out.alloc HBW.out.size _) hgrow2 (Nat.le_trans HBW.out.size (by simp)) (fun q hq => (HOW.out.lt q hq).1))
                  have HON := Lib.hid (show OwnWin w2 w.heap.size 5 1 (.slice ub (N + 4) ud) (N + 4) (bvals (outK ⟨ta, tb, tc, td, te, tf, tg, th⟩ (2 + 1))) by rw [outK_next ⟨ta, tb, tc, td, te, tf, tg, th⟩ 2 (by omega), ← bvals_append, show (stL ⟨ta, tb, tc, td, te, tf, tg, th⟩).getD 2 0 = tc from rfl, word4_vals]; exact hown2)
                  clear hown2 hgrow2 hlies2
                  go_roundg (gk - 1)
                  case rel => exact ⟨3, 3, N + 4, ub, ud, rfl, by omega, Lib.hid (by have := HQ.out; omega), by go_num, rfl, Lib.hid (by have := HN.out; omega), HON.out, HBN.out⟩
                  case measure => have := HQ.out; omega
                · clear hk8 hki
                  go_wp2_with ((at_builtin; refine wpList_appw tyBytes (by rfl) _ _ (by rfl) w.heap.size (.slice ua N uc) N _ (by rfl) (HOW.out.alloc _) (HZZ.out _) (.slice (some ⟨wr.heap.size, 0, none⟩) 4 4) 4 [.int .u8 (td / 16777216 % 256), .int .u8 (td / 65536 % 256), .int .u8 (td / 256 % 256), .int .u8 (td % 256)] (by rfl) (srcMany (heap_alloc_new wr _)) (by rfl) (by simp [Value.oneCell']) (by omega) ?_; intro v' w2 hown2 hgrow2 hlies2))
                  obtain ⟨ub, ud, rfl, hud⟩ := hown2.form
                  have HBN := Lib.hid (belowK_grown (HBW.out.alloc HBW.out.size _) hgrow2 (Nat.le_trans HBW.out.size (by simp)) (fun q hq => (HOW.out.lt q hq).1))
                  have HON := Lib.hid (show OwnWin w2 w.heap.size 5 1 (.slice ub (N + 4) ud) (N + 4) (bvals (outK ⟨ta, tb, tc, td, te, tf, tg, th⟩ (3 + 1))) by rw [outK_next ⟨ta, tb, tc, td, te, tf, tg, th⟩ 3 (by omega), ← bvals_append, show (stL ⟨ta, tb, tc, td, te, tf, tg, th⟩).getD 3 0 = td from rfl, word4_vals]; exact hown2)
                  clear hown2 hgrow2 hlies2
                  go_roundg (gk - 1)
                  case rel => exact ⟨4, 4, N + 4, ub, ud, rfl, by omega, Lib.hid (by have := HQ.out; omega), by go_num, rfl, Lib.hid (by have := HN.out; omega), HON.out, HBN.out⟩
                  case measure => have := HQ.out; omega
                · clear hk8 hki
                  go_wp2_with ((at_builtin; refine wpList_appw tyBytes (by rfl) _ _ (by rfl) w.heap.size (.slice ua N uc) N _ (by rfl) (HOW.out.alloc _) (HZZ.out _) (.slice (some ⟨wr.heap.size, 0, none⟩) 4 4) 4 [.int .u8 (te / 16777216 % 256), .int .u8 (te / 65536 % 256), .int .u8 (te / 256 % 256), .int .u8 (te % 256)] (by rfl) (srcMany (heap_alloc_new wr _)) (by rfl) (by simp [Value.oneCell']) (by omega) ?_; intro v' w2 hown2 hgrow2 hlies2))
                  obtain ⟨ub, ud, rfl, hud⟩ := hown2.form
                  have HBN := Lib.hid (belowK_grown (HBW.out.alloc HBW.out.size _) hgrow2 (Nat.le_trans HBW.out.size (by simp)) (fun q hq => (HOW.out.lt q hq).1))
                  have HON := Lib.hid (show OwnWin w2 w.heap.size 5 1 (.slice ub (N + 4) ud) (N + 4) (bvals (outK ⟨ta, tb, tc, td, te, tf, tg, th⟩ (4 + 1))) by rw [outK_next ⟨ta, tb, tc, td, te, tf, tg, th⟩ 4 (by omega), ← bvals_append, show (stL ⟨ta, tb, tc, td, te, tf, tg, th⟩).getD 4 0 = te from rfl, word4_vals]; exact hown2)
                  clear hown2 hgrow2 hlies2
                  go_roundg (gk - 1)
                  case rel => exact ⟨5, 5, N + 4, ub, ud, rfl, by omega, Lib.hid (by have := HQ.out; omega), by go_num, rfl, Lib.hid (by have := HN.out; omega), HON.out, HBN.out⟩
                  case measure => have := HQ.out; omega
                · clear hk8 hki
                  go_wp2_with ((at_builtin; refine wpList_appw tyBytes (by rfl) _ _ (by rfl) w.heap.size (.slice ua N uc) N _ (by rfl) (HOW.out.alloc _) (HZZ.out _) (.slice (some ⟨wr.heap.size, 0, none⟩) 4 4) 4 [.int .u8 (tf / 16777216 % 256), .int .u8 (tf / 65536 % 256), .int .u8 (tf / 256 % 256), .int .u8 (tf % 256)] (by rfl) (srcMany (heap_alloc_new wr _)) (by rfl) (by simp [Value.oneCell']) (by omega) ?_; intro v' w2 hown2 hgrow2 hlies2))
                  obtain ⟨ub, ud, rfl, hud⟩ := hown2.form
                  have HBN := Lib.hid (belowK_grown (HBW.out.alloc HBW.out.size _) hgrow2 (Nat.le_trans HBW.out.size (by simp)) (fun q hq => (HOW.out.lt q hq).1))
                  have HON := Lib.hid (show OwnWin w2 w.heap.size 5 1 (.slice ub (N + 4) ud) (N + 4) (bvals (outK ⟨ta, tb, tc, td, te, tf, tg, th⟩ (5 + 1))) by rw [outK_next ⟨ta, tb, tc, td, te, tf, tg, th⟩ 5 (by omega), ← bvals_append, show (stL ⟨ta, tb, tc, td, te, tf, tg, th⟩).getD 5 0 = tf from rfl, word4_vals]; exact hown2)
                  clear hown2 hgrow2 hlies2
                  go_roundg (gk - 1)
                  case rel => exact ⟨6, 6, N + 4, ub, ud, rfl, by omega, Lib.hid (by have := HQ.out; omega), by go_num, rfl, Lib.hid (by have := HN.out; omega), HON.out, HBN.out⟩
                  case measure => have := HQ.out; omega
                · clear hk8 hki
                  go_wp2_with ((at_builtin; refine wpList_appw tyBytes (by rfl) _ _ (by rfl) w.heap.size (.slice ua N uc) N _ (by rfl) (HOW.out.alloc _) (HZZ.out _) (.slice (some ⟨wr.heap.size, 0, none⟩) 4 4) 4 [.int .u8 (tg / 16777216 % 256), .int .u8 (tg / 65536 % 256), .int .u8 (tg / 256 % 256), .int .u8 (tg % 256)] (by rfl) (srcMany (heap_alloc_new wr _)) (by rfl) (by simp [Value.oneCell']) (by omega) ?_; intro v' w2 hown2 hgrow2 hlies2))
                  obtain ⟨ub, ud, rfl, hud⟩ := hown2.form
                  have HBN := Lib.hid (belowK_grown (HBW.out.alloc HBW.out.size _) hgrow2 (Nat.le_trans HBW.out.size (by simp)) (fun q hq => (HOW.out.lt q hq).1))
                  have HON := Lib.hid (show OwnWin w2 w.heap.size 5 1 (.slice ub (N + 4) ud) (N + 4) (bvals (outK ⟨ta, tb, tc, td, te, tf, tg, th⟩ (6 + 1))) by rw [outK_next ⟨ta, tb, tc, td, te, tf, tg, th⟩ 6 (by omega), ← bvals_append, show (stL ⟨ta, tb, tc, td, te, tf, tg, th⟩).getD 6 0 = tg from rfl, word4_vals]; exact hown2)
                  clear hown2 hgrow2 hlies2
                  go_roundg (gk - 1)
                  case rel => exact ⟨7, 7, N + 4, ub, ud, rfl, by omega, Lib.hid (by have := HQ.out; omega), by go_num, rfl, Lib.hid (by have := HN.out; omega), HON.out, HBN.out⟩
                  case measure => have := HQ.out; omega
                · clear hk8 hki
                  go_wp2_with ((at_builtin; refine wpList_appw tyBytes (by rfl) _ _ (by rfl) w.heap.size (.slice ua N uc) N _ (by rfl) (HOW.out.alloc _) (HZZ.out _) (.slice (some ⟨wr.heap.size, 0, none⟩) 4 4) 4 [.int .u8 (th / 16777216 % 256), .int .u8 (th / 65536 % 256), .int .u8 (th / 256 % 256), .int .u8 (th % 256)] (by rfl) (srcMany (heap_alloc_new wr _)) (by rfl) (by simp [Value.oneCell']) (by omega) ?_; intro v' w2 hown2 hgrow2 hlies2))
                  obtain ⟨ub, ud, rfl, hud⟩ := hown2.form
                  have HBN := Lib.hid (belowK_grown (HBW.out.alloc HBW.out.size _) hgrow2 (Nat.le_trans HBW.out.size (by simp)) (fun q hq => (HOW.out.lt q hq).1))
                  have HON := Lib.hid (show OwnWin w2 w.heap.size 5 1 (.slice ub (N + 4) ud) (N + 4) (bvals (outK ⟨ta, tb, tc, td, te, tf, tg, th⟩ (7 + 1))) by rw [outK_next ⟨ta, tb, tc, td, te, tf, tg, th⟩ 7 (by omega), ← bvals_append, show (stL ⟨ta, tb, tc, td, te, tf, tg, th⟩).getD 7 0 = th from rfl, word4_vals]; exact hown2)
                  clear hown2 hgrow2 hlies2
                  go_roundg (gk - 1)
                  case rel => exact ⟨8, 8, N + 4, ub, ud, rfl, by omega, Lib.hid (by have := HQ.out; omega), by go_num, rfl, Lib.hid (by have := HN.out; omega), HON.out, HBN.out⟩
                  case measure => have := HQ.out; omega
                · clear hk8 hki
                  obtain rfl : N = 32 := by have := HN.out; omega
                  go_wp2_with fail
                  go_ret
                  exact ⟨ua, uc, rfl, by rw [← HFIN.out, ← outK_all]; exact HOW.out, HBW.out⟩
    · have ht : ((N : Int) % 64 != 56) = true := by
        have h9 : ¬ (l.length + 1 + j) % 64 = 56 := fun e => hlt ((zeros_test HLN.out hj).1 e)
        have h8 := HN.out
        simp only [bne_iff_ne, ne_eq]
        omega
      have HZZ := Lib.hid (show w.heap.size ≤ (wr.alloc (.cells #[.int .u8 0] 5)).heap.size by have := HBW.out.size; simp; omega)
      go_wp2_with ((at_builtin; refine wpList_appw tyBytes (by rfl) _ _ (by rfl) w.heap.size (.slice ua N uc) N _ (by rfl) (HOW.out.alloc _) HZZ.out (.slice (some ⟨wr.heap.size, 0, none⟩) 1 1) 1 [.int .u8 0] (by rfl) (srcMany (heap_alloc_new wr _)) (by rfl) (by simp [Value.oneCell']) (by omega) ?_; intro v' w2 hown2 hgrow2 hlies2))
      obtain ⟨ub, ud, rfl, hud⟩ := hown2.form
      have HBN := Lib.hid (belowK_grown (HBW.out.alloc HBW.out.size _) hgrow2 (Nat.le_trans HBW.out.size (by simp)) (fun q hq => (HOW.out.lt q hq).1))
      have HON := Lib.hid (show OwnWin w2 w.heap.size 5 1 (.slice ub (N + 1) ud) (N + 1) (bvals (l ++ 128 :: List.replicate (j + 1) 0)) by rw [List.replicate_succ', show l ++ 128 :: (List.replicate j 0 ++ [0]) = (l ++ 128 :: List.replicate j 0) ++ [0] by simp, ← bvals_append]; exact hown2)
      clear hown2 hgrow2 hlies2
      go_roundg (gk - 1)
      case rel => exact ⟨j + 1, N + 1, ub, ud, by omega, Lib.hid (by have := HQ.out; omega), rfl, Lib.hid (by have := HN.out; omega), HON.out, HBN.out⟩
      case measure => have := HQ.out; omega
end Dg
end Go.Proofs.YtpmhkkjecapbeaaGreatDoor
end

section
namespace Go.Proofs.YtpmhkkjecapbeaaGreatDoor
open Pl
namespace Ad
abbrev KL := List (Int × KeyM)
/-- A tenant's keys in the reference's list. -/
def per (ml : KL) (t : Int) : List KeyM := (ml.filter fun e => e.1 == t).map (·.2)
def cntK (ml : KL) (t : Int) (i : Nat) : Nat := (per (ml.take i) t).length
theorem per_split {ml : KL} {i : Nat} {t : Int} {k : KeyM} (h : ml[i]? = some (t, k)) : per ml t = per (ml.take i) t ++ k :: per (ml.drop (i + 1)) t := by
  have e : ml = ml.take i ++ (t, k) :: ml.drop (i + 1) := by
    obtain ⟨hi, hx⟩ := List.getElem?_eq_some_iff.1 h
    rw [← hx, ← drop_cons hi, List.take_append_drop]
  conv => lhs; rw [e]
  unfold per
  rw [List.filter_append, List.map_append, List.filter_cons]
  simp
/-- The reference's find. -/
def findR (ml : KL) (t : Int) (id : Bs) : Option Nat := ml.findIdx? fun e => e.1 == t && e.2.id == id
theorem findR_some {ml : KL} {t : Int} {id : Bs} {i : Nat} (h : findR ml t id = some i) : ∃ k, ml[i]? = some (t, k) ∧ hasId (per ml t) id = true ∧ ((per ml t).findIdx fun k => k.id == id) = cntK ml t i ∧ (per ml t).find? (fun k => k.id == id) = some k := by
  unfold findR at h
  rw [List.findIdx?_eq_some_iff_getElem] at h
  obtain ⟨hi, hp, hb⟩ := h
  rw [Bool.and_eq_true, beq_iff_eq, beq_iff_eq] at hp
  obtain ⟨k, hk⟩ : ∃ k, ml[i] = (t, k) := ⟨ml[i].2, by rw [← hp.1]⟩
  have hmi : ml[i]? = some (t, k) := by rw [List.getElem?_eq_getElem hi, hk]
  have hid : k.id = id := by have := hp.2; rw [hk] at this; exact this
  have hpre : ∀ x ∈ per (ml.take i) t, (x.id == id) = false := by
    intro x hx
    unfold per at hx
    obtain ⟨e, he, rfl⟩ := List.mem_map.1 hx
    have h1 := List.mem_filter.1 he
    obtain ⟨j, hj, rfl⟩ := List.getElem_of_mem h1.1
    rw [List.getElem_take] at h1 ⊢
    have hji : j < i := by rw [List.length_take] at hj; omega
    have h2 := hb j hji
    rw [h1.2, Bool.true_and] at h2
    simpa using h2
  refine ⟨k, hmi, ?_, ?_, ?_⟩
  · rw [per_split hmi]; unfold hasId; simp [hid]
  · rw [per_split hmi, List.findIdx_append, if_neg]
    · rw [List.findIdx_cons, hid]
      simp [cntK]
    · rw [List.findIdx_lt_length]
      rintro ⟨x, hx, hxi⟩
      rw [hpre x hx] at hxi; cases hxi
  · rw [per_split hmi, List.find?_append]
    have : (per (ml.take i) t).find? (fun k => k.id == id) = none := by
      rw [List.find?_eq_none]
      intro x hx
      rw [hpre x hx]; simp
    rw [this, List.find?_cons, hid]
    simp
end Ad
end Go.Proofs.YtpmhkkjecapbeaaGreatDoor
end

section
namespace Go.Proofs.YtpmhkkjecapbeaaGreatDoor
open Go.RowKit Pl Ad
attribute [local go_sem] ba_get ba_append ba_extract_end ba_extract_zero ba_extract
set_option maxRecDepth 100000
set_option maxHeartbeats 4000000
set_option linter.unusedVariables false
set_option linter.unusedSimpArgs false
namespace Kr
theorem flatK_get {α : Type} {F : α → List Value} {k : Nat} (hF : ∀ x, (F x).length = k) (hk : 0 < k) : ∀ (xs : List α) (j : Nat), (xs.flatMap F)[j]? = (xs[j / k]?).bind fun x => (F x)[j % k]?
  | [], j => by simp
  | x :: r, j => by
    rw [List.flatMap_cons]
    by_cases h : j < k
    · rw [List.getElem?_append_left (by rw [hF]; exact h), Nat.div_eq_of_lt h, Nat.mod_eq_of_lt h]; rfl
    · obtain ⟨m, rfl⟩ : ∃ m, j = m + k := ⟨j - k, by omega⟩
      rw [List.getElem?_append_right (by rw [hF]; omega), hF, Nat.add_sub_cancel, flatK_get hF hk r m, Nat.add_div_right m hk, Nat.add_mod_right]
      rfl
theorem flatK_at {α : Type} {F : α → List Value} {k : Nat} (hF : ∀ x, (F x).length = k) {xs : List α} {i j : Nat} {x : α} {u : Value} (hx : xs[i]? = some x) (hu : (F x)[j]? = some u) : (xs.flatMap F)[i * k + j]? = some u := by
  have hj : j < k := by rw [← hF x]; exact (List.getElem?_eq_some_iff.1 hu).1
  rw [flatK_get hF (by omega), show i * k + j = j + k * i by rw [Nat.mul_comm]; omega, Nat.add_mul_div_left _ _ (by omega), Nat.div_eq_of_lt hj, Nat.add_mul_mod_self_left, Nat.mod_eq_of_lt hj, Nat.zero_add, hx]
  exact hu
def kcells (e : Int × KeyM) : List Value := [.int .i64 e.1, .string ⟨e.2.id.toArray⟩, .string ⟨e.2.sec.toArray⟩, .int .i64 e.2.frm, .int .i64 e.2.til, .int .i64 e.2.rev]
theorem kcells_len (e : Int × KeyM) : (kcells e).length = 6 := rfl
def kvals (ml : KL) : List Value := ml.flatMap kcells
@[reducible] def rkeyV (t : Int) (k : KeyM) : Value := .agg #[.int .i64 t, .string ⟨k.id.toArray⟩, .string ⟨k.sec.toArray⟩, .int .i64 k.frm, .int .i64 k.til, .int .i64 k.rev]
/-- The reference's list of keys. -/
def RefAt (w : World) (B : Nat) (v : Value) (ml : KL) : Prop := OwnWin w B 99 6 v ml.length (kvals ml)
/-- An element's cells. -/
structure RowK (w : World) (b p : Nat) (e : Int × KeyM) : Prop where
  c0 : w.cell? ⟨b, p, none⟩ = some (.int .i64 e.1)
  c1 : w.cell? ⟨b, p + 1, none⟩ = some (.string ⟨e.2.id.toArray⟩)
  c2 : w.cell? ⟨b, p + 2, none⟩ = some (.string ⟨e.2.sec.toArray⟩)
  c3 : w.cell? ⟨b, p + 3, none⟩ = some (.int .i64 e.2.frm)
  c4 : w.cell? ⟨b, p + 4, none⟩ = some (.int .i64 e.2.til)
  c5 : w.cell? ⟨b, p + 5, none⟩ = some (.int .i64 e.2.rev)
theorem RowK.older {w w' : World} {b p : Nat} {e : Int × KeyM} (h : RowK w b p e) (hb : Below w.heap.size w w') : RowK w' b p e :=
  ⟨keepC hb h.c0, keepC hb h.c1, keepC hb h.c2, keepC hb h.c3, keepC hb h.c4, keepC hb h.c5⟩
theorem RefAt.older {w w' : World} {B : Nat} {v : Value} {ml : KL} (h : RefAt w B v ml) (hb : Below w.heap.size w w') : RefAt w' B v ml := OwnWin.older h hb
theorem RefAt.slot {w : World} {B : Nat} {v : Value} {ml : KL} (h : RefAt w B v ml) : ∃ a c, v = .slice a ml.length c ∧ ∀ k e, ml[k]? = some e → ∃ b o, a = some ⟨b, o, none⟩ ∧ ml.length ≤ c ∧ b < w.heap.size ∧ RowK w b (o + k * 6) e := by
  obtain ⟨a, c, hv, hc⟩ := OwnWin.form h
  refine ⟨a, c, hv, fun k e he => ?_⟩
  have hk := (List.getElem?_eq_some_iff.1 he).1
  obtain ⟨b, o, c', e', h1, _, _, h4, h5⟩ := OwnWin.cells h (by omega)
  rw [hv] at e'
  cases e'
  have g : ∀ j u, (kcells e)[j]? = some u → w.cell? ⟨b, o + k * 6 + j, none⟩ = some u := fun j u hu => by
    rw [Nat.add_assoc]; exact h5 _ u (flatK_at kcells_len he hu)
  exact ⟨b, o, rfl, h1, h4, g 0 _ rfl, g 1 _ rfl, g 2 _ rfl, g 3 _ rfl, g 4 _ rfl, g 5 _ rfl⟩
def idxV : Option Nat → Value
  | none => .int .i64 (-1)
  | some i => .int .i64 (i : Int)
theorem findR_hit {ml : KL} {k : Nat} {t : Int} {id : Bs} {e : Int × KeyM} (he : ml[k]? = some e) (h : findR ml t id = (findR (ml.drop k) t id).map (· + k)) (hm : (e.1 == t && e.2.id == id) = true) : findR ml t id = some k := by
  obtain ⟨hk, hx⟩ := List.getElem?_eq_some_iff.1 he
  rw [h, drop_cons hk, hx]
  unfold findR
  rw [List.findIdx?_cons, hm]
  simp
theorem findR_miss {ml : KL} {k : Nat} {t : Int} {id : Bs} {e : Int × KeyM} (he : ml[k]? = some e) (h : findR ml t id = (findR (ml.drop k) t id).map (· + k)) (hm : (e.1 == t && e.2.id == id) = false) : findR ml t id = (findR (ml.drop (k + 1)) t id).map (· + (k + 1)) := by
  obtain ⟨hk, hx⟩ := List.getElem?_eq_some_iff.1 he
  rw [h, drop_cons hk, hx]
  unfold findR
  rw [List.findIdx?_cons, hm]
  simp only [Bool.false_eq_true, if_false, Option.map_map]
  congr 1
  funext x
  simp only [Function.comp]
  omega
theorem findR_end {ml : KL} {k : Nat} {t : Int} {id : Bs} (hk : ¬ k < ml.length) (h : findR ml t id = (findR (ml.drop k) t id).map (· + k)) : findR ml t id = none := by
  rw [h, List.drop_of_length_le (by omega)]; rfl
theorem refFind_any (B : Nat) (v : Value) (ml : KL) (t : Int) (id : Bs) (w : World) (h : RefAt w B v ml) (hl : ml.length ≤ 1000000) :
    Calls Tryz.prog 90 #[v, .int .i64 t, .string ⟨id.toArray⟩] w fun e w' => e = .returned (idxV (findR ml t id)) ∧ w = w' := by
  obtain ⟨a, c, rfl, hk⟩ := h.slot
  have HK := Lib.hid hk
  clear h hk
  go_enter Tryz.func90, Tryz.ntmps90
  go_wp2
  go_loop [10] (fun i => ∃ k : Nat, k ≤ ml.length ∧ i = .int .i64 k ∧ Hid (findR ml t id = (findR (ml.drop k) t id).map (· + k))) (fun i => ml.length - (intOf i).toNat)
  case atStart => exact ⟨0, Nat.zero_le _, rfl, Lib.hid (by simp)⟩
  case round =>
    obtain ⟨k, hk, rfl, H⟩ := hrel
    by_cases hlt : k < ml.length
    · obtain ⟨e, he⟩ : ∃ e, ml[k]? = some e := ⟨_, List.getElem?_eq_getElem hlt⟩
      obtain ⟨b, o, rfl, hc, hb, hrow⟩ := HK.out k e he
      have HF1 := Lib.hid (findR_hit he H.out)
      have HF2 := Lib.hid (findR_miss he H.out)
      have c0 := hrow.c0
      have c1 := hrow.c1
      clear he hrow
      obtain ⟨s, key⟩ := e
      simp only at c0 c1 HF1 HF2
      cases h1 : (s == t) with
      | false =>
        have HF := Lib.hid (HF2.out (by rw [h1]; rfl))
        go_wp2
        go_round
        case rel => exact ⟨k + 1, by omega, by go_num, Lib.hid HF.out⟩
        case measure => simp [intOf]; omega
      | true =>
        cases h2 : (key.id == id) with
        | true =>
          have HF := Lib.hid (HF1.out (by rw [h1, h2]; rfl))
          go_wp2
          go_ret
          exact ⟨by rw [HF.out]; rfl, rfl⟩
        | false =>
          have HF := Lib.hid (HF2.out (by rw [h1, h2]; rfl))
          go_wp2
          go_round
          case rel => exact ⟨k + 1, by omega, by go_num, Lib.hid HF.out⟩
          case measure => simp [intOf]; omega
    · have HF := Lib.hid (findR_end hlt H.out)
      go_wp2
      go_ret
      exact ⟨by rw [HF.out]; rfl, rfl⟩
theorem refvalid_any (t n : Int) (k : KeyM) (w : World) :
    Calls Tryz.prog 117 #[rkeyV t k, .int .i64 n] w fun r w' => r = .returned (.bool (k.at n)) ∧ Below w.heap.size w w' := by
  obtain ⟨id, sec, frm, til, rev⟩ := k
  have HV := Lib.hid (show KeyM.at ⟨id, sec, frm, til, rev⟩ n = (decide (frm ≤ n) && decide (n < til) && decide (n < rev)) from rfl)
  go_enter Tryz.func117, Tryz.ntmps117
  go_wp2
  all_goals
    go_ret
    exact ⟨ret_bool (by rw [HV.out, Bool.eq_iff_iff]; simp [*]; try omega), (Below.refl _ _).alloc (Nat.le_refl _) _⟩
def validR (ml : KL) (t : Int) (id : Bs) (n : Int) : Bool := match findR ml t id with
  | none => false
  | some i => match ml[i]? with
    | none => false
    | some e => e.2.at n
theorem refValid_any (B : Nat) (v : Value) (ml : KL) (t n : Int) (id : Bs) (w : World) (h : RefAt w B v ml) (hl : ml.length ≤ 1000000) :
    Calls Tryz.prog 91 #[v, .int .i64 t, .string ⟨id.toArray⟩, .int .i64 n] w fun e w' => e = .returned (.bool (validR ml t id n)) ∧ Below w.heap.size w w' := by
  have HR := Lib.hid h
  obtain ⟨a, c, rfl, hk⟩ := h.slot
  obtain ⟨o, ho⟩ : ∃ o, findR ml t id = o := ⟨_, rfl⟩
  have HO := Lib.hid ho
  cases o with
  | none =>
    have HV := Lib.hid (show validR ml t id n = false by unfold validR; rw [ho])
    have HI := Lib.hid (show idxV (findR ml t id) = .int .i64 (-1) by rw [ho]; rfl)
    clear ho h hk
    go_enter Tryz.func91, Tryz.ntmps91
    go_wp2_with (go_at_call 90; refine (refFind_any B _ ml t id _ HR.out hl).mono ?_; rw [HI.out]; rintro e w' ⟨rfl, rfl⟩)
    go_ret
    exact ⟨ret_bool HV.out.symm, Below.refl _ _⟩
  | some i =>
    obtain ⟨key, h1, _⟩ := findR_some ho
    have hi := (List.getElem?_eq_some_iff.1 h1).1
    have HV := Lib.hid (show validR ml t id n = key.at n by unfold validR; rw [ho]; simp only [h1])
    have HI := Lib.hid (show idxV (findR ml t id) = .int .i64 i by rw [ho]; rfl)
    obtain ⟨b, o, rfl, hc, hb, ⟨c0, c1, c2, c3, c4, c5⟩⟩ := hk i _ h1
    simp only at c0 c1 c2 c3 c4 c5
    clear ho h hk h1
    go_enter Tryz.func91, Tryz.ntmps91
    go_wp2_with (first | (go_at_call 90; refine (refFind_any B _ ml t id _ HR.out hl).mono ?_; rw [HI.out]; rintro e w' ⟨rfl, rfl⟩) | (go_at_call 117; refine (refvalid_any t n key _).mono ?_; rintro e w9 ⟨rfl, hb9⟩))
    go_ret
    exact ⟨ret_bool HV.out.symm, hb9⟩
end Kr
end Go.Proofs.YtpmhkkjecapbeaaGreatDoor
end

section
namespace Go.Proofs.YtpmhkkjecapbeaaGreatDoor
open Go.RowKit Pl Ad
attribute [local go_sem] ba_get ba_append ba_extract_end ba_extract_zero ba_extract conv_one
set_option maxRecDepth 100000
set_option maxHeartbeats 4000000
set_option linter.unusedVariables false
set_option linter.unusedSimpArgs false
namespace Kr
theorem RefAt.mono {w : World} {B C : Nat} {v : Value} {ml : KL} (h : RefAt w C v ml) (hB : B ≤ C) : RefAt w B v ml := OwnWin.mono h fun q hq => Nat.le_trans hB (OwnWin.lt h q hq).1
end Kr
end Go.Proofs.YtpmhkkjecapbeaaGreatDoor
end

section
namespace Go.Proofs.YtpmhkkjecapbeaaGreatDoor
open Go.RowKit Pl Ad
attribute [local go_sem] ba_get ba_append ba_extract_end ba_extract_zero ba_extract conv_one
set_option maxRecDepth 100000
set_option maxHeartbeats 4000000
set_option linter.unusedVariables false
set_option linter.unusedSimpArgs false
namespace Kr
theorem decDigits_le (n : Nat) : (Lib.decDigits n).length ≤ n + 1 := by
  induction n using Nat.strongRecOn with
  | _ n ih =>
    rw [Lib.decDigits]
    split
    · simp
    · rename_i h
      rw [List.length_append]
      have := ih (n / 10) (by omega)
      simp only [List.length_cons, List.length_nil]
      omega
theorem text09_any (n : Nat) : ∀ (w : World), n < 9223372036854775808 → Calls Tryz.prog 114 #[.int .i64 (n : Int)] w fun e w' => e = .returned (.string ⟨(Lib.decDigits n).toArray⟩) ∧ Below w.heap.size w w' := by
  induction n using Nat.strongRecOn with
  | _ n ih =>
    intro w hn
    by_cases h : n < 10
    · have HD := Lib.hid (show Lib.decDigits n = [UInt8.ofNat (48 + n % 10)] by rw [Lib.decDigits, dif_pos h, Nat.mod_eq_of_lt h])
      have h2 : (n : Int) < 10 := by omega
      have h3 : (0 : Int) ≤ (n : Int) := by omega
      clear ih
      go_enter Tryz.func114, Tryz.ntmps114
      go_wp2
      go_ret
      exact ⟨ret_str HD.out.symm, (Below.refl _ _).alloc (Nat.le_refl _) _⟩
    · have HD := Lib.hid (show Lib.decDigits n = Lib.decDigits (n / 10) ++ [UInt8.ofNat (48 + n % 10)] by rw [Lib.decDigits, dif_neg h])
      have h2 : ¬ (n : Int) < 10 := by omega
      have h3 : (0 : Int) ≤ (n : Int) := by omega
      have hdl := decDigits_le (n / 10)
      have hdm : n / 10 + 1 ≤ 922337203685477582 := by omega
      obtain ⟨dd, hdd⟩ : ∃ dd, Lib.decDigits (n / 10) = dd := ⟨_, rfl⟩
      have HDD := Lib.hid hdd
      rw [hdd] at hdl
      have hdl2 : dd.length ≤ 922337203685477582 := by omega
      have HI := Lib.hid (fun w1 => ih (n / 10) (by omega) w1 (by omega))
      have HQ : Hid (((n / 10 : Nat) : Int) = (n : Int) / 10) := Lib.hid (by omega)
      clear ih hdd hdl hdm h
      go_enter Tryz.func114, Tryz.ntmps114
      go_wp2_with (go_at_call 114; rw [← HQ.out]; refine (HI.out _).mono ?_; rw [HDD.out]; rintro e w2 ⟨rfl, hb2⟩)
      go_ret
      exact ⟨ret_str (by rw [HD.out, HDD.out]; simp [UInt8.ofNat_add]), ((Below.refl _ _).alloc (Nat.le_refl _) _).trans (hb2.mono (by simp))⟩
end Kr
end Go.Proofs.YtpmhkkjecapbeaaGreatDoor
end

section
namespace Go.Proofs.YtpmhkkjecapbeaaGreatDoor
open Go.RowKit Pl Ad
attribute [local go_sem] ba_get ba_append ba_extract_end ba_extract_zero ba_extract
set_option maxRecDepth 100000
set_option maxHeartbeats 4000000
set_option linter.unusedVariables false
set_option linter.unusedSimpArgs false
namespace Kr
theorem bvals_set (l : Bs) (k : Nat) (x : UInt8) : (bvals l).toArray.setIfInBounds k (.int .u8 (x.toNat : Int)) = (bvals (l.set k x)).toArray := by
  simp [bvals]
end Kr
end Go.Proofs.YtpmhkkjecapbeaaGreatDoor
end

section
namespace Go.Proofs.YtpmhkkjecapbeaaGreatDoor
open Go.RowKit Pl Ad
set_option maxRecDepth 100000
set_option maxHeartbeats 4000000
set_option linter.unusedVariables false
set_option linter.unusedSimpArgs false
namespace Dg
open Kr
theorem dsum_any (a : Option Addr) (c : Nat) (m : Bs) (w : World) (h : SrcAt w (.slice a m.length c) m.length (bvals m)) (hc : ConstAt w) (hm : m.length ≤ 1073741824) :
    Calls Tryz.prog 75 #[.slice a m.length c] w fun e w' => ∃ ua uc, e = .returned (.slice ua 32 uc) ∧ OwnWin w' w.heap.size 5 1 (.slice ua 32 uc) 32 (bvals (sumM mixM m)) ∧ Below w.heap.size w w' := by
  have hg := hc.lt
  have hb0 := (Below.refl w.heap.size w).alloc (Nat.le_refl _) (.cells (hashC initS (.slice none 0 0) 0) 174)
  have HB0 := Lib.hid hb0
  have HC0 := Lib.hid (hc.below hb0)
  have HS := Lib.hid (show ∀ x, SrcAt ((w.alloc (.cells (hashC initS (.slice none 0 0) 0) 174)).setCell ⟨w.heap.size, 9, none⟩ x) (.slice a m.length c) m.length (bvals m) from fun x => h.older (hb0.setCell (p := ⟨w.heap.size, 9, none⟩) (Nat.le_refl _) x))
  have HSUM := Lib.hid (show outM (runL mixM (runL mixM initS ([] ++ m)).1 ((runL mixM initS ([] ++ m)).2 ++ tailM (0 + m.length))).1 = sumM mixM m by
    rw [List.nil_append, Nat.zero_add, ← runL_append _ _ _ _ (Nat.le_refl _)]; rfl)
  have HLEN := Lib.hid (show (runL mixM initS ([] ++ m)).2.length = (0 + m.length) % 64 by rw [List.nil_append, Nat.zero_add]; exact runL_rest _ _ _ (Nat.le_refl _))
  clear h hc hb0
  go_enter Tryz.func75, Tryz.ntmps75
  go_wp2_with (first
    | (go_at_call 72; refine (hashNew_any _).mono ?_; rintro e w1 ⟨rfl, rfl⟩)
    | (go_at_call 73; refine (write_any w.heap.size w.heap.size initS (.slice none 0 0) (.slice a m.length c) [] m 0 _ (hashAt_new w) HB0.out.size hg HS.out ⟨a, c, rfl⟩ HC0.out (by simp) hm (by omega)).mono ?_; rintro e w2 ⟨rfl, v2, hh2, hb2⟩; have HH2 := Lib.hid hh2; have HB2 := Lib.hid (HB0.out.trans hb2); have HC2 := Lib.hid (HC0.out.belowB hb2 hg); clear hh2 hb2)
    | (go_at_call 76; refine (hsum_any w.heap.size w.heap.size _ v2 _ (0 + m.length) _ HH2.out HC2.out HLEN.out (by omega)).mono ?_; rw [HSUM.out]; rintro e w3 ⟨ua, uc, rfl, hu3, hb3⟩))
  go_ret
  exact ⟨ua, uc, rfl, hu3.mono (fun k hk => by have := (hu3.lt k hk).1; have := HB2.out.size; omega), HB2.out.trans (hb3.mono HB2.out.size)⟩
/-- The first k bytes are changed. -/
def xorK (p : Bs) (x : UInt8) (k : Nat) : Bs := (p.map (· ^^^ x)).take k ++ p.drop k
theorem xorK_len (p : Bs) (x : UInt8) (k : Nat) (h : k ≤ p.length) : (xorK p x k).length = p.length := by
  unfold xorK; rw [List.length_append, List.length_take, List.length_map, List.length_drop]; omega
theorem xorK_at (p : Bs) (x : UInt8) {k : Nat} (h : k < p.length) : (xorK p x k)[k]? = some p[k] := by
  unfold xorK
  rw [List.getElem?_append_right (by rw [List.length_take, List.length_map]; omega), List.length_take, List.length_map, show k - min k p.length = 0 by omega, List.getElem?_drop, Nat.add_zero, List.getElem?_eq_getElem h]
theorem xorK_set (p : Bs) (x : UInt8) {k : Nat} (h : k < p.length) : (xorK p x k).set k (p[k] ^^^ x) = xorK p x (k + 1) := by
  unfold xorK
  have hl : ((p.map (· ^^^ x)).take k).length = k := by rw [List.length_take, List.length_map]; omega
  rw [List.set_append_right _ _ (by omega), hl, Nat.sub_self, List.drop_eq_getElem_cons h, List.set_cons_zero, take_snoc (show k < (p.map (· ^^^ x)).length by rw [List.length_map]; exact h)]
  simp
theorem xorK_all (p : Bs) (x : UInt8) : xorK p x p.length = p.map (· ^^^ x) := by unfold xorK; rw [List.take_of_length_le (by simp), List.drop_length, List.append_nil]
theorem xorI (x : UInt8) (hx : x = 54 ∨ x = 92) (b : UInt8) : bits .xor .u8 (b.toNat : Int) (x.toNat : Int) = ((b ^^^ x).toNat : Int) := by
  have h1 : ∀ d : Fin 256, bits .xor .u8 (d.val : Int) 54 = ((UInt8.ofNat d.val ^^^ 54).toNat : Int) := by decide +kernel
  have h2 : ∀ d : Fin 256, bits .xor .u8 (d.val : Int) 92 = ((UInt8.ofNat d.val ^^^ 92).toNat : Int) := by decide +kernel
  rcases hx with rfl | rfl
  · have := h1 ⟨b.toNat, b.toNat_lt⟩
    simpa using this
  · have := h2 ⟨b.toNat, b.toNat_lt⟩
    simpa using this
theorem srcPos {w : World} {a : Option Addr} {n c : Nat} {xs : List Value} (h : SrcAt w (.slice a n c) n xs) (hp : 0 < xs.length) : ∃ ad, a = some ad ∧ ∀ j v, xs[j]? = some v → w.cell? (ad.add j) = some v := by
  rcases h with ⟨_, _, rfl⟩ | ⟨ad, c', h1, h2⟩
  · simp at hp
  · cases h1
    exact ⟨ad, rfl, h2⟩
theorem splice_pad (k : Bs) (hk : k.length ≤ 64) : splice (bvals (List.replicate 64 0)) 0 (bvals k) = bvals (k ++ List.replicate (64 - k.length) 0) := by
  unfold splice
  rw [List.take_zero, List.nil_append, Nat.zero_add, bvals_len, bvals_drop, bvals_append, List.drop_replicate]
theorem padded_short (a : Option Addr) (c : Nat) (key : Bs) (x : UInt8) (hx : x = 54 ∨ x = 92) (w : World) (h : SrcAt w (.slice a key.length c) key.length (bvals key)) (hc : ConstAt w) (hm : key.length ≤ 1073741824) (hs : key.length ≤ 64) :
    Calls Tryz.prog 74 #[.slice a key.length c, .int .u8 (x.toNat : Int)] w fun e w' => ∃ ua uc, e = .returned (.slice ua 64 uc) ∧ OwnWin w' w.heap.size 5 1 (.slice ua 64 uc) 64 (bvals (padK (keyM mixM key) x)) ∧ Below w.heap.size w w' := by
  have hmk : ∀ w, (Instr.makeSlice 45 (.int .i64 64) (.int .i64 64)).run Tryz.prog w = .ok (.slice (some ⟨w.heap.size, 0, none⟩) 64 64) (w.alloc (.cells (bvals (List.replicate 64 0)).toArray 5)) := fun _ => by kernel_rfl
  have HC := Lib.hid hc
  have HS := Lib.hid h
  have HKEY := Lib.hid (show keyM mixM key = key by unfold keyM; rw [if_neg (by omega)])
  have HKL := Lib.hid hs
  have HN := Lib.hid (show (bvals key).length = Nat.min key.length 64 by rw [bvals_len]; exact (Nat.min_eq_left hs).symm)
  have HF := Lib.hid (show 0 + (bvals key).length ≤ (bvals (List.replicate 64 0)).length by rw [bvals_len, bvals_len, List.length_replicate]; omega)
  have HB := Lib.hid (Below.refl w.heap.size w)
  have hsi : ¬ (64 : Int) < (key.length : Int) := by omega
  clear h hc
  go_enter Tryz.func74, Tryz.ntmps74
  go_wp2_with (first | (have hal := (Below.refl w.heap.size w).alloc (Nat.le_refl _) (.cells (bvals (List.replicate 64 0)).toArray 5); refine wpList_copy_splice rfl _ _ 45 45 rfl 5 Tryz.underlying45 (by kernel_rfl) (some ⟨w.heap.size, 0, none⟩) a 64 64 key.length c rfl rfl w.heap.size 0 (bvals (List.replicate 64 0)) 5 (heap_alloc_new w _) (bvals key) HN.out (fun hp => ⟨rfl, srcPos (HS.out.older hal) hp⟩) HF.out (bvals_one _) w.heap.size w (HB.out.alloc HB.out.size _) HB.out.size ?_; intro w2 hrow hb2; have HR2 := Lib.hid (show Bx w2 w.heap.size 5 (bvals (xorK (key ++ List.replicate (64 - key.length) 0) x 0)).toArray by have h9 := hrow.out; rw [splice_pad key HKL.out] at h9; exact h9); have HB2 := Lib.hid hb2; clear hrow hb2 hal))
  have HBX := Lib.hid (HB.out.size)
  go_wp2_with fail
  obtain ⟨P, hP⟩ : ∃ P, key ++ List.replicate (64 - key.length) 0 = P := ⟨_, rfl⟩
  have hPl : P.length = 64 := by rw [← hP, List.length_append, List.length_replicate]; have := HKL.out; omega
  have HP := Lib.hid (show P.map (· ^^^ x) = padK (keyM mixM key) x by rw [← hP, HKEY.out]; rfl)
  rw [hP] at HR2
  clear hP
  obtain ⟨g, hg9⟩ : ∃ g, w.heap.size = g := ⟨_, rfl⟩
  have HG := Lib.hid (show w.heap.size ≤ g by have := HBX.out; omega)
  rw [hg9] at HR2
  rw [hg9]
  clear hg9
  go_loopg [18, 6] 64 (fun gq iv s6 wr => ∃ k : Nat, iv = .int .i64 k ∧ k ≤ 64 ∧ Hid (64 ≤ gq + k) ∧ Bx wr g 5 (bvals (xorK P x k)).toArray ∧ Below w.heap.size w wr)
  case atStart => exact ⟨0, rfl, Nat.zero_le _, Lib.hid (by omega), HR2.out, HB2.out⟩
  case round =>
    obtain ⟨k, rfl, hk, HQ, hbx, hbel⟩ := hrel
    clear HR2 HB2
    have HX := Lib.hid hbx
    have HB := Lib.hid hbel
    have hz := hbx.lt
    by_cases hlt : k < 64
    · obtain ⟨y, hy⟩ : ∃ y, P[k]? = some y := ⟨_, List.getElem?_eq_getElem (by omega)⟩
      have hyk : P[k]'(by omega) = y := by rw [List.getElem?_eq_getElem (by omega)] at hy; exact Option.some.inj hy
      have hc0 : wr.cell? ⟨g, k, none⟩ = some (.int .u8 (y.toNat : Int)) := hbx.cell (by have h9 := xorK_at P x (show k < P.length by omega); rw [hyk] at h9; simp [bvals, h9])
      have hf := hbx.frz k
      have HV := Lib.hid (xorI x hx y)
      have HST := Lib.hid (show (bvals (xorK P x k)).toArray.setIfInBounds k (.int .u8 ((y ^^^ x).toNat : Int)) = (bvals (xorK P x (k + 1))).toArray by rw [bvals_set, ← hyk, xorK_set P x (by omega)])
      have hk0 : (0 : Int) ≤ (k : Int) := by omega
      have hk1 : (k : Int) < 64 := by omega
      clear hbx hbel hy hyk
      go_wp2_with fail
      go_roundg (gk - 1)
      case rel =>
        refine ⟨k + 1, by go_num, by omega, Lib.hid (by have := HQ.out; omega), ?_, HB.out.setCell (p := ⟨g, k, none⟩) HG.out _⟩
        rw [HV.out, ← HST.out]
        exact HX.out.set k _
      case measure => have := HQ.out; omega
    · obtain rfl : k = 64 := by omega
      have HOWN := Lib.hid (show OwnWin wr w.heap.size 5 1 (.slice (some ⟨g, 0, none⟩) 64 64) 64 (bvals (padK (keyM mixM key) x)) from by
        have h9 : xorK P x 64 = padK (keyM mixM key) x := by rw [← HP.out, ← xorK_all, hPl]
        rw [← h9]
        have hl : (bvals (xorK P x 64)).length = 64 := by rw [bvals_len, xorK_len P x 64 (by omega), hPl]
        exact ⟨by rw [hl], .inr ⟨g, 0, 64, _, rfl, HG.out, HX.out, Nat.le_refl _, by unfold maxLen; omega, by simp [hl], by rw [List.drop_zero, Nat.mul_one, List.take_of_length_le (by simp [hl])]⟩⟩)
      clear hbx hbel
      go_wp2_with fail
      go_ret
      exact ⟨_, _, rfl, HOWN.out, HB.out⟩
theorem padded_long (a : Option Addr) (c : Nat) (key : Bs) (x : UInt8) (hx : x = 54 ∨ x = 92) (w : World) (h : SrcAt w (.slice a key.length c) key.length (bvals key)) (hc : ConstAt w) (hm : key.length ≤ 1073741824) (hs : 64 < key.length) :
    Calls Tryz.prog 74 #[.slice a key.length c, .int .u8 (x.toNat : Int)] w fun e w' => ∃ ua uc, e = .returned (.slice ua 64 uc) ∧ OwnWin w' w.heap.size 5 1 (.slice ua 64 uc) 64 (bvals (padK (keyM mixM key) x)) ∧ Below w.heap.size w w' := by
  have hmk : ∀ w, (Instr.makeSlice 45 (.int .i64 64) (.int .i64 64)).run Tryz.prog w = .ok (.slice (some ⟨w.heap.size, 0, none⟩) 64 64) (w.alloc (.cells (bvals (List.replicate 64 0)).toArray 5)) := fun _ => by kernel_rfl
  have HC := Lib.hid hc
  have HS := Lib.hid h
  have HKEY := Lib.hid (show keyM mixM key = sumM mixM key by unfold keyM; rw [if_pos hs])
  have HKL := Lib.hid (show (sumM mixM key).length ≤ 64 by rw [sumM_len]; omega)
  have HN := Lib.hid (show (bvals (sumM mixM key)).length = Nat.min (sumM mixM key).length 64 by rw [bvals_len]; exact (Nat.min_eq_left HKL.out).symm)
  have HF := Lib.hid (show 0 + (bvals (sumM mixM key)).length ≤ (bvals (List.replicate 64 0)).length by rw [bvals_len, bvals_len, List.length_replicate]; have := HKL.out; omega)
  have hsi : (64 : Int) < (key.length : Int) := by omega
  clear h hc
  go_enter Tryz.func74, Tryz.ntmps74
  go_wp2_with (first | (go_at_call 75; refine (dsum_any a c key _ HS.out HC.out hm).mono ?_; rintro e w1 ⟨ka, kc, rfl, hu1, hb1⟩; have HU1 := Lib.hid (SrcAt.of hu1); have HB1 := Lib.hid hb1; clear hu1 hb1) | (have hal := (Below.refl w1.heap.size w1).alloc (Nat.le_refl _) (.cells (bvals (List.replicate 64 0)).toArray 5); refine wpList_copy_splice rfl _ _ 45 45 rfl 5 Tryz.underlying45 (by kernel_rfl) (some ⟨w1.heap.size, 0, none⟩) ka 64 64 (sumM mixM key).length kc rfl rfl w1.heap.size 0 (bvals (List.replicate 64 0)) 5 (heap_alloc_new w1 _) (bvals (sumM mixM key)) HN.out (fun hp => ⟨rfl, srcPos (HU1.out.older hal) hp⟩) HF.out (bvals_one _) w.heap.size w (HB1.out.alloc HB1.out.size _) HB1.out.size ?_; intro w2 hrow hb2; have HR2 := Lib.hid (show Bx w2 w1.heap.size 5 (bvals (xorK ((sumM mixM key) ++ List.replicate (64 - (sumM mixM key).length) 0) x 0)).toArray by have h9 := hrow.out; rw [splice_pad (sumM mixM key) HKL.out] at h9; exact h9); have HB2 := Lib.hid hb2; clear hrow hb2 hal))
  have HBX := Lib.hid (HB1.out.size)
  go_wp2_with fail
  obtain ⟨P, hP⟩ : ∃ P, (sumM mixM key) ++ List.replicate (64 - (sumM mixM key).length) 0 = P := ⟨_, rfl⟩
  have hPl : P.length = 64 := by rw [← hP, List.length_append, List.length_replicate]; have := HKL.out; omega
  have HP := Lib.hid (show P.map (· ^^^ x) = padK (keyM mixM key) x by rw [← hP, HKEY.out]; rfl)
  rw [hP] at HR2
  clear hP
  obtain ⟨g, hg9⟩ : ∃ g, w1.heap.size = g := ⟨_, rfl⟩
  have HG := Lib.hid (show w.heap.size ≤ g by have := HBX.out; omega)
  rw [hg9] at HR2
  rw [hg9]
  clear hg9
  go_loopg [18, 6] 64 (fun gq iv s6 wr => ∃ k : Nat, iv = .int .i64 k ∧ k ≤ 64 ∧ Hid (64 ≤ gq + k) ∧ Bx wr g 5 (bvals (xorK P x k)).toArray ∧ Below w.heap.size w wr)
  case atStart => exact ⟨0, rfl, Nat.zero_le _, Lib.hid (by omega), HR2.out, HB2.out⟩
  case round =>
    obtain ⟨k, rfl, hk, HQ, hbx, hbel⟩ := hrel
    clear HR2 HB2
    have HX := Lib.hid hbx
    have HB := Lib.hid hbel
    have hz := hbx.lt
    by_cases hlt : k < 64
    · obtain ⟨y, hy⟩ : ∃ y, P[k]? = some y := ⟨_, List.getElem?_eq_getElem (by omega)⟩
      have hyk : P[k]'(by omega) = y := by rw [List.getElem?_eq_getElem (by omega)] at hy; exact Option.some.inj hy
      have hc0 : wr.cell? ⟨g, k, none⟩ = some (.int .u8 (y.toNat : Int)) := hbx.cell (by have h9 := xorK_at P x (show k < P.length by omega); rw [hyk] at h9; simp [bvals, h9])
      have hf := hbx.frz k
      have HV := Lib.hid (xorI x hx y)
      have HST := Lib.hid (show (bvals (xorK P x k)).toArray.setIfInBounds k (.int .u8 ((y ^^^ x).toNat : Int)) = (bvals (xorK P x (k + 1))).toArray by rw [bvals_set, ← hyk, xorK_set P x (by omega)])
      have hk0 : (0 : Int) ≤ (k : Int) := by omega
      have hk1 : (k : Int) < 64 := by omega
      clear hbx hbel hy hyk
      go_wp2_with fail
      go_roundg (gk - 1)
      case rel =>
        refine ⟨k + 1, by go_num, by omega, Lib.hid (by have := HQ.out; omega), ?_, HB.out.setCell (p := ⟨g, k, none⟩) HG.out _⟩
        rw [HV.out, ← HST.out]
        exact HX.out.set k _
      case measure => have := HQ.out; omega
    · obtain rfl : k = 64 := by omega
      have HOWN := Lib.hid (show OwnWin wr w.heap.size 5 1 (.slice (some ⟨g, 0, none⟩) 64 64) 64 (bvals (padK (keyM mixM key) x)) from by
        have h9 : xorK P x 64 = padK (keyM mixM key) x := by rw [← HP.out, ← xorK_all, hPl]
        rw [← h9]
        have hl : (bvals (xorK P x 64)).length = 64 := by rw [bvals_len, xorK_len P x 64 (by omega), hPl]
        exact ⟨by rw [hl], .inr ⟨g, 0, 64, _, rfl, HG.out, HX.out, Nat.le_refl _, by unfold maxLen; omega, by simp [hl], by rw [List.drop_zero, Nat.mul_one, List.take_of_length_le (by simp [hl])]⟩⟩)
      clear hbx hbel
      go_wp2_with fail
      go_ret
      exact ⟨_, _, rfl, HOWN.out, HB.out⟩
theorem padded_any (a : Option Addr) (c : Nat) (key : Bs) (x : UInt8) (hx : x = 54 ∨ x = 92) (w : World) (h : SrcAt w (.slice a key.length c) key.length (bvals key)) (hc : ConstAt w) (hm : key.length ≤ 1073741824) :
    Calls Tryz.prog 74 #[.slice a key.length c, .int .u8 (x.toNat : Int)] w fun e w' => ∃ ua uc, e = .returned (.slice ua 64 uc) ∧ OwnWin w' w.heap.size 5 1 (.slice ua 64 uc) 64 (bvals (padK (keyM mixM key) x)) ∧ Below w.heap.size w w' := by
  by_cases hs : key.length ≤ 64
  · exact padded_short a c key x hx w h hc hm hs
  · exact padded_long a c key x hx w h hc hm (by omega)
end Dg
end Go.Proofs.YtpmhkkjecapbeaaGreatDoor
end

