/- Contracts and plain facts that the statement's proof leans on (texts joined). No condition beyond those that each names. -/
import Derived.Deep.RegionHeld3
import Derived.OrdersHeld
import Derived.Deep.LoopGhost
import Derived.BigQuiet
import Derived.Test.YtpkhbhdidkkebaaGreatDoorPvK
import Derived.Test.YtpkhbhdidkkebaaGreatDoorPvU
section
namespace Go.Proofs.YtpkhbhdidkkebaaGreatDoor
open Go.RowKit Pl Ad Go.Shelf
attribute [local go_sem] ba_get ba_append ba_extract_end ba_extract_zero ba_extract conv_one
set_option maxRecDepth 100000
set_option maxHeartbeats 4000000
set_option linter.unusedVariables false
set_option linter.unusedSimpArgs false
namespace Sg
open Kr A1 Dg
theorem hex_at (n : Nat) (h : n < ([48, 49, 50, 51, 52, 53, 54, 55, 56, 57, 97, 98, 99, 100, 101, 102] : Bs).length) : ([48, 49, 50, 51, 52, 53, 54, 55, 56, 57, 97, 98, 99, 100, 101, 102] : Bs)[n] = hexDig.getD n 0 := by
 unfold hexDig
 rw [List.getD_eq_getElem?_getD, List.getElem?_eq_getElem h]; rfl
theorem hex_cut (n : Nat) (h : n < 16) : (([48, 49, 50, 51, 52, 53, 54, 55, 56, 57, 97, 98, 99, 100, 101, 102] : Bs).drop n).take 1 = [hexDig.getD n 0] := by
 have g : ∀ k : Fin 16, (([48, 49, 50, 51, 52, 53, 54, 55, 56, 57, 97, 98, 99, 100, 101, 102] : Bs).drop k.val).take 1 = [hexDig.getD k.val 0] := by decide +kernel
 exact g ⟨n, h⟩
theorem hex_take {l : Bs} {k : Nat} (hk : k < l.length) : hexL (l.take (k + 1)) = hexL (l.take k) ++ [hexDig.getD (l[k].toNat / 16) 0, hexDig.getD (l[k].toNat % 16) 0] := by
 rw [take_snoc hk, hexL_snoc]
theorem madeZ (m : Nat) : madeCells (Value.int .u8 0).cells (m * 1) = (bvals (List.replicate m 0)).toArray := by
 simp [madeCells, bvals, Value.cells]
 apply Array.ext
 ·simp
 ·intro i h1 h2
  simp [Nat.mod_one]
theorem wpList_make_room {w : World} {ops : Array Oper} {rest : List Oper} {o : Oper} {a : Act} {Q : Exit → Act → World → Prop} (hg : o.guard = none) (l c : Operand) (hop : o.op = Op.makeSlice 45 l c) (n : Nat) (N : Int)
    (hl : a.eval l = .int .i64 0) (hc : a.eval c = .int .i64 N) (hN : N = (n : Int)) (hn : n ≤ 1000000)
    (hK : wpList Tryz.prog ops Q rest (a.put o.dst (.slice (some ⟨w.heap.size, 0, none⟩) 0 n)) (w.alloc (.cells (bvals (List.replicate n 0)).toArray 5))) : wpList Tryz.prog ops Q (o :: rest) a w := by
 refine wpList_plain hg fun K hK' => ?_
 obtain ⟨i, h1, h2, h3, h4⟩ := info_parts (show (Tryz.prog.info? 5).map (fun i => (i.zero, i.size, i.bytes)) = some (some (.int .u8 0), 1, 1) by kernel_rfl)
 have hr := run_make (P := Tryz.prog) w 45 5 i (.int .u8 0) Tryz.underlying45 h1 h2 .i64 .i64 0 N (by omega) (by omega) (by rw [h4]; omega) (by omega)
 subst hN
 rw [h3] at hr
 simp only [Int.toNat_natCast, Int.toNat_zero] at hr
 rw [madeZ] at hr
 unfold Oper.wp
 simp [execOp, hop, hl, hc, hr, Result.andThen]
 exact hK' _ _ (by simpa using hK)
theorem conv_owned {w : World} {B n : Nat} {v : Value} (out : Bs) (h : OwnWin w B 5 1 v n (bvals out)) : (convert 45 9 v).run Tryz.prog w = .ok (.string ⟨out.toArray⟩) w := by
 have hn : n = out.length := by have := h.1; rw [bvals_len] at this; omega
 subst hn
 rcases h.2 with ⟨rfl, h0⟩ | ⟨g, o, cap, cur, rfl, _, hg, hnc, _, hsz, htake⟩
 ·have : out = [] := List.eq_nil_of_length_eq_zero h0
  subst this
  rw [run_convert_bytes_string w 45 9 5 none 0 0 Tryz.underlying45 Tryz.underlying5 Tryz.underlying9]
  rfl
 ·refine run_convert_bytes_back w 45 9 5 ⟨g, o, none⟩ cap out Tryz.underlying45 Tryz.underlying5 Tryz.underlying9 (fun j hj => ?_)
  obtain ⟨g', o', c', e', _, _, _, _, hc⟩ := h.cells (by omega)
  cases e'
  rw [Addr.add_lit]
  exact hc j (.int .u8 (out[j].toNat : Int)) (by simp [bvals, hj])
theorem own_room (w : World) (n : Nat) (hn : n ≤ 1000000) : OwnWin (w.alloc (.cells (bvals (List.replicate n 0)).toArray 5)) w.heap.size 5 1 (.slice (some ⟨w.heap.size, 0, none⟩) 0 n) 0 (bvals []) :=
 ⟨rfl, .inr ⟨w.heap.size, 0, n, _, rfl, Nat.le_refl _, heap_alloc_new w _, Nat.zero_le _, by unfold maxLen; omega, by simp [bvals], by simp [bvals]⟩⟩
theorem hex_any (a : Option Addr) (c : Nat) (l : Bs) (w : World) (h : SrcAt w (.slice a l.length c) l.length (bvals l)) (hl : l.length ≤ 64) :
 Calls Tryz.prog 22 #[.slice a l.length c] w fun e w' => e = .returned (.string ⟨(hexL l).toArray⟩) ∧ Below w.heap.size w w' := by
 have HMK : IntKind.i64.wrap (2 * (l.length : Int)) = ((2 * l.length : Nat) : Int) := by rw [IntKind.wrap_i64]; omega
 have HS := Lib.hid h
 have HO0 := Lib.hid (own_room w (2 * l.length) (by omega))
 have HB0 := Lib.hid ((Below.refl w.heap.size w).alloc (Nat.le_refl _) (.cells (bvals (List.replicate (2 * l.length) 0)).toArray 5))
 clear h
 go_enter Tryz.func22, Tryz.ntmps22
 go_wp2_with (refine wpList_make_room (by rfl) _ _ (by rfl) (2 * l.length) _ (by rfl) (by rfl) (by first | exact HMK | omega) (by omega) ?_)
 go_loopg [12, 3] l.length (fun gq iv sv wr => ∃ (k N : Nat) (ua : Option Addr) (uc : Nat), iv = .int .i64 k ∧ k ≤ l.length ∧ Hid (l.length ≤ gq + k) ∧ sv = .slice ua N uc ∧ Hid (N = 2 * k) ∧ OwnWin wr w.heap.size 5 1 (.slice ua N uc) N (bvals (hexL (l.take k))) ∧ Below w.heap.size w wr)
 case atStart => exact ⟨0, 0, some ⟨w.heap.size, 0, none⟩, 2 * l.length, rfl, Nat.zero_le _, Lib.hid (by omega), rfl, Lib.hid rfl, HO0.out, HB0.out⟩
 case round =>
  obtain ⟨k, N, ua, uc, rfl, hk, HQ, rfl, HN, hown, hbel⟩ := hrel
  clear HO0 HB0 HMK
  have HOW := Lib.hid hown
  have HBW := Lib.hid hbel
  have HSW := Lib.hid (HS.out.older hbel)
  have hNb : N ≤ 128 := by have := HN.out; omega
  clear hown hbel
  by_cases hlt : k < l.length
  ·obtain ⟨ad, had, hcell⟩ := srcPos HSW.out (show 0 < (bvals l).length by rw [bvals_len]; omega)
   have hc9 := hcell k (.int .u8 ((l[k].toNat : Nat) : Int)) (by simp [bvals, hlt])
   subst had
   have hz9 := World.block_lt_of_cell? wr _ hc9
   have HTK := Lib.hid (hex_take hlt)
   have hmb := byte_lt l[k]
   clear hcell
   obtain ⟨m, hm⟩ : ∃ m, l[k].toNat = m := ⟨_, rfl⟩
   rw [hm] at hc9 HTK hmb
   clear hm
   have q1 : (0 : Int) ≤ (m : Int) / 16 := by omega
   have q2 : (m : Int) / 16 < 16 := by omega
   have q3 : ((m : Int) / 16).toNat = m / 16 := by omega
   have q4 : (0 : Int) ≤ (m : Int) % 16 := by omega
   have q5 : (m : Int) % 16 < 16 := by omega
   have q6 : ((m : Int) % 16).toNat = m % 16 := by omega
   have q7 := and15 m (by omega)
   have e1 : m / 16 < ([48, 49, 50, 51, 52, 53, 54, 55, 56, 57, 97, 98, 99, 100, 101, 102] : Bs).length := by simp; omega
   have e2 : m % 16 < ([48, 49, 50, 51, 52, 53, 54, 55, 56, 57, 97, 98, 99, 100, 101, 102] : Bs).length := by simp; omega
   have HV := Lib.hid (show [Value.int .u8 (((([48, 49, 50, 51, 52, 53, 54, 55, 56, 57, 97, 98, 99, 100, 101, 102] : Bs)[m / 16]'e1).toNat : Nat) : Int), Value.int .u8 (((([48, 49, 50, 51, 52, 53, 54, 55, 56, 57, 97, 98, 99, 100, 101, 102] : Bs)[m % 16]'e2).toNat : Nat) : Int)] = bvals [hexDig.getD (m / 16) 0, hexDig.getD (m % 16) 0] by rw [hex_at _ e1, hex_at _ e2]; rfl)
   go_wp2_with fail
   have hbd : Below wr.heap.size wr (wr.drew.alloc (.cells #[.int .u8 (((([48, 49, 50, 51, 52, 53, 54, 55, 56, 57, 97, 98, 99, 100, 101, 102] : Bs)[m / 16]'e1).toNat : Nat) : Int), .int .u8 (((([48, 49, 50, 51, 52, 53, 54, 55, 56, 57, 97, 98, 99, 100, 101, 102] : Bs)[m % 16]'e2).toNat : Nat) : Int)] 5)) := ((Below.refl wr.heap.size wr).drew).alloc (Nat.le_refl _) _
   have HOA := Lib.hid (HOW.out.older hbd)
   have HBA := Lib.hid (HBW.out.trans (hbd.mono HBW.out.size))
   have HZA := Lib.hid HBA.out.size
   have HSR := Lib.hid (show SrcAt (wr.drew.alloc (.cells #[.int .u8 (((([48, 49, 50, 51, 52, 53, 54, 55, 56, 57, 97, 98, 99, 100, 101, 102] : Bs)[m / 16]'e1).toNat : Nat) : Int), .int .u8 (((([48, 49, 50, 51, 52, 53, 54, 55, 56, 57, 97, 98, 99, 100, 101, 102] : Bs)[m % 16]'e2).toNat : Nat) : Int)] 5)) (.slice (some ⟨wr.heap.size, 0, none⟩) 2 2) 2 [.int .u8 (((([48, 49, 50, 51, 52, 53, 54, 55, 56, 57, 97, 98, 99, 100, 101, 102] : Bs)[m / 16]'e1).toNat : Nat) : Int), .int .u8 (((([48, 49, 50, 51, 52, 53, 54, 55, 56, 57, 97, 98, 99, 100, 101, 102] : Bs)[m % 16]'e2).toNat : Nat) : Int)] from srcMany (heap_alloc_new wr.drew _))
   clear hbd
   refine wp_region_held_drew (S := fun _ => True) (by kernel_rfl) (by trivial) (fun hHeld => ?_)
   refine wpAnyH_take (i := 0) (v := ?_) (by simp only [List.getElem?_toArray, List.getElem?_cons_succ, List.getElem?_cons_zero]; rfl) (by kernel_rfl) (by kernel_rfl) (by kernel_rfl) (by intro _ _ _ h; exact h) (Or.inl ⟨by rfl, ?_⟩) (by assumption) ?_
   rotate_left
   focus (intro wT hT; (try dsimp only at hT); go_simp; try with_reducible rfl)
   try simp only [Act.put, List.setIfInBounds_toArray, List.set_cons_zero, List.set_cons_succ]
   refine wpAnyH_take (i := 1) (v := ?_) (by simp only [List.getElem?_toArray, List.getElem?_cons_succ, List.getElem?_cons_zero]; rfl) (by kernel_rfl) (by kernel_rfl) (by kernel_rfl) (by intro _ _ _ h; exact h) (Or.inl ⟨by rfl, ?_⟩) (by assumption) ?_
   rotate_left
   focus (intro wT hT; (try dsimp only at hT); go_simp; try with_reducible rfl)
   try simp only [Act.put, List.setIfInBounds_toArray, List.set_cons_zero, List.set_cons_succ]
   refine wpAnyH_take (i := 2) (v := ?_) (by simp only [List.getElem?_toArray, List.getElem?_cons_succ, List.getElem?_cons_zero]; rfl) (by kernel_rfl) (by kernel_rfl) (by kernel_rfl) (by intro _ _ _ h; exact h) (Or.inl ⟨by rfl, ?_⟩) (by assumption) ?_
   rotate_left
   focus (intro wT hT; (try dsimp only at hT); go_simp; try with_reducible rfl)
   try simp only [Act.put, List.setIfInBounds_toArray, List.set_cons_zero, List.set_cons_succ]
   refine wpAnyH_take (i := 3) (v := ?_) (by simp only [List.getElem?_toArray, List.getElem?_cons_succ, List.getElem?_cons_zero]; rfl) (by kernel_rfl) (by kernel_rfl) (by kernel_rfl) (by intro _ _ _ h; exact h) (Or.inl ⟨by rfl, ?_⟩) (by assumption) ?_
   rotate_left
   focus (intro wT hT; (try dsimp only at hT); go_simp; try with_reducible rfl)
   try simp only [Act.put, List.setIfInBounds_toArray, List.set_cons_zero, List.set_cons_succ]
   refine wpAnyH_take (i := 4) (v := ?_) (by simp only [List.getElem?_toArray, List.getElem?_cons_succ, List.getElem?_cons_zero]; rfl) (by kernel_rfl) (by kernel_rfl) (by kernel_rfl) (by intro _ _ _ h; exact h) (Or.inl ⟨by rfl, ?_⟩) (by assumption) ?_
   rotate_left
   focus (intro wT hT; (try dsimp only at hT); go_simp; try with_reducible rfl)
   try simp only [Act.put, List.setIfInBounds_toArray, List.set_cons_zero, List.set_cons_succ]
   refine wpAnyH_take (i := 5) (v := ?_) (by simp only [List.getElem?_toArray, List.getElem?_cons_succ, List.getElem?_cons_zero]; rfl) (by kernel_rfl) (by kernel_rfl) (by kernel_rfl) (by intro _ _ _ h; exact h) (Or.inl ⟨by rfl, ?_⟩) (by assumption) ?_
   rotate_left
   focus (intro wT hT; (try dsimp only at hT); go_simp; try with_reducible rfl)
   try simp only [Act.put, List.setIfInBounds_toArray, List.set_cons_zero, List.set_cons_succ]
   refine wpAnyH_take (i := 6) (v := ?_) (by simp only [List.getElem?_toArray, List.getElem?_cons_succ, List.getElem?_cons_zero]; rfl) (by kernel_rfl) (by kernel_rfl) (by kernel_rfl) (by intro _ _ _ h; exact h) (Or.inl ⟨by rfl, ?_⟩) (by assumption) ?_
   rotate_left
   focus (intro wT hT; (try dsimp only at hT); go_simp; try with_reducible rfl)
   try simp only [Act.put, List.setIfInBounds_toArray, List.set_cons_zero, List.set_cons_succ]
   refine wpAnyH_ready (rs := [7]) (by kernel_rfl) (by simp) (AllReadyH.cons (by simp only [List.getElem?_toArray, List.getElem?_cons_succ, List.getElem?_cons_zero]; rfl) (fun K hK => ?_) AllReadyH.nil)
   go_simp
   refine hK.out _ _ trivial (fun hHe2 => ?_)
   clear hK K
   try simp only [Act.put, List.setIfInBounds_toArray, List.set_cons_zero, List.set_cons_succ]
   refine wpAnyH_ready (rs := [8]) (by kernel_rfl) (by simp) (AllReadyH.cons (by simp only [List.getElem?_toArray, List.getElem?_cons_succ, List.getElem?_cons_zero]; rfl) (fun K hK => ?_) AllReadyH.nil)
   refine step_appw tyBytes (by rfl) _ _ (by rfl) w.heap.size (.slice ua N uc) N _ (by rfl) HOA.out HZA.out (.slice (some ⟨wr.heap.size, 0, none⟩) 2 2) 2 [.int .u8 (((([48, 49, 50, 51, 52, 53, 54, 55, 56, 57, 97, 98, 99, 100, 101, 102] : Bs)[m / 16]'e1).toNat : Nat) : Int), .int .u8 (((([48, 49, 50, 51, 52, 53, 54, 55, 56, 57, 97, 98, 99, 100, 101, 102] : Bs)[m % 16]'e2).toNat : Nat) : Int)] (by rfl) HSR.out (by rfl) (by simp [Value.oneCell']) (by omega) ?_
   intro v' w2 hown2 hgrow2 hlies2
   obtain ⟨ub, ud, rfl, hud⟩ := hown2.form
   have HBN := Lib.hid (belowK_grown HBA.out hgrow2 HZA.out (fun q hq => (HOA.out.lt q hq).1))
   refine hK.out _ _ trivial (fun hHe3 => ?_)
   clear hK K
   try simp only [Act.put, List.setIfInBounds_toArray, List.set_cons_zero, List.set_cons_succ]
   refine wpAnyH_take (i := 9) (v := ?_) (by simp only [List.getElem?_toArray, List.getElem?_cons_succ, List.getElem?_cons_zero]; rfl) (by kernel_rfl) (by kernel_rfl) (by kernel_rfl) (by intro _ _ _ h; exact h) (Or.inl ⟨by rfl, ?_⟩) (by assumption) ?_
   rotate_left
   focus (intro wT hT; (try dsimp only at hT); go_simp; try with_reducible rfl)
   try simp only [Act.put, List.setIfInBounds_toArray, List.set_cons_zero, List.set_cons_succ]
   refine wpAnyH_done (by kernel_rfl) ?_ _
   have HON := Lib.hid (show OwnWin w2 w.heap.size 5 1 (.slice ub (N + 2) ud) (N + 2) (bvals (hexL (l.take (k + 1)))) by rw [HTK.out, ← bvals_append, ← HV.out]; exact hown2)
   clear hown2 hgrow2 hlies2
   go_wp2_with fail
   go_roundg (gk - 1)
   case rel => exact ⟨k + 1, N + 2, ub, ud, by go_num, by omega, Lib.hid (by have := HQ.out; omega), rfl, Lib.hid (by have := HN.out; omega), HON.out, HBN.out⟩
   case measure => have := HQ.out; omega
  ·have HCV := Lib.hid (conv_owned (hexL (l.take k)) HOW.out)
   have hcv := HCV.out
   have HT := Lib.hid (show hexL (l.take k) = hexL l by rw [List.take_of_length_le (by omega)])
   go_wp2_with fail
   go_ret
   exact ⟨ret_str HT.out, HBW.out⟩
theorem rhex_any (a : Option Addr) (c : Nat) (l : Bs) (w : World) (h : SrcAt w (.slice a l.length c) l.length (bvals l)) (hl : l.length ≤ 64) :
 Calls Tryz.prog 99 #[.slice a l.length c] w fun e w' => e = .returned (.string ⟨(hexL l).toArray⟩) ∧ Below w.heap.size w w' := by
 have HS := Lib.hid h
 clear h
 go_enter Tryz.func99, Tryz.ntmps99
 go_wp2_with fail
 go_loopg [8, 3] l.length (fun gq iv sv wr => ∃ (k : Nat) (out : Bs), iv = .int .i64 k ∧ k ≤ l.length ∧ Hid (l.length ≤ gq + k) ∧ sv = .string ⟨out.toArray⟩ ∧ Hid (out = hexL (l.take k)) ∧ out.length ≤ 128 ∧ Below w.heap.size w wr)
 case atStart => exact ⟨0, [], rfl, Nat.zero_le _, Lib.hid (by omega), rfl, Lib.hid rfl, by simp, Below.refl _ _⟩
 case round =>
  obtain ⟨k, out, rfl, hk, HQ, rfl, HN, hol, hbel⟩ := hrel
  have HBW := Lib.hid hbel
  have HSW := Lib.hid (HS.out.older hbel)
  clear hbel
  by_cases hlt : k < l.length
  ·obtain ⟨ad, had, hcell⟩ := srcPos HSW.out (show 0 < (bvals l).length by rw [bvals_len]; omega)
   have hc9 := hcell k (.int .u8 ((l[k].toNat : Nat) : Int)) (by simp [bvals, hlt])
   subst had
   have hz9 := World.block_lt_of_cell? wr _ hc9
   have HTK := Lib.hid (hex_take hlt)
   have HLE := Lib.hid (show (hexL (l.take (k + 1))).length ≤ 128 by rw [hexL_len, List.length_take]; omega)
   have hmb := byte_lt l[k]
   clear hcell
   obtain ⟨m, hm⟩ : ∃ m, l[k].toNat = m := ⟨_, rfl⟩
   rw [hm] at hc9 HTK hmb
   clear hm
   have HC1 := Lib.hid (hex_cut (m / 16) (by omega))
   have HC2 := Lib.hid (hex_cut (m % 16) (by omega))
   have q3 : ((m : Int) / 16).toNat = m / 16 := by omega
   have q6 : ((m : Int) % 16).toNat = m % 16 := by omega
   have s1 : IntKind.u8.wrap ((m : Int) / 16 + 1) = (m : Int) / 16 + 1 := by rw [IntKind.wrap_u8]; omega
   have s2 : IntKind.u8.wrap ((m : Int) % 16 + 1) = (m : Int) % 16 + 1 := by rw [IntKind.wrap_u8]; omega
   have s3 : ((m : Int) / 16 + 1).toNat = m / 16 + 1 := by omega
   have s4 : ((m : Int) % 16 + 1).toNat = m % 16 + 1 := by omega
   go_wp2_with fail
   go_quiet (fail)
   go_wp2_with fail
   go_roundg (gk - 1)
   case rel => exact ⟨k + 1, hexL (l.take (k + 1)), by go_num, by omega, Lib.hid (by have := HQ.out; omega), by rw [HTK.out, ← HN.out, ← List.singleton_append (x := hexDig.getD (m / 16) 0), ← HC1.out, ← HC2.out], Lib.hid rfl, HLE.out, below_drewN HBW.out _⟩
   case measure => have := HQ.out; omega
  ·have HT := Lib.hid (show out = hexL l by rw [HN.out, List.take_of_length_le (by omega)])
   go_wp2_with fail
   go_ret
   exact ⟨ret_str HT.out, HBW.out⟩
end Sg
end Go.Proofs.YtpkhbhdidkkebaaGreatDoor
end

