/- Contracts: Segments, Arg, the reference's Segments and Arg, and quaysidebase.Texts. Conditions: texts of at most 2^31 bytes. -/
import Derived.Test.YthbjpekgiiflkaaDoorAddrD
import Derived.Test.YthbjpekgiiflkaaDoorAddrM
import Derived.BigQuiet
namespace Go.Proofs.YthbjpekgiiflkaaDoor
open Go.RowKit Pl Ad
attribute [local go_sem] ba_get conv_one conv_one_drewN ba_append ba_extract_end ba_extract_zero ba_extract
set_option maxRecDepth 100000
set_option maxHeartbeats 4000000
set_option linter.unusedVariables false
namespace A1

/-- A value holds these strings. -/
def StrsV (w : World) (v : Value) (xs : List Bs) : Prop :=
  (xs = [] ∧ v = .slice none 0 0) ∨ ∃ b o c : Nat, v = .slice (some ⟨b, o, none⟩) xs.length c ∧ xs.length ≤ c ∧ b < w.heap.size ∧ CellsAt w b o xs
theorem StrsV.below {w w' : World} {v : Value} {xs : List Bs} (h : StrsV w v xs) (hb : Below w.heap.size w w') : StrsV w' v xs := by
  rcases h with h | ⟨b, o, c, h1, h2, h3, h4⟩
  · exact .inl h
  · exact .inr ⟨b, o, c, h1, h2, Nat.lt_of_lt_of_le h3 hb.size, h4.below hb h3⟩
theorem StrsV.drewN {w : World} {v : Value} {xs : List Bs} (h : StrsV w v xs) (q : Nat) : StrsV (w.drewN q) v xs :=
  h.below (below_drewN (Below.refl _ _) q)
theorem CellsAt.one {w : World} {b o k : Nat} {xs : List Bs} (h : CellsAt w b o xs) (hk : k < xs.length) : w.cell? ⟨b, o + k, none⟩ = some (.string ⟨(xs[k]).toArray⟩) := h k xs[k] (by simp [hk])
theorem StrsV.form {w : World} {v : Value} {xs : List Bs} (h : StrsV w v xs) : ∃ a c, v = .slice a xs.length c := by
  rcases h with ⟨rfl, rfl⟩ | ⟨b, o, c, rfl, _⟩
  · exact ⟨_, _, rfl⟩
  · exact ⟨_, _, rfl⟩
theorem segs_of_miss {l : Bs} (h : (cutAt 47 l).2.2 = false) : segs l = [] := by simp [segs, h]
theorem segs_of_hit {l : Bs} (h : (cutAt 47 l).2.2 = true) : segs l = splitOn 47 (cutAt 47 l).2.1 := by simp [segs, h]

theorem segments_any (l : Bs) (w : World) (hl : l.length ≤ 2147483648) (hr : Ready w) :
    Calls Tryd.prog 28 #[.string ⟨l.toArray⟩] w fun e w' => ∃ v, e = .returned v ∧ StrsV w' v (segs l) ∧ Below w.heap.size w w' := by
  have hc2 := cutAt_len 47 l
  cases hc : (cutAt 47 l).2.2 with
  | false =>
    have HC := Lib.hid hc
    have HS := Lib.hid (segs_of_miss hc)
    clear hc
    go_enter Tryd.func28, Tryd.ntmps28
    go_wp2_with fail
    refine (cut_any l 47 _ hl hr).mono ?_
    rintro e w1 ⟨rfl, hb1⟩
    rw [HC.out]
    go_wp2_with fail
    go_ret
    exact ⟨_, rfl, .inl ⟨HS.out, rfl⟩, hb1⟩
  | true =>
    have HC := Lib.hid hc
    have HS := Lib.hid (segs_of_hit hc)
    clear hc
    go_enter Tryd.func28, Tryd.ntmps28
    go_wp2_with fail
    refine (cut_any l 47 _ hl hr).mono ?_
    rintro e w1 ⟨rfl, hb1⟩
    rw [HC.out]
    go_wp2_with fail
    refine (split_any _ 47 _ (by omega) (hr.below hb1)).mono ?_
    rintro e w2 ⟨b, c, rfl, hcap, hwb, hbw, hcells, hb2⟩
    go_wp2_with fail
    go_ret
    exact ⟨.slice (some ⟨b, 0, none⟩) (splitOn 47 (cutAt 47 l).2.1).length c, rfl, .inr ⟨b, 0, c, by rw [HS.out], by rw [HS.out]; exact hcap, hbw, by rw [HS.out]; exact hcells⟩, hb1.trans (hb2.mono hb1.size)⟩

theorem refSegments_any (l : Bs) (w : World) (hl : l.length ≤ 2147483648) :
    Calls Tryd.prog 32 #[.string ⟨l.toArray⟩] w fun e w' => ∃ v, e = .returned v ∧ StrsV w' v (segs l) ∧ Below w.heap.size w w' := by
  have HS := Lib.hid (segs_split l)
  have HNE := Lib.hid (splitOn_ne_nil 47 l)
  have HLN := Lib.hid (splitOn_count 47 l)
  go_enter Tryd.func32, Tryd.ntmps32
  go_wp2_with fail
  refine (refCut_any l 47 _ hl).mono ?_
  rintro e w1 ⟨b, c, rfl, hcap, hwb, hbw, hcells, hb1⟩
  generalize hxs : splitOn 47 l = xs at hcells hcap
  have HXS := Lib.hid hxs
  clear hxs
  have hpos : 0 < xs.length := by rw [← HXS.out]; exact List.length_pos_iff.2 HNE.out
  have hln : xs.length ≤ l.length + 1 := by rw [← HXS.out]; exact HLN.out
  have hsl : (segs l).length = xs.length - 1 := by rw [← HS.out, HXS.out]; simp
  have hcs : CellsAt w1 b 1 (segs l) := by
    rw [← HS.out, HXS.out]
    intro j x hj
    have h9 := hcells (1 + j) x (by rw [Nat.add_comm]; simpa using hj)
    rw [Nat.zero_add] at h9
    exact h9
  have HSL := Lib.hid hsl
  clear hsl
  go_wp2_with fail
  · go_ret
    exact ⟨.slice (some ⟨b, 0, none⟩) (xs.length - 1) (1 - 1), rfl, .inr ⟨b, 0, 0, by rw [HSL.out], by rw [HSL.out]; omega, hbw, fun j x hj => by
      have h9 := (List.getElem?_eq_some_iff.1 hj).1
      rw [HSL.out] at h9; omega⟩, hb1⟩
  · go_ret
    exact ⟨.slice (some ⟨b, 1, none⟩) (xs.length - 1) (c - 1), rfl, .inr ⟨b, 1, c - 1, by rw [HSL.out], by rw [HSL.out]; omega, hbw, hcs⟩, hb1⟩

theorem argL_off (q n : Bs) : argL q n false = none := rfl
theorem argL_on (q n : Bs) : argL q n true = argFind n (splitOn 38 q) := rfl
theorem argFind_end {n : Bs} {xs : List Bs} {k : Nat} (h : argFind n xs = argFind n (xs.drop k)) (hk : xs.length ≤ k) : argFind n xs = none := by
  rw [h, List.drop_of_length_le hk]; rfl
/-- What a search yields. -/
def argV (r : Option Bs) : Value := .tuple #[.string ⟨(r.getD []).toArray⟩, .bool r.isSome]
theorem argV_none : argV none = .tuple #[.string ⟨#[]⟩, .bool false] := rfl
theorem argV_some (x : Bs) : argV (some x) = .tuple #[.string ⟨x.toArray⟩, .bool true] := rfl
theorem argIs_len {n x : Bs} (h : argIs n x = true) : n.length + 1 ≤ x.length := by
  simp only [argIs, List.isPrefixOf_iff_prefix] at h
  obtain ⟨t, rfl⟩ := h
  simp <;> omega

theorem arg_any (h p q n : Bs) (b : Bool) (w : World) (hq : q.length ≤ 2147483648) (hn : n.length ≤ 2147483648) (hr : Ready w) :
    Calls Tryd.prog 29 #[.agg #[.string ⟨h.toArray⟩, .string ⟨p.toArray⟩, .string ⟨q.toArray⟩, .bool b], .string ⟨n.toArray⟩] w fun e w' => e = .returned (argV (argL q n b)) ∧ Below w.heap.size w w' := by
  have hbz := (Below.refl w.heap.size w).alloc (Nat.le_refl _) (.cells #[.string ⟨h.toArray⟩, .string ⟨p.toArray⟩, .string ⟨q.toArray⟩, .bool b] 38)
  have HRD := Lib.hid (hr.below hbz)
  have HBZ := Lib.hid hbz
  clear hr hbz
  cases b
  · go_enter Tryd.func29, Tryd.ntmps29
    go_wp2_with fail
    go_ret2
    exact ⟨rfl, HBZ.out⟩
  · have HLN := Lib.hid (splitOn_count 38 q)
    have HA := Lib.hid (argL_on q n)
    go_enter Tryd.func29, Tryd.ntmps29
    go_wp2_with fail
    refine (split_any q 38 _ (by omega) HRD.out).mono ?_
    rintro e w1 ⟨bb, c, rfl, hcap, hwb, hbw, hcells, hb1⟩
    have HB1 := Lib.hid (HBZ.out.trans (hb1.mono (by simp)))
    clear hb1
    generalize hxs : splitOn 38 q = xs at hcells hcap
    have HXS := Lib.hid hxs
    clear hxs
    have hln : xs.length ≤ q.length + 1 := by rw [← HXS.out]; exact HLN.out
    go_wp2_with fail
    go_loop [15] (fun i => ∃ k : Nat, k ≤ xs.length ∧ i = .int .i64 k ∧ Hid (argFind n xs = argFind n (xs.drop k))) (fun i => xs.length - (intOf i).toNat)
    case atStart => exact ⟨0, Nat.zero_le _, rfl, rfl⟩
    case round =>
      obtain ⟨k, hk, rfl, H⟩ := hrel
      by_cases hlt : k < xs.length
      · have hc0 := hcells k xs[k] (by simp [hlt])
        rw [Nat.zero_add] at hc0
        have HD := Lib.hid (drop_cons hlt)
        generalize hx : xs[k] = x at hc0 HD
        clear hx
        cases ha : argIs n x with
        | true =>
          have HPP := Lib.hid (show Lib.hasPrefix x (n ++ [61]) = true from ha)
          have hnl := argIs_len ha
          have HF := Lib.hid (show argL q n true = some ((x.drop (n.length + 1)).take (x.length - (n.length + 1))) by rw [HA.out, HXS.out, H.out, HD.out, argFind_hit _ ha, List.take_of_length_le (by simp)])
          clear ha
          have z1 : ((n.length : Int) + 1).toNat = n.length + 1 := by omega
          go_wp2_with (go_at_call 47; refine (hasPrefix_any _ _ _).mono ?_; rintro e w' ⟨rfl, rfl⟩; rw [HPP.out])
          go_ret2
          exact ⟨by rw [HF.out]; rfl, HB1.out⟩
        | false =>
          have HPP := Lib.hid (show Lib.hasPrefix x (n ++ [61]) = false from ha)
          have HF := Lib.hid (argFind_miss (xs.drop (k + 1)) ha)
          clear ha
          go_wp2_with (go_at_call 47; refine (hasPrefix_any _ _ _).mono ?_; rintro e w' ⟨rfl, rfl⟩; rw [HPP.out])
          go_round
          case rel => exact ⟨k + 1, by omega, by go_num, by show argFind _ _ = _; rw [H.out, HD.out, HF.out]⟩
          case measure => simp [intOf]; omega
      · have HF := Lib.hid (show argL q n true = none by rw [HA.out, HXS.out]; exact argFind_end H.out (by omega))
        go_wp2_with fail
        go_ret2
        exact ⟨by rw [HF.out]; rfl, HB1.out⟩

theorem refArg_any (h p q n : Bs) (b : Bool) (w : World) (hq : q.length ≤ 2147483648) (hn : n.length ≤ 2147483648) :
    Calls Tryd.prog 30 #[.agg #[.string ⟨h.toArray⟩, .string ⟨p.toArray⟩, .string ⟨q.toArray⟩, .bool b], .string ⟨n.toArray⟩] w fun e w' => e = .returned (argV (argL q n b)) ∧ Below w.heap.size w w' := by
  have HBZ := Lib.hid ((Below.refl w.heap.size w).alloc (Nat.le_refl _) (.cells #[.string ⟨h.toArray⟩, .string ⟨p.toArray⟩, .string ⟨q.toArray⟩, .bool b] 43))
  cases b
  · go_enter Tryd.func30, Tryd.ntmps30
    go_wp2_with fail
    go_ret2
    exact ⟨rfl, HBZ.out⟩
  · have HLN := Lib.hid (splitOn_count 38 q)
    have HA := Lib.hid (argL_on q n)
    go_enter Tryd.func30, Tryd.ntmps30
    go_wp2_with fail
    refine (refCut_any q 38 _ (by omega)).mono ?_
    rintro e w1 ⟨bb, c, rfl, hcap, hwb, hbw, hcells, hb1⟩
    have HB1 := Lib.hid (HBZ.out.trans (hb1.mono (by simp)))
    clear hb1
    generalize hxs : splitOn 38 q = xs at hcells hcap
    have HXS := Lib.hid hxs
    clear hxs
    have hln : xs.length ≤ q.length + 1 := by rw [← HXS.out]; exact HLN.out
    go_wp2_with fail
    go_loop [16] (fun i => ∃ k : Nat, k ≤ xs.length ∧ i = .int .i64 k ∧ Hid (argFind n xs = argFind n (xs.drop k))) (fun i => xs.length - (intOf i).toNat)
    case atStart => exact ⟨0, Nat.zero_le _, rfl, rfl⟩
    case round =>
      obtain ⟨k, hk, rfl, H⟩ := hrel
      by_cases hlt : k < xs.length
      · have hc0 := hcells k xs[k] (by simp [hlt])
        rw [Nat.zero_add] at hc0
        have HD := Lib.hid (drop_cons hlt)
        generalize hx : xs[k] = x at hc0 HD
        clear hx
        have HT := Lib.hid (argIs_take n x)
        cases ha : argIs n x with
        | true =>
          have hnl := argIs_len ha
          have HF := Lib.hid (show argL q n true = some ((x.drop (n.length + 1)).take (x.length - (n.length + 1))) by rw [HA.out, HXS.out, H.out, HD.out, argFind_hit _ ha, List.take_of_length_le (by simp)])
          have h4 := HT.out
          rw [ha] at h4
          simp only [Bool.true_eq, Bool.and_eq_true, decide_eq_true_eq, List.getD_eq_getElem?_getD] at h4
          obtain ⟨⟨h5, h6⟩, h7⟩ := h4
          have h8 : (x[n.length].toNat : Int) = 61 := by
            rw [List.getElem?_eq_getElem h5] at h7
            simp at h7; rw [h7]; rfl
          have hb8 : ((x[n.length].toNat : Int) == 61) = true := beq_iff_eq.2 h8
          clear ha h7 h8
          have z1 : ((n.length : Int) + 1).toNat = n.length + 1 := by omega
          go_wp2_with fail
          go_ret2
          exact ⟨by rw [HF.out]; rfl, HB1.out⟩
        | false =>
          have HF := Lib.hid (argFind_miss (xs.drop (k + 1)) ha)
          have h4 := HT.out
          rw [ha] at h4
          clear ha
          by_cases h5 : n.length < x.length
          · by_cases h6 : (x.take n.length == n) = true
            · have hb8 : ((x[n.length].toNat : Int) == 61) = false := by
                rw [h6] at h4
                simp only [Bool.false_eq, Bool.and_true, Bool.and_eq_false_iff, decide_eq_false_iff_not, List.getD_eq_getElem?_getD, List.getElem?_eq_getElem h5, Option.getD_some] at h4
                refine beq_eq_false_iff_ne.2 fun h9 => ?_
                rcases h4 with h4 | h4
                · exact h4 h5
                · exact h4 (UInt8.toNat_inj.1 (show x[n.length].toNat = 61 by omega))
              clear h4
              go_wp2_with fail
              go_round
              case rel => exact ⟨k + 1, by omega, by go_num, by show argFind _ _ = _; rw [H.out, HD.out, HF.out]⟩
              case measure => simp [intOf]; omega
            · have h6' : (x.take n.length == n) = false := by simpa using h6
              clear h4 h6
              go_wp2_with fail
              go_round
              case rel => exact ⟨k + 1, by omega, by go_num, by show argFind _ _ = _; rw [H.out, HD.out, HF.out]⟩
              case measure => simp [intOf]; omega
          · clear h4
            go_wp2_with fail
            go_round
            case rel => exact ⟨k + 1, by omega, by go_num, by show argFind _ _ = _; rw [H.out, HD.out, HF.out]⟩
            case measure => simp [intOf]; omega
      · have HF := Lib.hid (show argL q n true = none by rw [HA.out, HXS.out]; exact argFind_end H.out (by omega))
        go_wp2_with fail
        go_ret2
        exact ⟨by rw [HF.out]; rfl, HB1.out⟩

theorem texts_any (xs ys : List Bs) (v u : Value) (w : World) (hv : StrsV w v xs) (hu : StrsV w u ys) (hx : xs.length ≤ 4294967296) (hy : ys.length ≤ 4294967296) :
    Calls Tryd.prog 31 #[v, u] w fun e w' => e = .returned (.bool (decide (xs = ys))) ∧ Below w.heap.size w w' := by
  by_cases hl : xs.length = ys.length
  · by_cases h0 : xs.length = 0
    · obtain rfl : xs = [] := List.eq_nil_of_length_eq_zero h0
      obtain rfl : ys = [] := List.eq_nil_of_length_eq_zero hl.symm
      obtain ⟨a1, c1, rfl⟩ := hv.form
      obtain ⟨a2, c2, rfl⟩ := hu.form
      clear hv hu hl h0
      go_enter Tryd.func31, Tryd.ntmps31
      go_wp2
      go_loop [13] (fun i => i = .int .i64 0) (fun _ => 0)
      case atStart => rfl
      case round =>
        subst hrel
        go_wp2
        go_ret
        exact ⟨rfl, Below.refl _ _⟩
    · rcases hv with ⟨rfl, rfl⟩ | ⟨b1, o1, c1, rfl, hc1, hb1, ha1⟩
      · exact absurd rfl h0
      rcases hu with ⟨rfl, rfl⟩ | ⟨b2, o2, c2, rfl, hc2, hb2, ha2⟩
      · exact absurd hl h0
      have hle : ((xs.length : Int) == (ys.length : Int)) = true := beq_iff_eq.2 (by omega)
      go_enter Tryd.func31, Tryd.ntmps31
      go_wp2
      go_loopw [13] (fun i wr => ∃ (k q : Nat), k ≤ xs.length ∧ i = .int .i64 k ∧ wr = w.drewN q ∧ Hid (decide (xs = ys) = decide (xs.drop k = ys.drop k))) (fun i _ => xs.length - (intOf i).toNat)
      case atStart => exact ⟨0, 0, Nat.zero_le _, rfl, rfl, rfl⟩
      case round =>
        obtain ⟨k, q, hk, rfl, rfl, H⟩ := hrel
        by_cases hlt : k < xs.length
        · have hlt2 : k < ys.length := by omega
          have h1 := CellsAt.one ha1 hlt
          have h2 := CellsAt.one ha2 hlt2
          have HD := Lib.hid (drop_cons hlt)
          have HD2 := Lib.hid (drop_cons hlt2)
          generalize xs[k] = x at h1 HD
          generalize ys[k] = y at h2 HD2
          by_cases he : x = y
          · subst he
            go_wp2
            go_quiet (fail)
            go_wp2
            go_roundw
            case rel => exact ⟨k + 1, _, by omega, by go_num, rfl, by show decide _ = _; rw [H.out, HD.out, HD2.out]; simp⟩
            case measure => simp [intOf]; omega
          · have he2 : (x == y) = false := by simpa using he
            have HF := Lib.hid he
            clear he
            go_wp2
            go_quiet (fail)
            go_wp2
            go_ret
            exact ⟨ret_bool (by rw [H.out, HD.out, HD2.out]; simp [HF.out]), below_drewN (below_drewN (Below.refl _ _) _) _⟩
        · go_wp2
          go_ret
          exact ⟨ret_bool (by rw [H.out, List.drop_of_length_le (by omega), List.drop_of_length_le (by omega)]; simp), below_drewN (Below.refl _ _) _⟩
  · have hne : ¬ xs = ys := fun h => hl (by rw [h])
    have hle : ((xs.length : Int) == (ys.length : Int)) = false := beq_eq_false_iff_ne.2 (by omega)
    obtain ⟨a1, c1, rfl⟩ := hv.form
    obtain ⟨a2, c2, rfl⟩ := hu.form
    clear hv hu hl
    have HN := Lib.hid hne
    clear hne
    go_enter Tryd.func31, Tryd.ntmps31
    go_wp2
    go_ret
    exact ⟨ret_bool (by simp [HN.out]), Below.refl _ _⟩
end A1
end Go.Proofs.YthbjpekgiiflkaaDoor
