/- Contracts: the reference of the keyring: Signing, Add, Revoke. Conditions: at most a million keys, texts of at most 2^31 bytes. -/
import Derived.Test.YtbpbopjlcidefaaDoorKeyR
namespace Go.Proofs.YtbpbopjlcidefaaDoor
open Go.RowKit Pl Ad
attribute [local go_sem] ba_get ba_append ba_extract_end ba_extract_zero ba_extract
set_option maxRecDepth 100000
set_option maxHeartbeats 4000000
set_option linter.unusedVariables false
set_option linter.unusedSimpArgs false
namespace Kr
theorem refSigning_any (B : Nat) (v : Value) (ml : KL) (t n : Int) (w : World) (h : RefAt w B v ml) (hl : ml.length ≤ 1000000) :
    Calls Tryd.prog 35 #[v, .int .i64 t, .int .i64 n] w fun e w' => e = .returned (idxV (signR ml t n)) ∧ Below w.heap.size w w' := by
  obtain ⟨a, c, rfl, hk⟩ := h.slot
  have HK := Lib.hid hk
  clear h hk
  go_enter Tryd.func35, Tryd.ntmps35
  go_wp2
  go_loopw [7, 11] (fun x i wr => ∃ k : Nat, k ≤ ml.length ∧ i = .int .i64 k ∧ x = idxV (pickR ml t n k) ∧ Below w.heap.size w wr) (fun _ i _ => ml.length - (intOf i).toNat)
  case atStart => exact ⟨0, Nat.zero_le _, rfl, rfl, Below.refl _ _⟩
  case round =>
    obtain ⟨k, hk, rfl, rfl, hb⟩ := hrel
    have HB := Lib.hid hb
    have hbz := hb.size
    by_cases hlt : k < ml.length
    · obtain ⟨e, he⟩ : ∃ e, ml[k]? = some e := ⟨_, List.getElem?_eq_getElem hlt⟩
      obtain ⟨b, o, rfl, hc, hbl, hrow⟩ := HK.out k e he
      have HE := Lib.hid he
      have HROW := Lib.hid (hrow.older hb)
      obtain ⟨c0, c1, c2, c3, c4, c5⟩ := hrow.older hb
      clear hb he hrow
      obtain ⟨s, key⟩ := e
      simp only at c0 c1 c2 c3 c4 c5
      cases h1 : (s == t) with
      | false =>
        have h1' : (s != t) = true := by simp [bne, h1]
        have HF := Lib.hid (show pickR ml t n (k + 1) = pickR ml t n k from pickI_not HE.out (by simp [h1]))
        go_wp2
        go_roundw
        case rel => exact ⟨k + 1, by omega, by go_num, by rw [HF.out], HB.out⟩
        case measure => simp [intOf]; omega
      | true =>
        have h1' : (s != t) = false := by simp [bne, h1]
        cases h2 : key.at n with
        | false =>
          have HAT := Lib.hid h2
          have HF := Lib.hid (show pickR ml t n (k + 1) = pickR ml t n k from pickI_not HE.out (by simp [h2]))
          clear h2
          go_wp2_with (go_at_call 43; refine (refvalid_any s n key _).mono ?_; rw [HAT.out]; rintro e w9 ⟨rfl, hb9⟩; have HB9 := Lib.hid (HB.out.trans (hb9.mono hbz)); clear hb9)
          go_roundw
          case rel => exact ⟨k + 1, by omega, by go_num, by rw [HF.out], HB9.out⟩
          case measure => simp [intOf]; omega
        | true =>
          have HAT := Lib.hid h2
          have HP : Hid (((s, key).1 == t && (s, key).2.at n) = true) := Lib.hid (by simp only [h1, h2]; rfl)
          obtain ⟨st, hs⟩ : ∃ st, pickR ml t n k = st := ⟨_, rfl⟩
          have HS := Lib.hid hs
          cases st with
          | none =>
            have HF := Lib.hid (show pickR ml t n (k + 1) = some k from pickI_first HE.out HP.out hs)
            rw [hs, show idxV none = .int .i64 (-1) from rfl]
            clear h2 hs
            go_wp2_with (go_at_call 43; refine (refvalid_any s n key _).mono ?_; rw [HAT.out]; rintro e w9 ⟨rfl, hb9⟩; have HB9 := Lib.hid (HB.out.trans (hb9.mono hbz)); clear hb9)
            go_quiet (fail)
            go_wp2
            go_roundw
            case rel => exact ⟨k + 1, by omega, by go_num, by rw [HF.out]; rfl, below_drewN HB9.out _⟩
            case measure => simp [intOf]; omega
          | some j =>
            obtain ⟨hjk, y, hy, _⟩ := pickI_lt hs
            have HY := Lib.hid hy
            obtain ⟨b', o', e', _, _, hrowy⟩ := HK.out j y hy
            cases e'
            have HROWY := Lib.hid (hrowy.older HB.out)
            obtain ⟨s2, key2⟩ := y
            rw [hs, show idxV (some j) = .int .i64 j from rfl]
            have HYES := Lib.hid (fun hb => (show pickR ml t n (k + 1) = some k from pickI_yes HE.out HP.out hs hy hb))
            have HNO := Lib.hid (fun hb => (show pickR ml t n (k + 1) = some j from pickI_no HE.out HP.out hs hy hb))
            have hj1 : (0 : Int) ≤ (j : Int) := by omega
            have hj2 : (j : Int) < (ml.length : Int) := by omega
            have hk1 : (0 : Int) ≤ (k : Int) := by omega
            have hk2 : (k : Int) < (ml.length : Int) := by omega
            have hj3 : decide ((j : Int) < 0) = false := decide_eq_false (by omega)
            clear h2 hs hy hrowy c0 c1 c2 c3 c4 c5
            have hrow9 := HROW.out
            obtain ⟨c0, c1, c2, c3, c4, c5⟩ := hrow9
            simp only at c0 c1 c2 c3 c4 c5
            cases g1 : decide (key2.frm < key.frm) with
            | true =>
              have HF := Lib.hid (HYES.out (by unfold betterK; simp only [g1]; rfl))
              go_wp2_with (go_at_call 43; refine (refvalid_any s n key _).mono ?_; rw [HAT.out]; rintro e w9 ⟨rfl, hb9⟩; have HB9 := Lib.hid (HB.out.trans (hb9.mono hbz)); obtain ⟨d0, d1, d2, d3, d4, d5⟩ := HROWY.out.older hb9; obtain ⟨x0, x1, x2, x3, x4, x5⟩ := HROW.out.older hb9; simp only at d0 d1 d2 d3 d4 d5 x0 x1 x2 x3 x4 x5; clear hb9 c0 c1 c2 c3 c4 c5)
              go_quiet (fail)
              go_wp2
              go_roundw
              case rel => exact ⟨k + 1, by omega, by go_num, by rw [HF.out]; rfl, below_drewN HB9.out _⟩
              case measure => simp [intOf]; omega
            | false =>
              cases g2 : (key.frm == key2.frm) with
              | true =>
                have HQ : Hid (betterK key key2 = Op.bytesLess key.id key2.id) := Lib.hid (by unfold betterK; rw [g1, decide_eq_true (beq_iff_eq.1 g2)]; rfl)
                cases g3 : Op.bytesLess key.id key2.id with
                | true =>
                  have HF := Lib.hid (HYES.out (by simp only; rw [HQ.out, g3]))
                  go_wp2_with (go_at_call 43; refine (refvalid_any s n key _).mono ?_; rw [HAT.out]; rintro e w9 ⟨rfl, hb9⟩; have HB9 := Lib.hid (HB.out.trans (hb9.mono hbz)); obtain ⟨d0, d1, d2, d3, d4, d5⟩ := HROWY.out.older hb9; obtain ⟨x0, x1, x2, x3, x4, x5⟩ := HROW.out.older hb9; simp only at d0 d1 d2 d3 d4 d5 x0 x1 x2 x3 x4 x5; clear hb9 c0 c1 c2 c3 c4 c5)
                  go_quiet (fail)
                  go_wp2
                  go_roundw
                  case rel => exact ⟨k + 1, by omega, by go_num, by rw [HF.out]; rfl, below_drewN HB9.out _⟩
                  case measure => simp [intOf]; omega
                | false =>
                  have HF := Lib.hid (HNO.out (by simp only; rw [HQ.out, g3]))
                  go_wp2_with (go_at_call 43; refine (refvalid_any s n key _).mono ?_; rw [HAT.out]; rintro e w9 ⟨rfl, hb9⟩; have HB9 := Lib.hid (HB.out.trans (hb9.mono hbz)); obtain ⟨d0, d1, d2, d3, d4, d5⟩ := HROWY.out.older hb9; obtain ⟨x0, x1, x2, x3, x4, x5⟩ := HROW.out.older hb9; simp only at d0 d1 d2 d3 d4 d5 x0 x1 x2 x3 x4 x5; clear hb9 c0 c1 c2 c3 c4 c5)
                  go_quiet (fail)
                  go_wp2
                  go_roundw
                  case rel => exact ⟨k + 1, by omega, by go_num, by rw [HF.out]; rfl, below_drewN HB9.out _⟩
                  case measure => simp [intOf]; omega
              | false =>
                have HF := Lib.hid (HNO.out (by simp only; unfold betterK; rw [g1, decide_eq_false (beq_eq_false_iff_ne.1 g2)]; rfl))
                go_wp2_with (go_at_call 43; refine (refvalid_any s n key _).mono ?_; rw [HAT.out]; rintro e w9 ⟨rfl, hb9⟩; have HB9 := Lib.hid (HB.out.trans (hb9.mono hbz)); obtain ⟨d0, d1, d2, d3, d4, d5⟩ := HROWY.out.older hb9; obtain ⟨x0, x1, x2, x3, x4, x5⟩ := HROW.out.older hb9; simp only at d0 d1 d2 d3 d4 d5 x0 x1 x2 x3 x4 x5; clear hb9 c0 c1 c2 c3 c4 c5)
                go_quiet (fail)
                go_wp2
                go_roundw
                case rel => exact ⟨k + 1, by omega, by go_num, by rw [HF.out]; rfl, below_drewN HB9.out _⟩
                case measure => simp [intOf]; omega
    · have HF := Lib.hid (show k = ml.length by omega)
      go_wp2
      go_ret
      exact ⟨by unfold signR; rw [HF.out]; rfl, HB.out⟩
theorem heapK_first (w : World) (o o' : Obj) : ((w.alloc o).alloc o').heap[w.heap.size]? = some o := (Below.heap_alloc (w.alloc o) o' _ (by simp)).trans (heap_alloc_new w o)
theorem heapK_next (w : World) (o o' : Obj) : ((w.alloc o).alloc o').heap[w.heap.size + 1]? = some o' := by
  have h := heap_alloc_new (w.alloc o) o'
  simpa using h
theorem tyRefs : SliceTy Tryd.prog 44 52 6 64 :=
  ⟨Tryd.underlying44, by
    obtain ⟨i, h1, h2, h3, h4⟩ := info_parts (show (Tryd.prog.info? 52).map (fun i => (i.zero, i.size, i.bytes)) = some (some (.agg #[.int .i64 0, .string ⟨#[]⟩, .string ⟨#[]⟩, .int .i64 0, .int .i64 0, .int .i64 0]), 6, 64) by kernel_rfl)
    exact ⟨i, _, h1, h2, h3, h4, rfl⟩, by decide, by decide⟩
theorem clipK_iff (x : Int) : x = clipK x ↔ 0 ≤ x ∧ x ≤ 1099511627776 := by unfold clipK; omega
theorem per_len (ml : KL) (t : Int) : (per ml t).length ≤ ml.length := by
  unfold per; rw [List.length_map]; exact List.length_filter_le _ _
theorem hasR (ml : KL) (t : Int) (id : Bs) : hasId (per ml t) id = (findR ml t id).isSome := by
  cases h : findR ml t id with
  | none => rw [findR_none h]; rfl
  | some i => obtain ⟨k, _, h2, _⟩ := findR_some h; rw [h2]; rfl
/-- What the reference's calls leave: the list at a value. -/
structure RefDone (w w' : World) (B : Nat) (v' : Value) (ml' : KL) : Prop where
  ref : RefAt w' B v' ml'
  bel : Below w.heap.size w w'
theorem refAdd_name (B : Nat) (a : Option Addr) (c : Nat) (ml : KL) (t : Int) (id sec : Bs) (frm til : Int) (w : World) (h : RefAt w B (.slice a ml.length c) ml) (hB : B ≤ w.heap.size) (hi : id.length ≤ 2147483648) (hl : ml.length ≤ 1000000) (hn : idOk id = false) :
    Calls Tryd.prog 17 #[.slice a ml.length c, rkeyV t ⟨id, sec, frm, til, 0⟩] w fun e w' => e = .returned (.tuple #[.slice a ml.length c, .int .i64 8]) ∧ Below w.heap.size w w' := by
  have HID := Lib.hid hn
  clear h hn
  go_enter Tryd.func17, Tryd.ntmps17
  go_wp2_with (go_at_call 31; refine (refID_any id _ hi).mono ?_; rw [HID.out]; rintro e w9 ⟨rfl, rfl⟩)
  go_ret2
  exact ⟨rfl, (Below.refl _ _).alloc (Nat.le_refl _) _⟩
theorem refAdd_rng (B : Nat) (a : Option Addr) (c : Nat) (ml : KL) (t : Int) (id sec : Bs) (frm til : Int) (w : World) (h : RefAt w B (.slice a ml.length c) ml) (hB : B ≤ w.heap.size) (hi : id.length ≤ 2147483648) (hl : ml.length ≤ 1000000) (hn : idOk id = true) (hg : rngK t ⟨id, sec, frm, til, 0⟩ = true) :
    Calls Tryd.prog 17 #[.slice a ml.length c, rkeyV t ⟨id, sec, frm, til, 0⟩] w fun e w' => e = .returned (.tuple #[.slice a ml.length c, .int .i64 1]) ∧ Below w.heap.size w w' := by
  have HID := Lib.hid hn
  have HG := Lib.hid hg
  clear h hn hg
  by_cases h0 : t < 0
  · clear HG
    go_enter Tryd.func17, Tryd.ntmps17
    go_wp2_with (go_at_call 31; refine (refID_any id _ hi).mono ?_; rw [HID.out]; rintro e w9 ⟨rfl, rfl⟩)
    go_ret2
    exact ⟨rfl, (Below.refl _ _).alloc (Nat.le_refl _) _⟩
  by_cases h1 : 16 ≤ t
  · clear HG
    go_enter Tryd.func17, Tryd.ntmps17
    go_wp2_with (go_at_call 31; refine (refID_any id _ hi).mono ?_; rw [HID.out]; rintro e w9 ⟨rfl, rfl⟩)
    go_ret2
    exact ⟨rfl, (Below.refl _ _).alloc (Nat.le_refl _) _⟩
  by_cases h2 : (sec.length : Int) < 16
  · clear HG
    go_enter Tryd.func17, Tryd.ntmps17
    go_wp2_with (go_at_call 31; refine (refID_any id _ hi).mono ?_; rw [HID.out]; rintro e w9 ⟨rfl, rfl⟩)
    go_ret2
    exact ⟨rfl, (Below.refl _ _).alloc (Nat.le_refl _) _⟩
  by_cases h3 : 64 < (sec.length : Int)
  · clear HG
    go_enter Tryd.func17, Tryd.ntmps17
    go_wp2_with (go_at_call 31; refine (refID_any id _ hi).mono ?_; rw [HID.out]; rintro e w9 ⟨rfl, rfl⟩)
    go_ret2
    exact ⟨rfl, (Below.refl _ _).alloc (Nat.le_refl _) _⟩
  by_cases h4 : frm < 0
  · clear HG
    go_enter Tryd.func17, Tryd.ntmps17
    go_wp2_with (go_at_call 31; refine (refID_any id _ hi).mono ?_; rw [HID.out]; rintro e w9 ⟨rfl, rfl⟩)
    go_ret2
    exact ⟨rfl, (Below.refl _ _).alloc (Nat.le_refl _) _⟩
  by_cases h5 : 1099511627776 < frm
  · clear HG
    go_enter Tryd.func17, Tryd.ntmps17
    go_wp2_with (go_at_call 31; refine (refID_any id _ hi).mono ?_; rw [HID.out]; rintro e w9 ⟨rfl, rfl⟩)
    go_ret2
    exact ⟨rfl, (Below.refl _ _).alloc (Nat.le_refl _) _⟩
  by_cases h6 : til < 0
  · clear HG
    go_enter Tryd.func17, Tryd.ntmps17
    go_wp2_with (go_at_call 31; refine (refID_any id _ hi).mono ?_; rw [HID.out]; rintro e w9 ⟨rfl, rfl⟩)
    go_ret2
    exact ⟨rfl, (Below.refl _ _).alloc (Nat.le_refl _) _⟩
  have h7 : 1099511627776 < til := by
    have hg := HG.out
    apply Classical.byContradiction
    intro hc
    have : rngK t ⟨id, sec, frm, til, 0⟩ = false := rngK_iff.2 ⟨by omega, by omega, by simp only; omega, by simp only; omega, (clipK_iff frm).2 (by omega), (clipK_iff til).2 (by omega)⟩
    rw [this] at hg; cases hg
  clear HG
  go_enter Tryd.func17, Tryd.ntmps17
  go_wp2_with (go_at_call 31; refine (refID_any id _ hi).mono ?_; rw [HID.out]; rintro e w9 ⟨rfl, rfl⟩)
  go_ret2
  exact ⟨rfl, (Below.refl _ _).alloc (Nat.le_refl _) _⟩
theorem refAdd_ord (B : Nat) (a : Option Addr) (c : Nat) (ml : KL) (t : Int) (id sec : Bs) (frm til : Int) (w : World) (h : RefAt w B (.slice a ml.length c) ml) (hB : B ≤ w.heap.size) (hi : id.length ≤ 2147483648) (hl : ml.length ≤ 1000000) (hn : idOk id = true) (hg : rngK t ⟨id, sec, frm, til, 0⟩ = false) (ho : til ≤ frm) :
    Calls Tryd.prog 17 #[.slice a ml.length c, rkeyV t ⟨id, sec, frm, til, 0⟩] w fun e w' => e = .returned (.tuple #[.slice a ml.length c, .int .i64 7]) ∧ Below w.heap.size w w' := by
  have HID := Lib.hid hn
  obtain ⟨h0, h1, h2, h3, e4, e5⟩ := rngK_iff.1 hg
  have h4 := (clipK_iff _).1 e4
  have h5 := (clipK_iff _).1 e5
  clear e4 e5
  simp only at h2 h3 h4 h5
  obtain ⟨h4a, h4b⟩ := h4
  obtain ⟨h5a, h5b⟩ := h5
  have h2' : ¬ (sec.length : Int) < 16 := by omega
  have h3' : ¬ 64 < (sec.length : Int) := by omega
  clear hg hn
  clear h
  go_enter Tryd.func17, Tryd.ntmps17
  go_wp2_with (go_at_call 31; refine (refID_any id _ hi).mono ?_; rw [HID.out]; rintro e w9 ⟨rfl, rfl⟩)
  go_ret2
  exact ⟨rfl, (Below.refl _ _).alloc (Nat.le_refl _) _⟩
theorem refAdd_has (B : Nat) (a : Option Addr) (c : Nat) (ml : KL) (t : Int) (id sec : Bs) (frm til : Int) (w : World) (h : RefAt w B (.slice a ml.length c) ml) (hB : B ≤ w.heap.size) (hi : id.length ≤ 2147483648) (hl : ml.length ≤ 1000000) (hn : idOk id = true) (hg : rngK t ⟨id, sec, frm, til, 0⟩ = false) (ho : ¬ til ≤ frm) (i : Nat) (hx : findR ml t id = some i) :
    Calls Tryd.prog 17 #[.slice a ml.length c, rkeyV t ⟨id, sec, frm, til, 0⟩] w fun e w' => e = .returned (.tuple #[.slice a ml.length c, .int .i64 4]) ∧ Below w.heap.size w w' := by
  have HID := Lib.hid hn
  obtain ⟨h0, h1, h2, h3, e4, e5⟩ := rngK_iff.1 hg
  have h4 := (clipK_iff _).1 e4
  have h5 := (clipK_iff _).1 e5
  clear e4 e5
  simp only at h2 h3 h4 h5
  obtain ⟨h4a, h4b⟩ := h4
  obtain ⟨h5a, h5b⟩ := h5
  have h2' : ¬ (sec.length : Int) < 16 := by omega
  have h3' : ¬ 64 < (sec.length : Int) := by omega
  clear hg hn
  have HR := Lib.hid (h.older ((Below.refl _ _).alloc (Nat.le_refl _) (.cells #[.int .i64 t, .string ⟨id.toArray⟩, .string ⟨sec.toArray⟩, .int .i64 frm, .int .i64 til, .int .i64 0] 52)))
  have HI := Lib.hid (show idxV (findR ml t id) = .int .i64 i by rw [hx]; rfl)
  clear h hx
  go_enter Tryd.func17, Tryd.ntmps17
  go_wp2_with (first | (go_at_call 31; refine (refID_any id _ hi).mono ?_; rw [HID.out]; rintro e w9 ⟨rfl, rfl⟩) | (go_at_call 32; refine (refFind_any B _ ml t id _ HR.out hl).mono ?_; rw [HI.out]; rintro e w' ⟨rfl, rfl⟩))
  go_ret2
  exact ⟨rfl, (Below.refl _ _).alloc (Nat.le_refl _) _⟩
theorem refAdd_ok (B : Nat) (a : Option Addr) (c : Nat) (ml : KL) (t : Int) (id sec : Bs) (frm til : Int) (w : World) (h : RefAt w B (.slice a ml.length c) ml) (hB : B ≤ w.heap.size) (hi : id.length ≤ 2147483648) (hl : ml.length ≤ 1000000) (hn : idOk id = true) (hg : rngK t ⟨id, sec, frm, til, 0⟩ = false) (ho : ¬ til ≤ frm) (hx : findR ml t id = none) :
    Calls Tryd.prog 17 #[.slice a ml.length c, rkeyV t ⟨id, sec, frm, til, 0⟩] w fun e w' => ∃ v', e = .returned (.tuple #[v', .int .i64 0]) ∧ RefDone w w' w.heap.size v' (ml ++ [(t, ⟨id, sec, frm, til, 1099511627777⟩)]) := by
  have HID := Lib.hid hn
  obtain ⟨h0, h1, h2, h3, e4, e5⟩ := rngK_iff.1 hg
  have h4 := (clipK_iff _).1 e4
  have h5 := (clipK_iff _).1 e5
  clear e4 e5
  simp only at h2 h3 h4 h5
  obtain ⟨h4a, h4b⟩ := h4
  obtain ⟨h5a, h5b⟩ := h5
  have h2' : ¬ (sec.length : Int) < 16 := by omega
  have h3' : ¬ 64 < (sec.length : Int) := by omega
  clear hg hn
  have hb0 := (Below.refl w.heap.size w).alloc (Nat.le_refl _) (.cells #[.int .i64 t, .string ⟨id.toArray⟩, .string ⟨sec.toArray⟩, .int .i64 frm, .int .i64 til, .int .i64 0] 52)
  have HR := Lib.hid (h.older hb0)
  have HRW := Lib.hid h
  have HI := Lib.hid (show idxV (findR ml t id) = .int .i64 (-1) by rw [hx]; rfl)
  clear h hx hb0
  go_enter Tryd.func17, Tryd.ntmps17
  go_wp2_with (first | (go_at_call 31; refine (refID_any id _ hi).mono ?_; rw [HID.out]; rintro e w9 ⟨rfl, rfl⟩) | (go_at_call 32; refine (refFind_any B _ ml t id _ HR.out hl).mono ?_; rw [HI.out]; rintro e w' ⟨rfl, rfl⟩))
  have hb5 := (Below.refl w.heap.size w).alloc (Nat.le_refl _) (.cells #[.int .i64 t, .string ⟨id.toArray⟩, .string ⟨sec.toArray⟩, .int .i64 frm, .int .i64 til, .int .i64 1099511627777] 52)
  have HR5 := Lib.hid (HRW.out.older hb5)
  have HB5 := Lib.hid hb5
  have HX5 := Lib.hid (Bx.new w 52 #[.int .i64 t, .string ⟨id.toArray⟩, .string ⟨sec.toArray⟩, .int .i64 frm, .int .i64 til, .int .i64 1099511627777])
  clear hb5
  generalize w.alloc (.cells #[.int .i64 t, .string ⟨id.toArray⟩, .string ⟨sec.toArray⟩, .int .i64 frm, .int .i64 til, .int .i64 1099511627777] 52) = w1 at HR5 HB5 HX5 ⊢
  have HZ5 := Lib.hid HB5.out.size
  have hz1 := HX5.out.lt
  have c0 := HX5.out.cell (i := 0) rfl
  have c1 := HX5.out.cell (i := 1) rfl
  have c2 := HX5.out.cell (i := 2) rfl
  have c3 := HX5.out.cell (i := 3) rfl
  have c4 := HX5.out.cell (i := 4) rfl
  have c5 := HX5.out.cell (i := 5) rfl
  go_region_law
      ((first
        | (refine step_appw tyRefs (by rfl) _ _ (by rfl) w1.heap.size (.slice (some ⟨w1.heap.size, 0, none⟩) 0 0) 0 [] (by rfl) (ownK_empty (heap_alloc_new w1 _) (Nat.le_refl _)).drew (by first | (simp; done) | (simp; omega)) (.slice a ml.length c) ml.length (kvals ml) (by rfl) (SrcAt.of (HR5.out.alloc _).drew) (by rw [kvals_len]) (kvals_one _) (by omega) ?_; intro v2 w2 hown2 hgrow2 hlies2; rw [Nat.zero_add, List.nil_append] at hown2; obtain ⟨a2, q2, rfl, hq2⟩ := hown2.form; have hb2 : Below w1.heap.size w1 w2 := belowK_grown ((Below.refl w1.heap.size w1).alloc (Nat.le_refl _) _).drew hgrow2 (by first | (simp; done) | (simp; omega)) (fun q hq => by simp [Value.ownBlock] at hq; omega); have hs2 := hb2.size; have p0 := (HX5.out.older hb2).cell (i := 0) rfl; have p1 := (HX5.out.older hb2).cell (i := 1) rfl; have p2 := (HX5.out.older hb2).cell (i := 2) rfl; have p3 := (HX5.out.older hb2).cell (i := 3) rfl; have p4 := (HX5.out.older hb2).cell (i := 4) rfl; have p5 := (HX5.out.older hb2).cell (i := 5) rfl)
        | (refine step_appw tyRefs (by rfl) _ _ (by rfl) w1.heap.size (.slice (some ⟨w1.heap.size, 0, none⟩) 0 0) 0 [] (by rfl) ((ownK_empty (heap_alloc_new w1 _) (Nat.le_refl _)).alloc _).drew (by first | (simp; done) | (simp; omega)) (.slice a ml.length c) ml.length (kvals ml) (by rfl) (SrcAt.of ((HR5.out.alloc _).alloc _).drew) (by rw [kvals_len]) (kvals_one _) (by omega) ?_; intro v2 w2 hown2 hgrow2 hlies2; rw [Nat.zero_add, List.nil_append] at hown2; obtain ⟨a2, q2, rfl, hq2⟩ := hown2.form; have hb2 : Below w1.heap.size w1 w2 := belowK_grown (((Below.refl w1.heap.size w1).alloc (Nat.le_refl _) _).alloc (by first | (simp; done) | (simp; omega)) _).drew hgrow2 (by first | (simp; done) | (simp; omega)) (fun q hq => by simp [Value.ownBlock] at hq; omega); have hs2 := hb2.size; have p0 := (HX5.out.older hb2).cell (i := 0) rfl; have p1 := (HX5.out.older hb2).cell (i := 1) rfl; have p2 := (HX5.out.older hb2).cell (i := 2) rfl; have p3 := (HX5.out.older hb2).cell (i := 3) rfl; have p4 := (HX5.out.older hb2).cell (i := 4) rfl; have p5 := (HX5.out.older hb2).cell (i := 5) rfl; have hP : w2.heap[w1.heap.size + 1]? = some (.cells #[.int .i64 t, .string ⟨id.toArray⟩, .string ⟨sec.toArray⟩, .int .i64 frm, .int .i64 til, .int .i64 1099511627777] 52 (0, 0)) := (hgrow2.block (w1.heap.size + 1) (by first | (simp; done) | (simp; omega)) (fun e => by simp [Value.ownBlock] at e)).trans (heapK_next w1 _ _))
        | (refine step_appw tyRefs (by rfl) _ _ (by rfl) w1.heap.size (.slice (some ⟨w1.heap.size + 1, 0, none⟩) 0 0) 0 [] (by rfl) (ownK_empty (heapK_next w1 _ _) (by omega)).drew (by first | (simp; done) | (simp; omega)) (.slice a ml.length c) ml.length (kvals ml) (by rfl) (SrcAt.of ((HR5.out.alloc _).alloc _).drew) (by rw [kvals_len]) (kvals_one _) (by omega) ?_; intro v2 w2 hown2 hgrow2 hlies2; rw [Nat.zero_add, List.nil_append] at hown2; obtain ⟨a2, q2, rfl, hq2⟩ := hown2.form; have hb2 : Below w1.heap.size w1 w2 := belowK_grown (((Below.refl w1.heap.size w1).alloc (Nat.le_refl _) _).alloc (by first | (simp; done) | (simp; omega)) _).drew hgrow2 (by first | (simp; done) | (simp; omega)) (fun q hq => by simp [Value.ownBlock] at hq; omega); have hs2 := hb2.size; have p0 := (HX5.out.older hb2).cell (i := 0) rfl; have p1 := (HX5.out.older hb2).cell (i := 1) rfl; have p2 := (HX5.out.older hb2).cell (i := 2) rfl; have p3 := (HX5.out.older hb2).cell (i := 3) rfl; have p4 := (HX5.out.older hb2).cell (i := 4) rfl; have p5 := (HX5.out.older hb2).cell (i := 5) rfl; have hP : w2.heap[w1.heap.size]? = some (.cells #[.int .i64 t, .string ⟨id.toArray⟩, .string ⟨sec.toArray⟩, .int .i64 frm, .int .i64 til, .int .i64 1099511627777] 52 (0, 0)) := (hgrow2.block w1.heap.size (by first | (simp; done) | (simp; omega)) (fun e => by simp [Value.ownBlock] at e)).trans (heapK_first w1 _ _))
        | (refine step_appw tyRefs (by rfl) _ _ (by rfl) w1.heap.size (.slice a2 ml.length q2) ml.length (kvals ml) (by rfl) (hown2.alloc _) (by first | omega | (simp; omega)) (.slice (some ⟨w2.heap.size, 0, none⟩) 1 1) 1 [.int .i64 t, .string ⟨id.toArray⟩, .string ⟨sec.toArray⟩, .int .i64 frm, .int .i64 til, .int .i64 1099511627777] (by rfl) (SrcAt.one (heap_alloc_new w2 _)) (by rfl) (by simp [Value.oneCell']) (by omega) ?_; intro v3 w3 hown3 hgrow3 hlies3; obtain ⟨a3, q3, rfl, hq3⟩ := hown3.form; have hb3 : Below w1.heap.size w1 w3 := belowK_grown (hb2.alloc (by omega) _) hgrow3 (by first | omega | (simp; omega)) (fun q hq => (hown2.lt q hq).1))
        | (refine step_appw tyRefs (by rfl) _ _ (by rfl) w1.heap.size (.slice a2 ml.length q2) ml.length (kvals ml) (by rfl) hown2 (by first | omega | (simp; omega)) (.slice (some ⟨w1.heap.size + 1, 0, none⟩) 1 1) 1 [.int .i64 t, .string ⟨id.toArray⟩, .string ⟨sec.toArray⟩, .int .i64 frm, .int .i64 til, .int .i64 1099511627777] (by rfl) (SrcAt.one hP) (by rfl) (by simp [Value.oneCell']) (by omega) ?_; intro v3 w3 hown3 hgrow3 hlies3; obtain ⟨a3, q3, rfl, hq3⟩ := hown3.form; have hb3 : Below w1.heap.size w1 w3 := belowK_grown hb2 hgrow3 (by first | omega | (simp; omega)) (fun q hq => (hown2.lt q hq).1))
        | (refine step_appw tyRefs (by rfl) _ _ (by rfl) w1.heap.size (.slice a2 ml.length q2) ml.length (kvals ml) (by rfl) hown2 (by first | omega | (simp; omega)) (.slice (some ⟨w1.heap.size, 0, none⟩) 1 1) 1 [.int .i64 t, .string ⟨id.toArray⟩, .string ⟨sec.toArray⟩, .int .i64 frm, .int .i64 til, .int .i64 1099511627777] (by rfl) (SrcAt.one hP) (by rfl) (by simp [Value.oneCell']) (by omega) ?_; intro v3 w3 hown3 hgrow3 hlies3; obtain ⟨a3, q3, rfl, hq3⟩ := hown3.form; have hb3 : Below w1.heap.size w1 w3 := belowK_grown hb2 hgrow3 (by first | omega | (simp; omega)) (fun q hq => (hown2.lt q hq).1))))
  all_goals
    go_wp2
    go_ret2
    refine ⟨.slice a3 (ml.length + 1) q3, rfl, ?_, HB5.out.trans (hb3.mono HB5.out.size)⟩
    have h9 := hown3.mono (C := w.heap.size) (fun q hq => by have := (hown3.lt q hq).1; have := HZ5.out; omega)
    unfold RefAt
    rw [← kvals_snoc, List.length_append]
    exact h9
end Kr
end Go.Proofs.YtbpbopjlcidefaaDoor
