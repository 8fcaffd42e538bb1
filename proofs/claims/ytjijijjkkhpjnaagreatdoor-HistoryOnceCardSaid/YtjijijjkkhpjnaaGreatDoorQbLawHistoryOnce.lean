/- PROVED: HistoryOnce returns true for every input and leaves its arguments as they were. No condition beyond the statement's own (the listed variables read as the program's text lays them, which the card ties). -/
import Derived.Test.YtjijijjkkhpjnaaGreatDoorQbA
import Derived.Test.YtjijijjkkhpjnaaGreatDoorQbG
import Derived.Test.YtjijijjkkhpjnaaGreatDoorQbL
import Derived.Test.YtjijijjkkhpjnaaGreatDoorQbM
namespace Go.Proofs.YtjijijjkkhpjnaaGreatDoor.lawHistoryOnce
open Go.ChangeShapes Go.WideShapes Go.ChangeAt Go.RowKit Pl Ad A1 Hy Kr
open Go.ChangeMaps (open_string shut_string)
attribute [local go_sem] ba_get conv_one conv_one_drewN ba_append ba_extract
set_option maxRecDepth 100000
set_option maxHeartbeats 4000000
set_option linter.unusedVariables false

/-- What the law has built. -/
structure OnceW (w1 w : World) (b0 : Nat) (fv dv : Value) (s : OnceS) : Prop where
  bel : Below w1.heap.size w1 w
  h0 : w1.heap.size ≤ b0
  box : Bx w b0 69 #[.slice none 0 0, .slice none 0 0, .slice none 0 0, fv, dv, .int .i64 0, .int .i64 0]
  fet : OwnWin w w1.heap.size 102 6 fv s.fets.length (s.fets.flatMap fetR)
  dro : OwnWin w w1.heap.size 104 3 dv s.dros.length (s.dros.flatMap droR)
section
variable {w1 w w' : World} {b0 : Nat} {fv dv : Value} {s : OnceS}
theorem OnceW.older (h : OnceW w1 w b0 fv dv s) (hb : Below w.heap.size w w') : OnceW w1 w' b0 fv dv s :=
  ⟨h.bel.trans (hb.mono h.bel.size), h.h0, h.box.older hb, h.fet.older hb, h.dro.older hb⟩
theorem OnceW.boxF (h : OnceW w1 w b0 fv dv s) (hg : w.grownBy w' fv.ownBlock) : Bx w' b0 69 #[.slice none 0 0, .slice none 0 0, .slice none 0 0, fv, dv, .int .i64 0, .int .i64 0] :=
  h.box.touch (Touch.of_grown (S := fun q => fv.ownBlock = some q) hg (fun k hk => hk)) (fun hq => h.box.neOwn h.fet (by decide) _ hq rfl)
theorem OnceW.boxD (h : OnceW w1 w b0 fv dv s) (hg : w.grownBy w' dv.ownBlock) : Bx w' b0 69 #[.slice none 0 0, .slice none 0 0, .slice none 0 0, fv, dv, .int .i64 0, .int .i64 0] :=
  h.box.touch (Touch.of_grown (S := fun q => dv.ownBlock = some q) hg (fun k hk => hk)) (fun hq => h.box.neOwn h.dro (by decide) _ hq rfl)
theorem OnceW.addF (h : OnceW w1 w b0 fv dv s) {v : Value} {l : List FetM} (ho : OwnWin w' w1.heap.size 102 6 v (s.fets.length + l.length) (s.fets.flatMap fetR ++ l.flatMap fetR)) (hg : w.grownBy w' fv.ownBlock) (hv : v.ownBlock = fv.ownBlock ∨ v.ownBlock = some w.heap.size) (has : Bool) (want : Nat) :
    OnceW w1 (w'.setCell ⟨b0, 3, none⟩ v) b0 v dv ⟨s.fets ++ l, s.dros, has, want⟩ := by
  have ht := Touch.of_grown (S := fun q => fv.ownBlock = some q) hg (fun k hk => hk)
  have hb := h.box.touch ht (fun hq => h.box.neOwn h.fet (by decide) _ hq rfl)
  have hd := h.dro.touch ht (fun q hq hf => own_neOwn h.dro h.fet (by decide) q hq hf)
  have hs := touch_set1 w' b0 3 v
  have hl : (s.fets ++ l).length = s.fets.length + l.length := List.length_append
  refine ⟨?_, h.h0, ?_, ?_, ?_⟩
  · exact (h.bel.grown hg h.bel.size (fun q hq => (h.fet.lt q hq).1)).trans (hs.below (Nat.le_trans h.bel.size hg.size) (fun i hi => by rw [hi]; exact h.h0))
  · have := hb.set 3 v
    exact this
  · show OwnWin _ _ _ _ _ (s.fets ++ l).length ((s.fets ++ l).flatMap fetR)
    rw [hl, List.flatMap_append]
    exact ho.touch hs (fun q hq e => hb.neOwn ho (by decide) q hq e)
  · exact hd.touch hs (fun q hq e => hb.neOwn hd (by decide) q hq e)
theorem OnceW.addD (h : OnceW w1 w b0 fv dv s) {v : Value} {l : List DroM} (ho : OwnWin w' w1.heap.size 104 3 v (s.dros.length + l.length) (s.dros.flatMap droR ++ l.flatMap droR)) (hg : w.grownBy w' dv.ownBlock) (hv : v.ownBlock = dv.ownBlock ∨ v.ownBlock = some w.heap.size) (has : Bool) (want : Nat) :
    OnceW w1 (w'.setCell ⟨b0, 4, none⟩ v) b0 fv v ⟨s.fets, s.dros ++ l, has, want⟩ := by
  have ht := Touch.of_grown (S := fun q => dv.ownBlock = some q) hg (fun k hk => hk)
  have hb := h.box.touch ht (fun hq => h.box.neOwn h.dro (by decide) _ hq rfl)
  have hf := h.fet.touch ht (fun q hq hd => own_neOwn h.fet h.dro (by decide) q hq hd)
  have hs := touch_set1 w' b0 4 v
  have hl : (s.dros ++ l).length = s.dros.length + l.length := List.length_append
  refine ⟨?_, h.h0, ?_, ?_, ?_⟩
  · exact (h.bel.grown hg h.bel.size (fun q hq => (h.dro.lt q hq).1)).trans (hs.below (Nat.le_trans h.bel.size hg.size) (fun i hi => by rw [hi]; exact h.h0))
  · have := hb.set 4 v
    exact this
  · exact hf.touch hs (fun q hq e => hb.neOwn hf (by decide) q hq e)
  · show OwnWin _ _ _ _ _ (s.dros ++ l).length ((s.dros ++ l).flatMap droR)
    rw [hl, List.flatMap_append]
    exact ho.touch hs (fun q hq e => hb.neOwn ho (by decide) q hq e)
end
theorem src_lits {w : World} {C : Array Value} {e : TypeId} {n : Nat} : SrcAt (w.alloc (.cells C e)) (.slice (some ⟨w.heap.size, 0, none⟩) n n) n C.toList := src_cells (heap_alloc_new w _)
theorem once_le (f : Nat → Nat) : ∀ k, (onceN f k).fets.length ≤ 3 * k ∧ (onceN f k).dros.length ≤ k ∧ (onceN f k).want ≤ k
  | 0 => ⟨Nat.le_refl _, Nat.le_refl _, Nat.le_refl _⟩
  | k + 1 => by
    obtain ⟨h1, h2, h3⟩ := once_le f k
    have h4 : (onceF k (f k)).length ≤ 3 := by
      unfold onceF
      split
      · simp
      · split <;> simp
    have h5 : (onceD k (f k)).length ≤ 1 := by
      unfold onceD
      split <;> simp
    refine ⟨?_, ?_, ?_⟩
    · show ((onceN f k).fets ++ onceF k (f k)).length ≤ _
      rw [List.length_append]; omega
    · show ((onceN f k).dros ++ onceD k (f k)).length ≤ _
      rw [List.length_append]; omega
    · show (if (f k % 4 = 0 ∨ f k % 4 = 1) ∧ (onceN f k).has = true then (onceN f k).want + 1 else (onceN f k).want) ≤ _
      split <;> omega
theorem once_mem (f : Nat → Nat) : ∀ k, k ≤ 1000 → (∀ x ∈ (onceN f k).fets, (0 ≤ x.at_ ∧ x.at_ < 2 * (k : Int)) ∧ x.node.length ≤ 200 ∧ x.key.length ≤ 200 ∧ x.tag.length ≤ 200) ∧ (∀ d ∈ (onceN f k).dros, (-1 ≤ d.at_ ∧ d.at_ < 2 * (k : Int)) ∧ d.node.length ≤ 200 ∧ d.key.length ≤ 200)
  | 0, _ => ⟨fun x hx => (by cases hx), fun x hx => (by cases hx)⟩
  | k + 1, hk => by
    obtain ⟨h1, h2⟩ := once_mem f k (by omega)
    have hA : ∀ x ∈ [sideA k, sideB k], (0 ≤ x.at_ ∧ x.at_ < 2 * ((k + 1 : Nat) : Int)) ∧ x.node.length ≤ 200 ∧ x.key.length ≤ 200 ∧ x.tag.length ≤ 200 := fun x hx => by
      have hd := dec_len19 (n := k + 2) (by omega)
      rcases List.mem_cons.1 hx with rfl | hx
      · refine ⟨⟨?_, ?_⟩, ?_, ?_, ?_⟩ <;> simp [sideA, sN2, keyX] <;> omega
      · rw [List.mem_singleton.1 hx]
        refine ⟨⟨?_, ?_⟩, ?_, ?_, ?_⟩ <;> simp [sideB, sN1, keyX] <;> omega
    have hM : ∀ fl, ∀ x ∈ [mainF (2 * (k : Int)) fl], (0 ≤ x.at_ ∧ x.at_ < 2 * ((k + 1 : Nat) : Int)) ∧ x.node.length ≤ 200 ∧ x.key.length ≤ 200 ∧ x.tag.length ≤ 200 := fun fl x hx => by
      rw [List.mem_singleton.1 hx]
      refine ⟨⟨?_, ?_⟩, ?_, ?_, ?_⟩ <;> simp [mainF, sN1, keyX] <;> omega
    refine ⟨fun x hx => ?_, fun d hd => ?_⟩
    · change x ∈ (onceN f k).fets ++ onceF k (f k) at hx
      rcases List.mem_append.1 hx with hx | hx
      · obtain ⟨⟨a, b⟩, c⟩ := h1 x hx
        exact ⟨⟨a, by omega⟩, c⟩
      · unfold onceF at hx
        rcases List.mem_append.1 hx with hx | hx
        · split at hx
          · exact hM _ x hx
          · split at hx
            · exact hM _ x hx
            · cases hx
        · exact hA x hx
    · change d ∈ (onceN f k).dros ++ onceD k (f k) at hd
      rcases List.mem_append.1 hd with hd | hd
      · obtain ⟨⟨a, b⟩, c⟩ := h2 d hd
        exact ⟨⟨a, by omega⟩, c⟩
      · unfold onceD at hd
        split at hd
        · cases hd
        · rw [List.mem_singleton.1 hd]
          refine ⟨⟨?_, ?_⟩, ?_, ?_⟩ <;> simp [lossD, sN1, keyX] <;> omega
theorem once_at {w1 w : World} {b0 : Nat} {fv dv : Value} {f : Nat → Nat} {k : Nat} (h : OnceW w1 w b0 fv dv (onceN f k)) (hk : k ≤ 40) : HisAt w 200 (.slice none 0 0) (.slice none 0 0) (.slice none 0 0) fv dv ⟨[], [], [], (onceN f k).fets, (onceN f k).dros, 0, 0⟩ := by
  obtain ⟨l1, l2, _⟩ := once_le f k
  obtain ⟨m1, m2⟩ := once_mem f k (by omega)
  exact ⟨.inl ⟨rfl, .inl rfl⟩, Nat.zero_le _, fun p hp => (by cases hp), .inl ⟨rfl, .inl rfl⟩, Nat.zero_le _, fun x hx => (by cases hx), .inl ⟨rfl, .inl rfl⟩, Nat.zero_le _, fun p hp => (by cases hp), rows_ownF h.fet fetR_len, Nat.le_trans l1 (by omega), fun x hx => (m1 x hx).2, rows_ownF h.dro droR_len, Nat.le_trans l2 (by omega), fun x hx => (m2 x hx).2⟩
theorem once_small {f : Nat → Nat} {k : Nat} (hk : k ≤ 40) : (⟨[], [], [], (onceN f k).fets, (onceN f k).dros, 0, 0⟩ : HisM).Small := by
  obtain ⟨l1, l2, _⟩ := once_le f k
  obtain ⟨m1, m2⟩ := once_mem f k (by omega)
  refine ⟨fun p hp => (by cases hp), fun x hx => (by cases hx), fun p hp => (by cases hp), fun x hx => ?_, fun x hx => ?_, ?_, ?_, Nat.zero_le _, Nat.zero_le _, Nat.zero_le _, Nat.le_trans l1 (by omega), Nat.le_trans l2 (by omega)⟩
  · obtain ⟨⟨a, b⟩, _⟩ := m1 x hx
    unfold Hy.inB; omega
  · obtain ⟨⟨a, b⟩, _⟩ := m2 x hx
    unfold Hy.inB; omega
  · unfold Hy.inB; simp
  · unfold Hy.inB; simp
theorem byte_row {H : Type} {enc : TypeId × Value → H} {w : World} {base n : Nat} {spare : Nat → Bool} {held : Bool} {cs : List Value} {y : DataW H × List MemPlace} (hl : cs.length = 1)
    (h : DataW.trod enc Tryz.prog w base spare held n 5 cs = some y) : ∃ b : UInt8, cs = Sg.byteC b ∧ True := by
  obtain ⟨b, hb⟩ := Sg.byte_trod hl h
  exact ⟨b, hb, trivial⟩
theorem walk (acts : Bs) (v : Value) (w : World) (hr : Ready w) (hp : A1.ParseAt w) (hx : RowsV Sg.byteC 1 w v acts) (hl : acts.length ≤ 9223372036854775807) :
    Calls Tryz.prog 11 #[v] w fun e w' => e = .returned (.bool true) ∧ Below w.heap.size w w' := by
  obtain ⟨ua, uc, rfl, _⟩ := hx.form
  have HX := Lib.hid hx
  have HRY := Lib.hid hr
  have HPW := Lib.hid hp
  by_cases hlen : acts.length ≤ 40
  · have hl1 : ¬ ((40 : Int) < (acts.length : Int)) := by omega
    have hl2 : decide ((40 : Int) < (acts.length : Int)) = false := decide_eq_false hl1
    have hl3 : decide (40 < acts.length) = false := decide_eq_false (by omega)
    clear hr hp hx hl
    go_enter Tryz.func11, Tryz.ntmps11
    go_wp2_with (go_at_call 29; refine (awake58_any _ HRY.out HPW.out).mono ?_; rintro e w1 ⟨rfl, hb1⟩; have HB1 := Lib.hid hb1; clear hb1)
    obtain ⟨f, hf⟩ : ∃ f : Nat → Nat, f = fun j => ((acts[j]?).getD 0).toNat := ⟨_, rfl⟩
    have HF : Hid (∀ (j : Nat) (b : UInt8), acts[j]? = some b → f j = b.toNat) := Lib.hid (fun j b hb => by rw [hf]; simp [hb])
    clear hf
    obtain ⟨b0, hb0⟩ : ∃ z, w1.heap.size = z := ⟨_, rfl⟩
    have HS0 := Lib.hid (show OnceW w1 (w1.alloc (.cells #[.slice none 0 0, .slice none 0 0, .slice none 0 0, .slice none 0 0, .slice none 0 0, .int .i64 0, .int .i64 0] 69)) w1.heap.size (.slice none 0 0) (.slice none 0 0) (onceN f 0) from ⟨(Below.refl _ _).alloc (Nat.le_refl _) _, Nat.le_refl _, Bx.new w1 69 #[.slice none 0 0, .slice none 0 0, .slice none 0 0, .slice none 0 0, .slice none 0 0, .int .i64 0, .int .i64 0], OwnWin.nil _ _ _ _, OwnWin.nil _ _ _ _⟩)
    go_wp2_with fail
    obtain ⟨w2, hw2⟩ : ∃ z, w1.alloc (.cells #[.slice none 0 0, .slice none 0 0, .slice none 0 0, .slice none 0 0, .slice none 0 0, .int .i64 0, .int .i64 0] 69) = z := ⟨_, rfl⟩
    rw [hw2] at HS0 ⊢
    rw [hb0] at HS0 ⊢
    clear hw2
    have HB0 := Lib.hid hb0
    clear hb0
    go_loopg [18, 4, 5] acts.length (fun gq iv s4 s5 wr => ∃ (k : Nat) (fv dv : Value), iv = .int .i64 k ∧ k ≤ acts.length ∧ Hid (acts.length ≤ gq + k) ∧ s4 = .bool (onceN f k).has ∧ s5 = .int .i64 ((onceN f k).want : Int) ∧ Hid (OnceW w1 wr b0 fv dv (onceN f k)))
    case atStart => exact ⟨0, _, _, rfl, Nat.zero_le _, Lib.hid (by omega), rfl, rfl, HS0⟩
    case round =>
      obtain ⟨k, fv, dv, rfl, hk, HQ, rfl, rfl, HW⟩ := hrel
      obtain ⟨s, hs⟩ : ∃ s, onceN f k = s := ⟨_, rfl⟩
      have HSE := Lib.hid hs
      have hle := once_le f k
      rw [hs] at HW hle ⊢
      obtain ⟨fa, fc, rfl, _⟩ := HW.out.fet.form
      obtain ⟨da, dc, rfl, _⟩ := HW.out.dro.form
      obtain ⟨hle1, hle2, hle3⟩ := hle
      have HFL := Lib.hid (show s.fets.length ≤ 120 by omega)
      have HDL := Lib.hid (show s.dros.length ≤ 40 by omega)
      have HWL := Lib.hid (show s.want ≤ 40 by omega)
      have c3 := HW.out.box.cell (i := 3) rfl
      have c4 := HW.out.box.cell (i := 4) rfl
      have f3 := HW.out.box.frz 3
      have f4 := HW.out.box.frz 4
      have hz0 := HW.out.box.lt
      obtain ⟨has, hhas⟩ : ∃ z, s.has = z := ⟨_, rfl⟩
      obtain ⟨wn, hwn⟩ : ∃ z, s.want = z := ⟨_, rfl⟩
      have HHW := Lib.hid hwn
      rw [hhas, hwn]
      have HDIG : Hid (∀ w, Calls Tryz.prog 36 #[.int .i64 ((k : Int) + 2)] w fun e w' => e = .returned (.string ⟨(Lib.decDigits (k + 2)).toArray⟩) ∧ Below w.heap.size w w') := Lib.hid (fun w => digits_nat (k + 3) (k + 2) (by omega) (by omega) w)
      have x1 : IntKind.i64.wrap (2 * (k : Int)) = 2 * (k : Int) := IntWalk.i64_in _ (by omega)
      have x2 : IntKind.i64.wrap (2 * (k : Int) - 1) = 2 * (k : Int) - 1 := IntWalk.i64_in _ (by omega)
      have x3 : IntKind.i64.wrap ((k : Int) + 2) = (k : Int) + 2 := IntWalk.i64_in _ (by omega)
      have x4 : IntKind.i64.wrap ((wn : Int) + 1) = (wn : Int) + 1 := IntWalk.i64_in _ (by omega)
      clear hle1 hle2 hle3 hs hwn
      by_cases hlt : k < acts.length
      · have HLT := Lib.hid hlt
        have hkb : k < 40 := by omega
        obtain ⟨b, hbk⟩ : ∃ b, acts[k]? = some b := ⟨_, List.getElem?_eq_getElem hlt⟩
        obtain ⟨b3, o3, e3, _, _, hrow⟩ := row_at (HX.out.below (HB1.out.trans (HW.out.bel.mono HB1.out.size))) hbk
        cases e3
        have d0 := hrow 0 _ rfl
        have HFB := Lib.hid (HF.out k b hbk)
        obtain ⟨a, ha⟩ : ∃ a, b.toNat = a := ⟨_, rfl⟩
        rw [Nat.add_zero, Nat.mul_one] at d0
        rw [ha] at HFB d0
        have hal : a < 256 := by have := b.toNat_lt; omega
        clear hrow hbk ha
        rcases (show a % 4 = 0 ∨ a % 4 = 1 ∨ a % 4 = 2 ∨ a % 4 = 3 by omega) with ha4 | ha4 | ha4 | ha4
        · have mi : (a : Int) % 4 = 0 := by omega
          have mt : Int.tmod (a : Int) 4 = 0 := by rw [Int.tmod_eq_emod_of_nonneg (by omega)]; exact mi
          skip
          cases has with
          | true =>
            have HWA := Lib.hid (HW.out.older ((Below.refl _ _).alloc (Nat.le_refl _) (.cells #[.string ⟨#[115, 49]⟩, .string ⟨#[97, 46, 101, 120, 97, 109, 112, 108, 101, 47, 120]⟩, .string ⟨#[49]⟩, .int .i64 (2 * (k : Int)), .int .i64 3, .bool false] 102)))
            have HXA := HWA.out.fet
            go_upto_region 19 with (at_builtin; go_must (refine wpList_appB tyFet (by rfl) _ _ (by rfl) w1.heap.size (.slice fa s.fets.length fc) s.fets.length _ (by rfl) HXA HWA.out.bel.size (.slice (some ⟨wr.heap.size, 0, none⟩) 1 1) 1 [.string ⟨#[115, 49]⟩, .string ⟨#[97, 46, 101, 120, 97, 109, 112, 108, 101, 47, 120]⟩, .string ⟨#[49]⟩, .int .i64 (2 * (k : Int)), .int .i64 3, .bool false] (by rfl) src_lits (by rfl) (by simp [Value.oneCell']) (by have := HFL.out; have := HDL.out; omega) ?_); intro v4 w4 hown4 hgrow4 hlies4; have HWZ := Lib.hid (HWA.out.addF (l := [mainF (2 * (k : Int)) false]) hown4 hgrow4 hlies4 true (wn + 1)); have hb4 := HWA.out.boxF hgrow4; obtain ⟨va, vc, rfl, _⟩ := hown4.form; have c43 := hb4.cell (i := 3) rfl; have f43 := hb4.frz 3; have hz4 := hb4.lt; clear hown4 hgrow4 hlies4 hb4 HXA)
            obtain ⟨wz, hwz⟩ : ∃ z, w4.setCell ⟨b0, 3, none⟩ (.slice va (s.fets.length + 1) vc) = z := ⟨_, rfl⟩
            rw [hwz] at HWZ ⊢
            obtain ⟨st, hst⟩ : ∃ st : OnceS, st = ⟨s.fets ++ [mainF (2 * (k : Int)) false], s.dros, true, wn + 1⟩ := ⟨_, rfl⟩
            rw [← hst] at HWZ
            have HN : Hid (s.fets.length + 1 = st.fets.length) := Lib.hid (by rw [hst] <;> simp)
            rw [HN.out] at HWZ
            try rw [HN.out]
            have HSTP : Hid (onceN f (k + 1) = ⟨st.fets ++ [sideA k, sideB k], st.dros, true, wn + 1⟩) := Lib.hid (by
            show onceStep k (f k) (onceN f k) = _
            rw [HFB.out, HSE.out, hst]
            unfold onceStep onceF onceD
            simp [ha4, hhas, HHW.out])
            have HFZ := Lib.hid (show st.fets.length ≤ 121 by rw [← HN.out]; have := HFL.out; omega)
            have c3 := HWZ.out.box.cell (i := 3) rfl
            have hz0 := HWZ.out.box.lt
            clear hst hwz c43 f43 hz4
            refine wp_region_held_drew (S := (fun _ => True)) (by kernel_rfl) (by trivial) (fun hHeld => ?_)
            refine Hd.tk 0 ?_
            try simp only [Act.put, List.setIfInBounds_toArray, List.set_cons_zero, List.set_cons_succ]
            refine Hd.tk 2 ?_
            try simp only [Act.put, List.setIfInBounds_toArray, List.set_cons_zero, List.set_cons_succ]
            refine Hd.tk 3 ?_
            try simp only [Act.put, List.setIfInBounds_toArray, List.set_cons_zero, List.set_cons_succ]
            refine Hd.tk 4 ?_
            try simp only [Act.put, List.setIfInBounds_toArray, List.set_cons_zero, List.set_cons_succ]
            refine Hd.tk 5 ?_
            try simp only [Act.put, List.setIfInBounds_toArray, List.set_cons_zero, List.set_cons_succ]
            refine Hd.tk 6 ?_
            try simp only [Act.put, List.setIfInBounds_toArray, List.set_cons_zero, List.set_cons_succ]
            refine Hd.tk 7 ?_
            try simp only [Act.put, List.setIfInBounds_toArray, List.set_cons_zero, List.set_cons_succ]
            refine Hd.tk 9 ?_
            try simp only [Act.put, List.setIfInBounds_toArray, List.set_cons_zero, List.set_cons_succ]
            refine Hd.tk 10 ?_
            try simp only [Act.put, List.setIfInBounds_toArray, List.set_cons_zero, List.set_cons_succ]
            refine wpAnyH_ready (rs := [1, 8]) (by kernel_rfl) (by simp) (AllReadyH.cons (by simp only [List.getElem?_toArray, List.getElem?_cons_succ, List.getElem?_cons_zero]; rfl) (fun K hK => ?_) (AllReadyH.cons (by simp only [List.getElem?_toArray, List.getElem?_cons_succ, List.getElem?_cons_zero]; rfl) (fun K hK => ?_) AllReadyH.nil))
            · go_simp
              refine hK.out _ _ (by trivial) (fun hHe0 => ?_)
              clear hK K
              try simp only [Act.put, List.setIfInBounds_toArray, List.set_cons_zero, List.set_cons_succ]
              refine wpAnyH_ready (rs := [8]) (by kernel_rfl) (by simp) (AllReadyH.cons (by simp only [List.getElem?_toArray, List.getElem?_cons_succ, List.getElem?_cons_zero]; rfl) (fun K hK => ?_) AllReadyH.nil)
              go_simp
              go_at_call 36
              refine (HDIG.out _).mono ?_
              rintro e wq ⟨rfl, hbq⟩
              have HWQ := Lib.hid ((HWZ.out.older (Below.refl _ _).drew).older hbq)
              have q3 := HWQ.out.box.cell (i := 3) rfl
              have hzq := HWQ.out.box.lt
              clear hbq
              go_wp2_with fail
              refine hK.out _ _ (by trivial) (fun hHe1 => ?_)
              clear hK K
              try simp only [Act.put, List.setIfInBounds_toArray, List.set_cons_zero, List.set_cons_succ]
              refine Hd.tk 11 ?_
              try simp only [Act.put, List.setIfInBounds_toArray, List.set_cons_zero, List.set_cons_succ]
              refine wpAnyH_ready (rs := [12]) (by kernel_rfl) (by simp) (AllReadyH.cons (by simp only [List.getElem?_toArray, List.getElem?_cons_succ, List.getElem?_cons_zero]; rfl) (fun K hK => ?_) AllReadyH.nil)
              go_simp
              refine hK.out _ _ (by trivial) (fun hHe2 => ?_)
              clear hK K
              try simp only [Act.put, List.setIfInBounds_toArray, List.set_cons_zero, List.set_cons_succ]
              refine wpAnyH_ready (rs := [13]) (by kernel_rfl) (by simp) (AllReadyH.cons (by simp only [List.getElem?_toArray, List.getElem?_cons_succ, List.getElem?_cons_zero]; rfl) (fun K hK => ?_) AllReadyH.nil)
              have HWA := Lib.hid (HWQ.out.older ((Below.refl _ _).alloc (Nat.le_refl _) (.cells #[.string ⟨#[115, 50]⟩, .string ⟨#[97, 46, 101, 120, 97, 109, 112, 108, 101, 47, 120]⟩, .string ⟨#[49]⟩, .int .i64 (2 * (k : Int)), .int .i64 (k : Int), .bool false, .string ⟨#[115, 49]⟩, .string ⟨#[97, 46, 101, 120, 97, 109, 112, 108, 101, 47, 120]⟩, .string ⟨(Lib.decDigits (k + 2)).toArray⟩, .int .i64 (2 * (k : Int)), .int .i64 3, .bool false] 102)))
              refine step_appB tyFet (by rfl) _ _ (by rfl) w1.heap.size (.slice va st.fets.length vc) st.fets.length _ (by rfl) HWA.out.fet HWA.out.bel.size (.slice (some ⟨wq.heap.size, 0, none⟩) 2 2) 2 [.string ⟨#[115, 50]⟩, .string ⟨#[97, 46, 101, 120, 97, 109, 112, 108, 101, 47, 120]⟩, .string ⟨#[49]⟩, .int .i64 (2 * (k : Int)), .int .i64 (k : Int), .bool false, .string ⟨#[115, 49]⟩, .string ⟨#[97, 46, 101, 120, 97, 109, 112, 108, 101, 47, 120]⟩, .string ⟨(Lib.decDigits (k + 2)).toArray⟩, .int .i64 (2 * (k : Int)), .int .i64 3, .bool false] (by rfl) src_lits (by rfl) (by simp [Value.oneCell']) (by have := HFZ.out; omega) ?_
              intro v4 w4 hown4 hgrow4 hlies4
              have HWN := Lib.hid (HWA.out.addF (l := [sideA k, sideB k]) hown4 hgrow4 hlies4 true (wn + 1))
              have hb4 := HWA.out.boxF hgrow4
              obtain ⟨va2, vc2, rfl, _⟩ := hown4.form
              have c43 := hb4.cell (i := 3) rfl
              have f43 := hb4.frz 3
              have hz4 := hb4.lt
              clear hown4 hgrow4 hlies4 hb4
              rw [← HSTP.out] at HWN
              refine hK.out _ _ (by trivial) (fun hHe3 => ?_)
              clear hK K
              try simp only [Act.put, List.setIfInBounds_toArray, List.set_cons_zero, List.set_cons_succ]
              refine Hd.tk 14 ?_
              try simp only [Act.put, List.setIfInBounds_toArray, List.set_cons_zero, List.set_cons_succ]
              refine wpAnyH_ready (rs := [15]) (by kernel_rfl) (by simp) (AllReadyH.cons (by simp only [List.getElem?_toArray, List.getElem?_cons_succ, List.getElem?_cons_zero]; rfl) (fun K hK => ?_) AllReadyH.nil)
              go_simp
              refine hK.out _ _ (by trivial) (fun hHe4 => ?_)
              clear hK K
              try simp only [Act.put, List.setIfInBounds_toArray, List.set_cons_zero, List.set_cons_succ]
              refine wpAnyH_done (by kernel_rfl) ?_ _
              go_wp2_with fail
              go_roundg (gk - 1)
              case rel => exact ⟨k + 1, _, _, by go_num, by have := HLT.out; omega, Lib.hid (by have := HQ.out; omega), by rw [HSTP.out], by rw [HSTP.out] <;> simp, HWN⟩
              case measure => have := HQ.out; have := HLT.out; omega
            · go_simp
              go_at_call 36
              refine (HDIG.out _).mono ?_
              rintro e wq ⟨rfl, hbq⟩
              have HWQ := Lib.hid ((HWZ.out.older (Below.refl _ _).drew).older hbq)
              have q3 := HWQ.out.box.cell (i := 3) rfl
              have hzq := HWQ.out.box.lt
              clear hbq
              go_wp2_with fail
              refine hK.out _ _ (by trivial) (fun hHe0 => ?_)
              clear hK K
              try simp only [Act.put, List.setIfInBounds_toArray, List.set_cons_zero, List.set_cons_succ]
              refine Hd.tk 11 ?_
              try simp only [Act.put, List.setIfInBounds_toArray, List.set_cons_zero, List.set_cons_succ]
              refine wpAnyH_ready (rs := [1, 12]) (by kernel_rfl) (by simp) (AllReadyH.cons (by simp only [List.getElem?_toArray, List.getElem?_cons_succ, List.getElem?_cons_zero]; rfl) (fun K hK => ?_) (AllReadyH.cons (by simp only [List.getElem?_toArray, List.getElem?_cons_succ, List.getElem?_cons_zero]; rfl) (fun K hK => ?_) AllReadyH.nil))
              · go_simp
                refine hK.out _ _ (by trivial) (fun hHe1 => ?_)
                clear hK K
                try simp only [Act.put, List.setIfInBounds_toArray, List.set_cons_zero, List.set_cons_succ]
                refine wpAnyH_ready (rs := [12]) (by kernel_rfl) (by simp) (AllReadyH.cons (by simp only [List.getElem?_toArray, List.getElem?_cons_succ, List.getElem?_cons_zero]; rfl) (fun K hK => ?_) AllReadyH.nil)
                go_simp
                refine hK.out _ _ (by trivial) (fun hHe2 => ?_)
                clear hK K
                try simp only [Act.put, List.setIfInBounds_toArray, List.set_cons_zero, List.set_cons_succ]
                refine wpAnyH_ready (rs := [13]) (by kernel_rfl) (by simp) (AllReadyH.cons (by simp only [List.getElem?_toArray, List.getElem?_cons_succ, List.getElem?_cons_zero]; rfl) (fun K hK => ?_) AllReadyH.nil)
                have HWA := Lib.hid (HWQ.out.older ((Below.refl _ _).alloc (Nat.le_refl _) (.cells #[.string ⟨#[115, 50]⟩, .string ⟨#[97, 46, 101, 120, 97, 109, 112, 108, 101, 47, 120]⟩, .string ⟨#[49]⟩, .int .i64 (2 * (k : Int)), .int .i64 (k : Int), .bool false, .string ⟨#[115, 49]⟩, .string ⟨#[97, 46, 101, 120, 97, 109, 112, 108, 101, 47, 120]⟩, .string ⟨(Lib.decDigits (k + 2)).toArray⟩, .int .i64 (2 * (k : Int)), .int .i64 3, .bool false] 102)))
                refine step_appB tyFet (by rfl) _ _ (by rfl) w1.heap.size (.slice va st.fets.length vc) st.fets.length _ (by rfl) HWA.out.fet HWA.out.bel.size (.slice (some ⟨wq.heap.size, 0, none⟩) 2 2) 2 [.string ⟨#[115, 50]⟩, .string ⟨#[97, 46, 101, 120, 97, 109, 112, 108, 101, 47, 120]⟩, .string ⟨#[49]⟩, .int .i64 (2 * (k : Int)), .int .i64 (k : Int), .bool false, .string ⟨#[115, 49]⟩, .string ⟨#[97, 46, 101, 120, 97, 109, 112, 108, 101, 47, 120]⟩, .string ⟨(Lib.decDigits (k + 2)).toArray⟩, .int .i64 (2 * (k : Int)), .int .i64 3, .bool false] (by rfl) src_lits (by rfl) (by simp [Value.oneCell']) (by have := HFZ.out; omega) ?_
                intro v4 w4 hown4 hgrow4 hlies4
                have HWN := Lib.hid (HWA.out.addF (l := [sideA k, sideB k]) hown4 hgrow4 hlies4 true (wn + 1))
                have hb4 := HWA.out.boxF hgrow4
                obtain ⟨va2, vc2, rfl, _⟩ := hown4.form
                have c43 := hb4.cell (i := 3) rfl
                have f43 := hb4.frz 3
                have hz4 := hb4.lt
                clear hown4 hgrow4 hlies4 hb4
                rw [← HSTP.out] at HWN
                refine hK.out _ _ (by trivial) (fun hHe3 => ?_)
                clear hK K
                try simp only [Act.put, List.setIfInBounds_toArray, List.set_cons_zero, List.set_cons_succ]
                refine Hd.tk 14 ?_
                try simp only [Act.put, List.setIfInBounds_toArray, List.set_cons_zero, List.set_cons_succ]
                refine wpAnyH_ready (rs := [15]) (by kernel_rfl) (by simp) (AllReadyH.cons (by simp only [List.getElem?_toArray, List.getElem?_cons_succ, List.getElem?_cons_zero]; rfl) (fun K hK => ?_) AllReadyH.nil)
                go_simp
                refine hK.out _ _ (by trivial) (fun hHe4 => ?_)
                clear hK K
                try simp only [Act.put, List.setIfInBounds_toArray, List.set_cons_zero, List.set_cons_succ]
                refine wpAnyH_done (by kernel_rfl) ?_ _
                go_wp2_with fail
                go_roundg (gk - 1)
                case rel => exact ⟨k + 1, _, _, by go_num, by have := HLT.out; omega, Lib.hid (by have := HQ.out; omega), by rw [HSTP.out], by rw [HSTP.out] <;> simp, HWN⟩
                case measure => have := HQ.out; have := HLT.out; omega
              · go_simp
                refine hK.out _ _ (by trivial) (fun hHe1 => ?_)
                clear hK K
                try simp only [Act.put, List.setIfInBounds_toArray, List.set_cons_zero, List.set_cons_succ]
                refine wpAnyH_ready (rs := [1]) (by kernel_rfl) (by simp) (AllReadyH.cons (by simp only [List.getElem?_toArray, List.getElem?_cons_succ, List.getElem?_cons_zero]; rfl) (fun K hK => ?_) AllReadyH.nil)
                go_simp
                refine hK.out _ _ (by trivial) (fun hHe2 => ?_)
                clear hK K
                try simp only [Act.put, List.setIfInBounds_toArray, List.set_cons_zero, List.set_cons_succ]
                refine wpAnyH_ready (rs := [13]) (by kernel_rfl) (by simp) (AllReadyH.cons (by simp only [List.getElem?_toArray, List.getElem?_cons_succ, List.getElem?_cons_zero]; rfl) (fun K hK => ?_) AllReadyH.nil)
                have HWA := Lib.hid (HWQ.out.older ((Below.refl _ _).alloc (Nat.le_refl _) (.cells #[.string ⟨#[115, 50]⟩, .string ⟨#[97, 46, 101, 120, 97, 109, 112, 108, 101, 47, 120]⟩, .string ⟨#[49]⟩, .int .i64 (2 * (k : Int)), .int .i64 (k : Int), .bool false, .string ⟨#[115, 49]⟩, .string ⟨#[97, 46, 101, 120, 97, 109, 112, 108, 101, 47, 120]⟩, .string ⟨(Lib.decDigits (k + 2)).toArray⟩, .int .i64 (2 * (k : Int)), .int .i64 3, .bool false] 102)))
                refine step_appB tyFet (by rfl) _ _ (by rfl) w1.heap.size (.slice va st.fets.length vc) st.fets.length _ (by rfl) HWA.out.fet HWA.out.bel.size (.slice (some ⟨wq.heap.size, 0, none⟩) 2 2) 2 [.string ⟨#[115, 50]⟩, .string ⟨#[97, 46, 101, 120, 97, 109, 112, 108, 101, 47, 120]⟩, .string ⟨#[49]⟩, .int .i64 (2 * (k : Int)), .int .i64 (k : Int), .bool false, .string ⟨#[115, 49]⟩, .string ⟨#[97, 46, 101, 120, 97, 109, 112, 108, 101, 47, 120]⟩, .string ⟨(Lib.decDigits (k + 2)).toArray⟩, .int .i64 (2 * (k : Int)), .int .i64 3, .bool false] (by rfl) src_lits (by rfl) (by simp [Value.oneCell']) (by have := HFZ.out; omega) ?_
                intro v4 w4 hown4 hgrow4 hlies4
                have HWN := Lib.hid (HWA.out.addF (l := [sideA k, sideB k]) hown4 hgrow4 hlies4 true (wn + 1))
                have hb4 := HWA.out.boxF hgrow4
                obtain ⟨va2, vc2, rfl, _⟩ := hown4.form
                have c43 := hb4.cell (i := 3) rfl
                have f43 := hb4.frz 3
                have hz4 := hb4.lt
                clear hown4 hgrow4 hlies4 hb4
                rw [← HSTP.out] at HWN
                refine hK.out _ _ (by trivial) (fun hHe3 => ?_)
                clear hK K
                try simp only [Act.put, List.setIfInBounds_toArray, List.set_cons_zero, List.set_cons_succ]
                refine Hd.tk 14 ?_
                try simp only [Act.put, List.setIfInBounds_toArray, List.set_cons_zero, List.set_cons_succ]
                refine wpAnyH_ready (rs := [15]) (by kernel_rfl) (by simp) (AllReadyH.cons (by simp only [List.getElem?_toArray, List.getElem?_cons_succ, List.getElem?_cons_zero]; rfl) (fun K hK => ?_) AllReadyH.nil)
                go_simp
                refine hK.out _ _ (by trivial) (fun hHe4 => ?_)
                clear hK K
                try simp only [Act.put, List.setIfInBounds_toArray, List.set_cons_zero, List.set_cons_succ]
                refine wpAnyH_done (by kernel_rfl) ?_ _
                go_wp2_with fail
                go_roundg (gk - 1)
                case rel => exact ⟨k + 1, _, _, by go_num, by have := HLT.out; omega, Lib.hid (by have := HQ.out; omega), by rw [HSTP.out], by rw [HSTP.out] <;> simp, HWN⟩
                case measure => have := HQ.out; have := HLT.out; omega
          | false =>
            have HWA := Lib.hid (HW.out.older ((Below.refl _ _).alloc (Nat.le_refl _) (.cells #[.string ⟨#[115, 49]⟩, .string ⟨#[97, 46, 101, 120, 97, 109, 112, 108, 101, 47, 120]⟩, .string ⟨#[49]⟩, .int .i64 (2 * (k : Int)), .int .i64 3, .bool false] 102)))
            have HXA := HWA.out.fet
            go_upto_region 19 with (at_builtin; go_must (refine wpList_appB tyFet (by rfl) _ _ (by rfl) w1.heap.size (.slice fa s.fets.length fc) s.fets.length _ (by rfl) HXA HWA.out.bel.size (.slice (some ⟨wr.heap.size, 0, none⟩) 1 1) 1 [.string ⟨#[115, 49]⟩, .string ⟨#[97, 46, 101, 120, 97, 109, 112, 108, 101, 47, 120]⟩, .string ⟨#[49]⟩, .int .i64 (2 * (k : Int)), .int .i64 3, .bool false] (by rfl) src_lits (by rfl) (by simp [Value.oneCell']) (by have := HFL.out; have := HDL.out; omega) ?_); intro v4 w4 hown4 hgrow4 hlies4; have HWZ := Lib.hid (HWA.out.addF (l := [mainF (2 * (k : Int)) false]) hown4 hgrow4 hlies4 true (wn)); have hb4 := HWA.out.boxF hgrow4; obtain ⟨va, vc, rfl, _⟩ := hown4.form; have c43 := hb4.cell (i := 3) rfl; have f43 := hb4.frz 3; have hz4 := hb4.lt; clear hown4 hgrow4 hlies4 hb4 HXA)
            obtain ⟨wz, hwz⟩ : ∃ z, w4.setCell ⟨b0, 3, none⟩ (.slice va (s.fets.length + 1) vc) = z := ⟨_, rfl⟩
            rw [hwz] at HWZ ⊢
            obtain ⟨st, hst⟩ : ∃ st : OnceS, st = ⟨s.fets ++ [mainF (2 * (k : Int)) false], s.dros, true, wn⟩ := ⟨_, rfl⟩
            rw [← hst] at HWZ
            have HN : Hid (s.fets.length + 1 = st.fets.length) := Lib.hid (by rw [hst] <;> simp)
            rw [HN.out] at HWZ
            try rw [HN.out]
            have HSTP : Hid (onceN f (k + 1) = ⟨st.fets ++ [sideA k, sideB k], st.dros, true, wn⟩) := Lib.hid (by
            show onceStep k (f k) (onceN f k) = _
            rw [HFB.out, HSE.out, hst]
            unfold onceStep onceF onceD
            simp [ha4, hhas, HHW.out])
            have HFZ := Lib.hid (show st.fets.length ≤ 121 by rw [← HN.out]; have := HFL.out; omega)
            have c3 := HWZ.out.box.cell (i := 3) rfl
            have hz0 := HWZ.out.box.lt
            clear hst hwz c43 f43 hz4
            refine wp_region_held_drew (S := (fun _ => True)) (by kernel_rfl) (by trivial) (fun hHeld => ?_)
            refine Hd.tk 0 ?_
            try simp only [Act.put, List.setIfInBounds_toArray, List.set_cons_zero, List.set_cons_succ]
            refine Hd.tk 2 ?_
            try simp only [Act.put, List.setIfInBounds_toArray, List.set_cons_zero, List.set_cons_succ]
            refine Hd.tk 3 ?_
            try simp only [Act.put, List.setIfInBounds_toArray, List.set_cons_zero, List.set_cons_succ]
            refine Hd.tk 4 ?_
            try simp only [Act.put, List.setIfInBounds_toArray, List.set_cons_zero, List.set_cons_succ]
            refine Hd.tk 5 ?_
            try simp only [Act.put, List.setIfInBounds_toArray, List.set_cons_zero, List.set_cons_succ]
            refine Hd.tk 6 ?_
            try simp only [Act.put, List.setIfInBounds_toArray, List.set_cons_zero, List.set_cons_succ]
            refine Hd.tk 7 ?_
            try simp only [Act.put, List.setIfInBounds_toArray, List.set_cons_zero, List.set_cons_succ]
            refine Hd.tk 9 ?_
            try simp only [Act.put, List.setIfInBounds_toArray, List.set_cons_zero, List.set_cons_succ]
            refine Hd.tk 10 ?_
            try simp only [Act.put, List.setIfInBounds_toArray, List.set_cons_zero, List.set_cons_succ]
            refine wpAnyH_ready (rs := [1, 8]) (by kernel_rfl) (by simp) (AllReadyH.cons (by simp only [List.getElem?_toArray, List.getElem?_cons_succ, List.getElem?_cons_zero]; rfl) (fun K hK => ?_) (AllReadyH.cons (by simp only [List.getElem?_toArray, List.getElem?_cons_succ, List.getElem?_cons_zero]; rfl) (fun K hK => ?_) AllReadyH.nil))
            · go_simp
              refine hK.out _ _ (by trivial) (fun hHe0 => ?_)
              clear hK K
              try simp only [Act.put, List.setIfInBounds_toArray, List.set_cons_zero, List.set_cons_succ]
              refine wpAnyH_ready (rs := [8]) (by kernel_rfl) (by simp) (AllReadyH.cons (by simp only [List.getElem?_toArray, List.getElem?_cons_succ, List.getElem?_cons_zero]; rfl) (fun K hK => ?_) AllReadyH.nil)
              go_simp
              go_at_call 36
              refine (HDIG.out _).mono ?_
              rintro e wq ⟨rfl, hbq⟩
              have HWQ := Lib.hid ((HWZ.out.older (Below.refl _ _).drew).older hbq)
              have q3 := HWQ.out.box.cell (i := 3) rfl
              have hzq := HWQ.out.box.lt
              clear hbq
              go_wp2_with fail
              refine hK.out _ _ (by trivial) (fun hHe1 => ?_)
              clear hK K
              try simp only [Act.put, List.setIfInBounds_toArray, List.set_cons_zero, List.set_cons_succ]
              refine Hd.tk 11 ?_
              try simp only [Act.put, List.setIfInBounds_toArray, List.set_cons_zero, List.set_cons_succ]
              refine wpAnyH_ready (rs := [12]) (by kernel_rfl) (by simp) (AllReadyH.cons (by simp only [List.getElem?_toArray, List.getElem?_cons_succ, List.getElem?_cons_zero]; rfl) (fun K hK => ?_) AllReadyH.nil)
              go_simp
              refine hK.out _ _ (by trivial) (fun hHe2 => ?_)
              clear hK K
              try simp only [Act.put, List.setIfInBounds_toArray, List.set_cons_zero, List.set_cons_succ]
              refine wpAnyH_ready (rs := [13]) (by kernel_rfl) (by simp) (AllReadyH.cons (by simp only [List.getElem?_toArray, List.getElem?_cons_succ, List.getElem?_cons_zero]; rfl) (fun K hK => ?_) AllReadyH.nil)
              have HWA := Lib.hid (HWQ.out.older ((Below.refl _ _).alloc (Nat.le_refl _) (.cells #[.string ⟨#[115, 50]⟩, .string ⟨#[97, 46, 101, 120, 97, 109, 112, 108, 101, 47, 120]⟩, .string ⟨#[49]⟩, .int .i64 (2 * (k : Int)), .int .i64 (k : Int), .bool false, .string ⟨#[115, 49]⟩, .string ⟨#[97, 46, 101, 120, 97, 109, 112, 108, 101, 47, 120]⟩, .string ⟨(Lib.decDigits (k + 2)).toArray⟩, .int .i64 (2 * (k : Int)), .int .i64 3, .bool false] 102)))
              refine step_appB tyFet (by rfl) _ _ (by rfl) w1.heap.size (.slice va st.fets.length vc) st.fets.length _ (by rfl) HWA.out.fet HWA.out.bel.size (.slice (some ⟨wq.heap.size, 0, none⟩) 2 2) 2 [.string ⟨#[115, 50]⟩, .string ⟨#[97, 46, 101, 120, 97, 109, 112, 108, 101, 47, 120]⟩, .string ⟨#[49]⟩, .int .i64 (2 * (k : Int)), .int .i64 (k : Int), .bool false, .string ⟨#[115, 49]⟩, .string ⟨#[97, 46, 101, 120, 97, 109, 112, 108, 101, 47, 120]⟩, .string ⟨(Lib.decDigits (k + 2)).toArray⟩, .int .i64 (2 * (k : Int)), .int .i64 3, .bool false] (by rfl) src_lits (by rfl) (by simp [Value.oneCell']) (by have := HFZ.out; omega) ?_
              intro v4 w4 hown4 hgrow4 hlies4
              have HWN := Lib.hid (HWA.out.addF (l := [sideA k, sideB k]) hown4 hgrow4 hlies4 true (wn))
              have hb4 := HWA.out.boxF hgrow4
              obtain ⟨va2, vc2, rfl, _⟩ := hown4.form
              have c43 := hb4.cell (i := 3) rfl
              have f43 := hb4.frz 3
              have hz4 := hb4.lt
              clear hown4 hgrow4 hlies4 hb4
              rw [← HSTP.out] at HWN
              refine hK.out _ _ (by trivial) (fun hHe3 => ?_)
              clear hK K
              try simp only [Act.put, List.setIfInBounds_toArray, List.set_cons_zero, List.set_cons_succ]
              refine Hd.tk 14 ?_
              try simp only [Act.put, List.setIfInBounds_toArray, List.set_cons_zero, List.set_cons_succ]
              refine wpAnyH_ready (rs := [15]) (by kernel_rfl) (by simp) (AllReadyH.cons (by simp only [List.getElem?_toArray, List.getElem?_cons_succ, List.getElem?_cons_zero]; rfl) (fun K hK => ?_) AllReadyH.nil)
              go_simp
              refine hK.out _ _ (by trivial) (fun hHe4 => ?_)
              clear hK K
              try simp only [Act.put, List.setIfInBounds_toArray, List.set_cons_zero, List.set_cons_succ]
              refine wpAnyH_done (by kernel_rfl) ?_ _
              go_wp2_with fail
              go_roundg (gk - 1)
              case rel => exact ⟨k + 1, _, _, by go_num, by have := HLT.out; omega, Lib.hid (by have := HQ.out; omega), by rw [HSTP.out], by rw [HSTP.out] <;> simp, HWN⟩
              case measure => have := HQ.out; have := HLT.out; omega
            · go_simp
              go_at_call 36
              refine (HDIG.out _).mono ?_
              rintro e wq ⟨rfl, hbq⟩
              have HWQ := Lib.hid ((HWZ.out.older (Below.refl _ _).drew).older hbq)
              have q3 := HWQ.out.box.cell (i := 3) rfl
              have hzq := HWQ.out.box.lt
              clear hbq
              go_wp2_with fail
              refine hK.out _ _ (by trivial) (fun hHe0 => ?_)
              clear hK K
              try simp only [Act.put, List.setIfInBounds_toArray, List.set_cons_zero, List.set_cons_succ]
              refine Hd.tk 11 ?_
              try simp only [Act.put, List.setIfInBounds_toArray, List.set_cons_zero, List.set_cons_succ]
              refine wpAnyH_ready (rs := [1, 12]) (by kernel_rfl) (by simp) (AllReadyH.cons (by simp only [List.getElem?_toArray, List.getElem?_cons_succ, List.getElem?_cons_zero]; rfl) (fun K hK => ?_) (AllReadyH.cons (by simp only [List.getElem?_toArray, List.getElem?_cons_succ, List.getElem?_cons_zero]; rfl) (fun K hK => ?_) AllReadyH.nil))
              · go_simp
                refine hK.out _ _ (by trivial) (fun hHe1 => ?_)
                clear hK K
                try simp only [Act.put, List.setIfInBounds_toArray, List.set_cons_zero, List.set_cons_succ]
                refine wpAnyH_ready (rs := [12]) (by kernel_rfl) (by simp) (AllReadyH.cons (by simp only [List.getElem?_toArray, List.getElem?_cons_succ, List.getElem?_cons_zero]; rfl) (fun K hK => ?_) AllReadyH.nil)
                go_simp
                refine hK.out _ _ (by trivial) (fun hHe2 => ?_)
                clear hK K
                try simp only [Act.put, List.setIfInBounds_toArray, List.set_cons_zero, List.set_cons_succ]
                refine wpAnyH_ready (rs := [13]) (by kernel_rfl) (by simp) (AllReadyH.cons (by simp only [List.getElem?_toArray, List.getElem?_cons_succ, List.getElem?_cons_zero]; rfl) (fun K hK => ?_) AllReadyH.nil)
                have HWA := Lib.hid (HWQ.out.older ((Below.refl _ _).alloc (Nat.le_refl _) (.cells #[.string ⟨#[115, 50]⟩, .string ⟨#[97, 46, 101, 120, 97, 109, 112, 108, 101, 47, 120]⟩, .string ⟨#[49]⟩, .int .i64 (2 * (k : Int)), .int .i64 (k : Int), .bool false, .string ⟨#[115, 49]⟩, .string ⟨#[97, 46, 101, 120, 97, 109, 112, 108, 101, 47, 120]⟩, .string ⟨(Lib.decDigits (k + 2)).toArray⟩, .int .i64 (2 * (k : Int)), .int .i64 3, .bool false] 102)))
                refine step_appB tyFet (by rfl) _ _ (by rfl) w1.heap.size (.slice va st.fets.length vc) st.fets.length _ (by rfl) HWA.out.fet HWA.out.bel.size (.slice (some ⟨wq.heap.size, 0, none⟩) 2 2) 2 [.string ⟨#[115, 50]⟩, .string ⟨#[97, 46, 101, 120, 97, 109, 112, 108, 101, 47, 120]⟩, .string ⟨#[49]⟩, .int .i64 (2 * (k : Int)), .int .i64 (k : Int), .bool false, .string ⟨#[115, 49]⟩, .string ⟨#[97, 46, 101, 120, 97, 109, 112, 108, 101, 47, 120]⟩, .string ⟨(Lib.decDigits (k + 2)).toArray⟩, .int .i64 (2 * (k : Int)), .int .i64 3, .bool false] (by rfl) src_lits (by rfl) (by simp [Value.oneCell']) (by have := HFZ.out; omega) ?_
                intro v4 w4 hown4 hgrow4 hlies4
                have HWN := Lib.hid (HWA.out.addF (l := [sideA k, sideB k]) hown4 hgrow4 hlies4 true (wn))
                have hb4 := HWA.out.boxF hgrow4
                obtain ⟨va2, vc2, rfl, _⟩ := hown4.form
                have c43 := hb4.cell (i := 3) rfl
                have f43 := hb4.frz 3
                have hz4 := hb4.lt
                clear hown4 hgrow4 hlies4 hb4
                rw [← HSTP.out] at HWN
                refine hK.out _ _ (by trivial) (fun hHe3 => ?_)
                clear hK K
                try simp only [Act.put, List.setIfInBounds_toArray, List.set_cons_zero, List.set_cons_succ]
                refine Hd.tk 14 ?_
                try simp only [Act.put, List.setIfInBounds_toArray, List.set_cons_zero, List.set_cons_succ]
                refine wpAnyH_ready (rs := [15]) (by kernel_rfl) (by simp) (AllReadyH.cons (by simp only [List.getElem?_toArray, List.getElem?_cons_succ, List.getElem?_cons_zero]; rfl) (fun K hK => ?_) AllReadyH.nil)
                go_simp
                refine hK.out _ _ (by trivial) (fun hHe4 => ?_)
                clear hK K
                try simp only [Act.put, List.setIfInBounds_toArray, List.set_cons_zero, List.set_cons_succ]
                refine wpAnyH_done (by kernel_rfl) ?_ _
                go_wp2_with fail
                go_roundg (gk - 1)
                case rel => exact ⟨k + 1, _, _, by go_num, by have := HLT.out; omega, Lib.hid (by have := HQ.out; omega), by rw [HSTP.out], by rw [HSTP.out] <;> simp, HWN⟩
                case measure => have := HQ.out; have := HLT.out; omega
              · go_simp
                refine hK.out _ _ (by trivial) (fun hHe1 => ?_)
                clear hK K
                try simp only [Act.put, List.setIfInBounds_toArray, List.set_cons_zero, List.set_cons_succ]
                refine wpAnyH_ready (rs := [1]) (by kernel_rfl) (by simp) (AllReadyH.cons (by simp only [List.getElem?_toArray, List.getElem?_cons_succ, List.getElem?_cons_zero]; rfl) (fun K hK => ?_) AllReadyH.nil)
                go_simp
                refine hK.out _ _ (by trivial) (fun hHe2 => ?_)
                clear hK K
                try simp only [Act.put, List.setIfInBounds_toArray, List.set_cons_zero, List.set_cons_succ]
                refine wpAnyH_ready (rs := [13]) (by kernel_rfl) (by simp) (AllReadyH.cons (by simp only [List.getElem?_toArray, List.getElem?_cons_succ, List.getElem?_cons_zero]; rfl) (fun K hK => ?_) AllReadyH.nil)
                have HWA := Lib.hid (HWQ.out.older ((Below.refl _ _).alloc (Nat.le_refl _) (.cells #[.string ⟨#[115, 50]⟩, .string ⟨#[97, 46, 101, 120, 97, 109, 112, 108, 101, 47, 120]⟩, .string ⟨#[49]⟩, .int .i64 (2 * (k : Int)), .int .i64 (k : Int), .bool false, .string ⟨#[115, 49]⟩, .string ⟨#[97, 46, 101, 120, 97, 109, 112, 108, 101, 47, 120]⟩, .string ⟨(Lib.decDigits (k + 2)).toArray⟩, .int .i64 (2 * (k : Int)), .int .i64 3, .bool false] 102)))
                refine step_appB tyFet (by rfl) _ _ (by rfl) w1.heap.size (.slice va st.fets.length vc) st.fets.length _ (by rfl) HWA.out.fet HWA.out.bel.size (.slice (some ⟨wq.heap.size, 0, none⟩) 2 2) 2 [.string ⟨#[115, 50]⟩, .string ⟨#[97, 46, 101, 120, 97, 109, 112, 108, 101, 47, 120]⟩, .string ⟨#[49]⟩, .int .i64 (2 * (k : Int)), .int .i64 (k : Int), .bool false, .string ⟨#[115, 49]⟩, .string ⟨#[97, 46, 101, 120, 97, 109, 112, 108, 101, 47, 120]⟩, .string ⟨(Lib.decDigits (k + 2)).toArray⟩, .int .i64 (2 * (k : Int)), .int .i64 3, .bool false] (by rfl) src_lits (by rfl) (by simp [Value.oneCell']) (by have := HFZ.out; omega) ?_
                intro v4 w4 hown4 hgrow4 hlies4
                have HWN := Lib.hid (HWA.out.addF (l := [sideA k, sideB k]) hown4 hgrow4 hlies4 true (wn))
                have hb4 := HWA.out.boxF hgrow4
                obtain ⟨va2, vc2, rfl, _⟩ := hown4.form
                have c43 := hb4.cell (i := 3) rfl
                have f43 := hb4.frz 3
                have hz4 := hb4.lt
                clear hown4 hgrow4 hlies4 hb4
                rw [← HSTP.out] at HWN
                refine hK.out _ _ (by trivial) (fun hHe3 => ?_)
                clear hK K
                try simp only [Act.put, List.setIfInBounds_toArray, List.set_cons_zero, List.set_cons_succ]
                refine Hd.tk 14 ?_
                try simp only [Act.put, List.setIfInBounds_toArray, List.set_cons_zero, List.set_cons_succ]
                refine wpAnyH_ready (rs := [15]) (by kernel_rfl) (by simp) (AllReadyH.cons (by simp only [List.getElem?_toArray, List.getElem?_cons_succ, List.getElem?_cons_zero]; rfl) (fun K hK => ?_) AllReadyH.nil)
                go_simp
                refine hK.out _ _ (by trivial) (fun hHe4 => ?_)
                clear hK K
                try simp only [Act.put, List.setIfInBounds_toArray, List.set_cons_zero, List.set_cons_succ]
                refine wpAnyH_done (by kernel_rfl) ?_ _
                go_wp2_with fail
                go_roundg (gk - 1)
                case rel => exact ⟨k + 1, _, _, by go_num, by have := HLT.out; omega, Lib.hid (by have := HQ.out; omega), by rw [HSTP.out], by rw [HSTP.out] <;> simp, HWN⟩
                case measure => have := HQ.out; have := HLT.out; omega
        · have mi : (a : Int) % 4 = 1 := by omega
          have mt : Int.tmod (a : Int) 4 = 1 := by rw [Int.tmod_eq_emod_of_nonneg (by omega)]; exact mi
          skip
          cases has with
          | true =>
            have HWA := Lib.hid (HW.out.older ((Below.refl _ _).alloc (Nat.le_refl _) (.cells #[.string ⟨#[115, 49]⟩, .string ⟨#[97, 46, 101, 120, 97, 109, 112, 108, 101, 47, 120]⟩, .string ⟨#[49]⟩, .int .i64 (2 * (k : Int)), .int .i64 3, .bool false] 102)))
            have HXA := HWA.out.fet
            go_upto_region 19 with (at_builtin; go_must (refine wpList_appB tyFet (by rfl) _ _ (by rfl) w1.heap.size (.slice fa s.fets.length fc) s.fets.length _ (by rfl) HXA HWA.out.bel.size (.slice (some ⟨wr.heap.size, 0, none⟩) 1 1) 1 [.string ⟨#[115, 49]⟩, .string ⟨#[97, 46, 101, 120, 97, 109, 112, 108, 101, 47, 120]⟩, .string ⟨#[49]⟩, .int .i64 (2 * (k : Int)), .int .i64 3, .bool false] (by rfl) src_lits (by rfl) (by simp [Value.oneCell']) (by have := HFL.out; have := HDL.out; omega) ?_); intro v4 w4 hown4 hgrow4 hlies4; have HWZ := Lib.hid (HWA.out.addF (l := [mainF (2 * (k : Int)) false]) hown4 hgrow4 hlies4 true (wn + 1)); have hb4 := HWA.out.boxF hgrow4; obtain ⟨va, vc, rfl, _⟩ := hown4.form; have c43 := hb4.cell (i := 3) rfl; have f43 := hb4.frz 3; have hz4 := hb4.lt; clear hown4 hgrow4 hlies4 hb4 HXA)
            obtain ⟨wz, hwz⟩ : ∃ z, w4.setCell ⟨b0, 3, none⟩ (.slice va (s.fets.length + 1) vc) = z := ⟨_, rfl⟩
            rw [hwz] at HWZ ⊢
            obtain ⟨st, hst⟩ : ∃ st : OnceS, st = ⟨s.fets ++ [mainF (2 * (k : Int)) false], s.dros, true, wn + 1⟩ := ⟨_, rfl⟩
            rw [← hst] at HWZ
            have HN : Hid (s.fets.length + 1 = st.fets.length) := Lib.hid (by rw [hst] <;> simp)
            rw [HN.out] at HWZ
            try rw [HN.out]
            have HSTP : Hid (onceN f (k + 1) = ⟨st.fets ++ [sideA k, sideB k], st.dros, true, wn + 1⟩) := Lib.hid (by
            show onceStep k (f k) (onceN f k) = _
            rw [HFB.out, HSE.out, hst]
            unfold onceStep onceF onceD
            simp [ha4, hhas, HHW.out])
            have HFZ := Lib.hid (show st.fets.length ≤ 121 by rw [← HN.out]; have := HFL.out; omega)
            have c3 := HWZ.out.box.cell (i := 3) rfl
            have hz0 := HWZ.out.box.lt
            clear hst hwz c43 f43 hz4
            refine wp_region_held_drew (S := (fun _ => True)) (by kernel_rfl) (by trivial) (fun hHeld => ?_)
            refine Hd.tk 0 ?_
            try simp only [Act.put, List.setIfInBounds_toArray, List.set_cons_zero, List.set_cons_succ]
            refine Hd.tk 2 ?_
            try simp only [Act.put, List.setIfInBounds_toArray, List.set_cons_zero, List.set_cons_succ]
            refine Hd.tk 3 ?_
            try simp only [Act.put, List.setIfInBounds_toArray, List.set_cons_zero, List.set_cons_succ]
            refine Hd.tk 4 ?_
            try simp only [Act.put, List.setIfInBounds_toArray, List.set_cons_zero, List.set_cons_succ]
            refine Hd.tk 5 ?_
            try simp only [Act.put, List.setIfInBounds_toArray, List.set_cons_zero, List.set_cons_succ]
            refine Hd.tk 6 ?_
            try simp only [Act.put, List.setIfInBounds_toArray, List.set_cons_zero, List.set_cons_succ]
            refine Hd.tk 7 ?_
            try simp only [Act.put, List.setIfInBounds_toArray, List.set_cons_zero, List.set_cons_succ]
            refine Hd.tk 9 ?_
            try simp only [Act.put, List.setIfInBounds_toArray, List.set_cons_zero, List.set_cons_succ]
            refine Hd.tk 10 ?_
            try simp only [Act.put, List.setIfInBounds_toArray, List.set_cons_zero, List.set_cons_succ]
            refine wpAnyH_ready (rs := [1, 8]) (by kernel_rfl) (by simp) (AllReadyH.cons (by simp only [List.getElem?_toArray, List.getElem?_cons_succ, List.getElem?_cons_zero]; rfl) (fun K hK => ?_) (AllReadyH.cons (by simp only [List.getElem?_toArray, List.getElem?_cons_succ, List.getElem?_cons_zero]; rfl) (fun K hK => ?_) AllReadyH.nil))
            · go_simp
              refine hK.out _ _ (by trivial) (fun hHe0 => ?_)
              clear hK K
              try simp only [Act.put, List.setIfInBounds_toArray, List.set_cons_zero, List.set_cons_succ]
              refine wpAnyH_ready (rs := [8]) (by kernel_rfl) (by simp) (AllReadyH.cons (by simp only [List.getElem?_toArray, List.getElem?_cons_succ, List.getElem?_cons_zero]; rfl) (fun K hK => ?_) AllReadyH.nil)
              go_simp
              go_at_call 36
              refine (HDIG.out _).mono ?_
              rintro e wq ⟨rfl, hbq⟩
              have HWQ := Lib.hid ((HWZ.out.older (Below.refl _ _).drew).older hbq)
              have q3 := HWQ.out.box.cell (i := 3) rfl
              have hzq := HWQ.out.box.lt
              clear hbq
              go_wp2_with fail
              refine hK.out _ _ (by trivial) (fun hHe1 => ?_)
              clear hK K
              try simp only [Act.put, List.setIfInBounds_toArray, List.set_cons_zero, List.set_cons_succ]
              refine Hd.tk 11 ?_
              try simp only [Act.put, List.setIfInBounds_toArray, List.set_cons_zero, List.set_cons_succ]
              refine wpAnyH_ready (rs := [12]) (by kernel_rfl) (by simp) (AllReadyH.cons (by simp only [List.getElem?_toArray, List.getElem?_cons_succ, List.getElem?_cons_zero]; rfl) (fun K hK => ?_) AllReadyH.nil)
              go_simp
              refine hK.out _ _ (by trivial) (fun hHe2 => ?_)
              clear hK K
              try simp only [Act.put, List.setIfInBounds_toArray, List.set_cons_zero, List.set_cons_succ]
              refine wpAnyH_ready (rs := [13]) (by kernel_rfl) (by simp) (AllReadyH.cons (by simp only [List.getElem?_toArray, List.getElem?_cons_succ, List.getElem?_cons_zero]; rfl) (fun K hK => ?_) AllReadyH.nil)
              have HWA := Lib.hid (HWQ.out.older ((Below.refl _ _).alloc (Nat.le_refl _) (.cells #[.string ⟨#[115, 50]⟩, .string ⟨#[97, 46, 101, 120, 97, 109, 112, 108, 101, 47, 120]⟩, .string ⟨#[49]⟩, .int .i64 (2 * (k : Int)), .int .i64 (k : Int), .bool false, .string ⟨#[115, 49]⟩, .string ⟨#[97, 46, 101, 120, 97, 109, 112, 108, 101, 47, 120]⟩, .string ⟨(Lib.decDigits (k + 2)).toArray⟩, .int .i64 (2 * (k : Int)), .int .i64 3, .bool false] 102)))
              refine step_appB tyFet (by rfl) _ _ (by rfl) w1.heap.size (.slice va st.fets.length vc) st.fets.length _ (by rfl) HWA.out.fet HWA.out.bel.size (.slice (some ⟨wq.heap.size, 0, none⟩) 2 2) 2 [.string ⟨#[115, 50]⟩, .string ⟨#[97, 46, 101, 120, 97, 109, 112, 108, 101, 47, 120]⟩, .string ⟨#[49]⟩, .int .i64 (2 * (k : Int)), .int .i64 (k : Int), .bool false, .string ⟨#[115, 49]⟩, .string ⟨#[97, 46, 101, 120, 97, 109, 112, 108, 101, 47, 120]⟩, .string ⟨(Lib.decDigits (k + 2)).toArray⟩, .int .i64 (2 * (k : Int)), .int .i64 3, .bool false] (by rfl) src_lits (by rfl) (by simp [Value.oneCell']) (by have := HFZ.out; omega) ?_
              intro v4 w4 hown4 hgrow4 hlies4
              have HWN := Lib.hid (HWA.out.addF (l := [sideA k, sideB k]) hown4 hgrow4 hlies4 true (wn + 1))
              have hb4 := HWA.out.boxF hgrow4
              obtain ⟨va2, vc2, rfl, _⟩ := hown4.form
              have c43 := hb4.cell (i := 3) rfl
              have f43 := hb4.frz 3
              have hz4 := hb4.lt
              clear hown4 hgrow4 hlies4 hb4
              rw [← HSTP.out] at HWN
              refine hK.out _ _ (by trivial) (fun hHe3 => ?_)
              clear hK K
              try simp only [Act.put, List.setIfInBounds_toArray, List.set_cons_zero, List.set_cons_succ]
              refine Hd.tk 14 ?_
              try simp only [Act.put, List.setIfInBounds_toArray, List.set_cons_zero, List.set_cons_succ]
              refine wpAnyH_ready (rs := [15]) (by kernel_rfl) (by simp) (AllReadyH.cons (by simp only [List.getElem?_toArray, List.getElem?_cons_succ, List.getElem?_cons_zero]; rfl) (fun K hK => ?_) AllReadyH.nil)
              go_simp
              refine hK.out _ _ (by trivial) (fun hHe4 => ?_)
              clear hK K
              try simp only [Act.put, List.setIfInBounds_toArray, List.set_cons_zero, List.set_cons_succ]
              refine wpAnyH_done (by kernel_rfl) ?_ _
              go_wp2_with fail
              go_roundg (gk - 1)
              case rel => exact ⟨k + 1, _, _, by go_num, by have := HLT.out; omega, Lib.hid (by have := HQ.out; omega), by rw [HSTP.out], by rw [HSTP.out] <;> simp, HWN⟩
              case measure => have := HQ.out; have := HLT.out; omega
            · go_simp
              go_at_call 36
              refine (HDIG.out _).mono ?_
              rintro e wq ⟨rfl, hbq⟩
              have HWQ := Lib.hid ((HWZ.out.older (Below.refl _ _).drew).older hbq)
              have q3 := HWQ.out.box.cell (i := 3) rfl
              have hzq := HWQ.out.box.lt
              clear hbq
              go_wp2_with fail
              refine hK.out _ _ (by trivial) (fun hHe0 => ?_)
              clear hK K
              try simp only [Act.put, List.setIfInBounds_toArray, List.set_cons_zero, List.set_cons_succ]
              refine Hd.tk 11 ?_
              try simp only [Act.put, List.setIfInBounds_toArray, List.set_cons_zero, List.set_cons_succ]
              refine wpAnyH_ready (rs := [1, 12]) (by kernel_rfl) (by simp) (AllReadyH.cons (by simp only [List.getElem?_toArray, List.getElem?_cons_succ, List.getElem?_cons_zero]; rfl) (fun K hK => ?_) (AllReadyH.cons (by simp only [List.getElem?_toArray, List.getElem?_cons_succ, List.getElem?_cons_zero]; rfl) (fun K hK => ?_) AllReadyH.nil))
              · go_simp
                refine hK.out _ _ (by trivial) (fun hHe1 => ?_)
                clear hK K
                try simp only [Act.put, List.setIfInBounds_toArray, List.set_cons_zero, List.set_cons_succ]
                refine wpAnyH_ready (rs := [12]) (by kernel_rfl) (by simp) (AllReadyH.cons (by simp only [List.getElem?_toArray, List.getElem?_cons_succ, List.getElem?_cons_zero]; rfl) (fun K hK => ?_) AllReadyH.nil)
                go_simp
                refine hK.out _ _ (by trivial) (fun hHe2 => ?_)
                clear hK K
                try simp only [Act.put, List.setIfInBounds_toArray, List.set_cons_zero, List.set_cons_succ]
                refine wpAnyH_ready (rs := [13]) (by kernel_rfl) (by simp) (AllReadyH.cons (by simp only [List.getElem?_toArray, List.getElem?_cons_succ, List.getElem?_cons_zero]; rfl) (fun K hK => ?_) AllReadyH.nil)
                have HWA := Lib.hid (HWQ.out.older ((Below.refl _ _).alloc (Nat.le_refl _) (.cells #[.string ⟨#[115, 50]⟩, .string ⟨#[97, 46, 101, 120, 97, 109, 112, 108, 101, 47, 120]⟩, .string ⟨#[49]⟩, .int .i64 (2 * (k : Int)), .int .i64 (k : Int), .bool false, .string ⟨#[115, 49]⟩, .string ⟨#[97, 46, 101, 120, 97, 109, 112, 108, 101, 47, 120]⟩, .string ⟨(Lib.decDigits (k + 2)).toArray⟩, .int .i64 (2 * (k : Int)), .int .i64 3, .bool false] 102)))
                refine step_appB tyFet (by rfl) _ _ (by rfl) w1.heap.size (.slice va st.fets.length vc) st.fets.length _ (by rfl) HWA.out.fet HWA.out.bel.size (.slice (some ⟨wq.heap.size, 0, none⟩) 2 2) 2 [.string ⟨#[115, 50]⟩, .string ⟨#[97, 46, 101, 120, 97, 109, 112, 108, 101, 47, 120]⟩, .string ⟨#[49]⟩, .int .i64 (2 * (k : Int)), .int .i64 (k : Int), .bool false, .string ⟨#[115, 49]⟩, .string ⟨#[97, 46, 101, 120, 97, 109, 112, 108, 101, 47, 120]⟩, .string ⟨(Lib.decDigits (k + 2)).toArray⟩, .int .i64 (2 * (k : Int)), .int .i64 3, .bool false] (by rfl) src_lits (by rfl) (by simp [Value.oneCell']) (by have := HFZ.out; omega) ?_
                intro v4 w4 hown4 hgrow4 hlies4
                have HWN := Lib.hid (HWA.out.addF (l := [sideA k, sideB k]) hown4 hgrow4 hlies4 true (wn + 1))
                have hb4 := HWA.out.boxF hgrow4
                obtain ⟨va2, vc2, rfl, _⟩ := hown4.form
                have c43 := hb4.cell (i := 3) rfl
                have f43 := hb4.frz 3
                have hz4 := hb4.lt
                clear hown4 hgrow4 hlies4 hb4
                rw [← HSTP.out] at HWN
                refine hK.out _ _ (by trivial) (fun hHe3 => ?_)
                clear hK K
                try simp only [Act.put, List.setIfInBounds_toArray, List.set_cons_zero, List.set_cons_succ]
                refine Hd.tk 14 ?_
                try simp only [Act.put, List.setIfInBounds_toArray, List.set_cons_zero, List.set_cons_succ]
                refine wpAnyH_ready (rs := [15]) (by kernel_rfl) (by simp) (AllReadyH.cons (by simp only [List.getElem?_toArray, List.getElem?_cons_succ, List.getElem?_cons_zero]; rfl) (fun K hK => ?_) AllReadyH.nil)
                go_simp
                refine hK.out _ _ (by trivial) (fun hHe4 => ?_)
                clear hK K
                try simp only [Act.put, List.setIfInBounds_toArray, List.set_cons_zero, List.set_cons_succ]
                refine wpAnyH_done (by kernel_rfl) ?_ _
                go_wp2_with fail
                go_roundg (gk - 1)
                case rel => exact ⟨k + 1, _, _, by go_num, by have := HLT.out; omega, Lib.hid (by have := HQ.out; omega), by rw [HSTP.out], by rw [HSTP.out] <;> simp, HWN⟩
                case measure => have := HQ.out; have := HLT.out; omega
              · go_simp
                refine hK.out _ _ (by trivial) (fun hHe1 => ?_)
                clear hK K
                try simp only [Act.put, List.setIfInBounds_toArray, List.set_cons_zero, List.set_cons_succ]
                refine wpAnyH_ready (rs := [1]) (by kernel_rfl) (by simp) (AllReadyH.cons (by simp only [List.getElem?_toArray, List.getElem?_cons_succ, List.getElem?_cons_zero]; rfl) (fun K hK => ?_) AllReadyH.nil)
                go_simp
                refine hK.out _ _ (by trivial) (fun hHe2 => ?_)
                clear hK K
                try simp only [Act.put, List.setIfInBounds_toArray, List.set_cons_zero, List.set_cons_succ]
                refine wpAnyH_ready (rs := [13]) (by kernel_rfl) (by simp) (AllReadyH.cons (by simp only [List.getElem?_toArray, List.getElem?_cons_succ, List.getElem?_cons_zero]; rfl) (fun K hK => ?_) AllReadyH.nil)
                have HWA := Lib.hid (HWQ.out.older ((Below.refl _ _).alloc (Nat.le_refl _) (.cells #[.string ⟨#[115, 50]⟩, .string ⟨#[97, 46, 101, 120, 97, 109, 112, 108, 101, 47, 120]⟩, .string ⟨#[49]⟩, .int .i64 (2 * (k : Int)), .int .i64 (k : Int), .bool false, .string ⟨#[115, 49]⟩, .string ⟨#[97, 46, 101, 120, 97, 109, 112, 108, 101, 47, 120]⟩, .string ⟨(Lib.decDigits (k + 2)).toArray⟩, .int .i64 (2 * (k : Int)), .int .i64 3, .bool false] 102)))
                refine step_appB tyFet (by rfl) _ _ (by rfl) w1.heap.size (.slice va st.fets.length vc) st.fets.length _ (by rfl) HWA.out.fet HWA.out.bel.size (.slice (some ⟨wq.heap.size, 0, none⟩) 2 2) 2 [.string ⟨#[115, 50]⟩, .string ⟨#[97, 46, 101, 120, 97, 109, 112, 108, 101, 47, 120]⟩, .string ⟨#[49]⟩, .int .i64 (2 * (k : Int)), .int .i64 (k : Int), .bool false, .string ⟨#[115, 49]⟩, .string ⟨#[97, 46, 101, 120, 97, 109, 112, 108, 101, 47, 120]⟩, .string ⟨(Lib.decDigits (k + 2)).toArray⟩, .int .i64 (2 * (k : Int)), .int .i64 3, .bool false] (by rfl) src_lits (by rfl) (by simp [Value.oneCell']) (by have := HFZ.out; omega) ?_
                intro v4 w4 hown4 hgrow4 hlies4
                have HWN := Lib.hid (HWA.out.addF (l := [sideA k, sideB k]) hown4 hgrow4 hlies4 true (wn + 1))
                have hb4 := HWA.out.boxF hgrow4
                obtain ⟨va2, vc2, rfl, _⟩ := hown4.form
                have c43 := hb4.cell (i := 3) rfl
                have f43 := hb4.frz 3
                have hz4 := hb4.lt
                clear hown4 hgrow4 hlies4 hb4
                rw [← HSTP.out] at HWN
                refine hK.out _ _ (by trivial) (fun hHe3 => ?_)
                clear hK K
                try simp only [Act.put, List.setIfInBounds_toArray, List.set_cons_zero, List.set_cons_succ]
                refine Hd.tk 14 ?_
                try simp only [Act.put, List.setIfInBounds_toArray, List.set_cons_zero, List.set_cons_succ]
                refine wpAnyH_ready (rs := [15]) (by kernel_rfl) (by simp) (AllReadyH.cons (by simp only [List.getElem?_toArray, List.getElem?_cons_succ, List.getElem?_cons_zero]; rfl) (fun K hK => ?_) AllReadyH.nil)
                go_simp
                refine hK.out _ _ (by trivial) (fun hHe4 => ?_)
                clear hK K
                try simp only [Act.put, List.setIfInBounds_toArray, List.set_cons_zero, List.set_cons_succ]
                refine wpAnyH_done (by kernel_rfl) ?_ _
                go_wp2_with fail
                go_roundg (gk - 1)
                case rel => exact ⟨k + 1, _, _, by go_num, by have := HLT.out; omega, Lib.hid (by have := HQ.out; omega), by rw [HSTP.out], by rw [HSTP.out] <;> simp, HWN⟩
                case measure => have := HQ.out; have := HLT.out; omega
          | false =>
            have HWA := Lib.hid (HW.out.older ((Below.refl _ _).alloc (Nat.le_refl _) (.cells #[.string ⟨#[115, 49]⟩, .string ⟨#[97, 46, 101, 120, 97, 109, 112, 108, 101, 47, 120]⟩, .string ⟨#[49]⟩, .int .i64 (2 * (k : Int)), .int .i64 3, .bool false] 102)))
            have HXA := HWA.out.fet
            go_upto_region 19 with (at_builtin; go_must (refine wpList_appB tyFet (by rfl) _ _ (by rfl) w1.heap.size (.slice fa s.fets.length fc) s.fets.length _ (by rfl) HXA HWA.out.bel.size (.slice (some ⟨wr.heap.size, 0, none⟩) 1 1) 1 [.string ⟨#[115, 49]⟩, .string ⟨#[97, 46, 101, 120, 97, 109, 112, 108, 101, 47, 120]⟩, .string ⟨#[49]⟩, .int .i64 (2 * (k : Int)), .int .i64 3, .bool false] (by rfl) src_lits (by rfl) (by simp [Value.oneCell']) (by have := HFL.out; have := HDL.out; omega) ?_); intro v4 w4 hown4 hgrow4 hlies4; have HWZ := Lib.hid (HWA.out.addF (l := [mainF (2 * (k : Int)) false]) hown4 hgrow4 hlies4 true (wn)); have hb4 := HWA.out.boxF hgrow4; obtain ⟨va, vc, rfl, _⟩ := hown4.form; have c43 := hb4.cell (i := 3) rfl; have f43 := hb4.frz 3; have hz4 := hb4.lt; clear hown4 hgrow4 hlies4 hb4 HXA)
            obtain ⟨wz, hwz⟩ : ∃ z, w4.setCell ⟨b0, 3, none⟩ (.slice va (s.fets.length + 1) vc) = z := ⟨_, rfl⟩
            rw [hwz] at HWZ ⊢
            obtain ⟨st, hst⟩ : ∃ st : OnceS, st = ⟨s.fets ++ [mainF (2 * (k : Int)) false], s.dros, true, wn⟩ := ⟨_, rfl⟩
            rw [← hst] at HWZ
            have HN : Hid (s.fets.length + 1 = st.fets.length) := Lib.hid (by rw [hst] <;> simp)
            rw [HN.out] at HWZ
            try rw [HN.out]
            have HSTP : Hid (onceN f (k + 1) = ⟨st.fets ++ [sideA k, sideB k], st.dros, true, wn⟩) := Lib.hid (by
            show onceStep k (f k) (onceN f k) = _
            rw [HFB.out, HSE.out, hst]
            unfold onceStep onceF onceD
            simp [ha4, hhas, HHW.out])
            have HFZ := Lib.hid (show st.fets.length ≤ 121 by rw [← HN.out]; have := HFL.out; omega)
            have c3 := HWZ.out.box.cell (i := 3) rfl
            have hz0 := HWZ.out.box.lt
            clear hst hwz c43 f43 hz4
            refine wp_region_held_drew (S := (fun _ => True)) (by kernel_rfl) (by trivial) (fun hHeld => ?_)
            refine Hd.tk 0 ?_
            try simp only [Act.put, List.setIfInBounds_toArray, List.set_cons_zero, List.set_cons_succ]
            refine Hd.tk 2 ?_
            try simp only [Act.put, List.setIfInBounds_toArray, List.set_cons_zero, List.set_cons_succ]
            refine Hd.tk 3 ?_
            try simp only [Act.put, List.setIfInBounds_toArray, List.set_cons_zero, List.set_cons_succ]
            refine Hd.tk 4 ?_
            try simp only [Act.put, List.setIfInBounds_toArray, List.set_cons_zero, List.set_cons_succ]
            refine Hd.tk 5 ?_
            try simp only [Act.put, List.setIfInBounds_toArray, List.set_cons_zero, List.set_cons_succ]
            refine Hd.tk 6 ?_
            try simp only [Act.put, List.setIfInBounds_toArray, List.set_cons_zero, List.set_cons_succ]
            refine Hd.tk 7 ?_
            try simp only [Act.put, List.setIfInBounds_toArray, List.set_cons_zero, List.set_cons_succ]
            refine Hd.tk 9 ?_
            try simp only [Act.put, List.setIfInBounds_toArray, List.set_cons_zero, List.set_cons_succ]
            refine Hd.tk 10 ?_
            try simp only [Act.put, List.setIfInBounds_toArray, List.set_cons_zero, List.set_cons_succ]
            refine wpAnyH_ready (rs := [1, 8]) (by kernel_rfl) (by simp) (AllReadyH.cons (by simp only [List.getElem?_toArray, List.getElem?_cons_succ, List.getElem?_cons_zero]; rfl) (fun K hK => ?_) (AllReadyH.cons (by simp only [List.getElem?_toArray, List.getElem?_cons_succ, List.getElem?_cons_zero]; rfl) (fun K hK => ?_) AllReadyH.nil))
            · go_simp
              refine hK.out _ _ (by trivial) (fun hHe0 => ?_)
              clear hK K
              try simp only [Act.put, List.setIfInBounds_toArray, List.set_cons_zero, List.set_cons_succ]
              refine wpAnyH_ready (rs := [8]) (by kernel_rfl) (by simp) (AllReadyH.cons (by simp only [List.getElem?_toArray, List.getElem?_cons_succ, List.getElem?_cons_zero]; rfl) (fun K hK => ?_) AllReadyH.nil)
              go_simp
              go_at_call 36
              refine (HDIG.out _).mono ?_
              rintro e wq ⟨rfl, hbq⟩
              have HWQ := Lib.hid ((HWZ.out.older (Below.refl _ _).drew).older hbq)
              have q3 := HWQ.out.box.cell (i := 3) rfl
              have hzq := HWQ.out.box.lt
              clear hbq
              go_wp2_with fail
              refine hK.out _ _ (by trivial) (fun hHe1 => ?_)
              clear hK K
              try simp only [Act.put, List.setIfInBounds_toArray, List.set_cons_zero, List.set_cons_succ]
              refine Hd.tk 11 ?_
              try simp only [Act.put, List.setIfInBounds_toArray, List.set_cons_zero, List.set_cons_succ]
              refine wpAnyH_ready (rs := [12]) (by kernel_rfl) (by simp) (AllReadyH.cons (by simp only [List.getElem?_toArray, List.getElem?_cons_succ, List.getElem?_cons_zero]; rfl) (fun K hK => ?_) AllReadyH.nil)
              go_simp
              refine hK.out _ _ (by trivial) (fun hHe2 => ?_)
              clear hK K
              try simp only [Act.put, List.setIfInBounds_toArray, List.set_cons_zero, List.set_cons_succ]
              refine wpAnyH_ready (rs := [13]) (by kernel_rfl) (by simp) (AllReadyH.cons (by simp only [List.getElem?_toArray, List.getElem?_cons_succ, List.getElem?_cons_zero]; rfl) (fun K hK => ?_) AllReadyH.nil)
              have HWA := Lib.hid (HWQ.out.older ((Below.refl _ _).alloc (Nat.le_refl _) (.cells #[.string ⟨#[115, 50]⟩, .string ⟨#[97, 46, 101, 120, 97, 109, 112, 108, 101, 47, 120]⟩, .string ⟨#[49]⟩, .int .i64 (2 * (k : Int)), .int .i64 (k : Int), .bool false, .string ⟨#[115, 49]⟩, .string ⟨#[97, 46, 101, 120, 97, 109, 112, 108, 101, 47, 120]⟩, .string ⟨(Lib.decDigits (k + 2)).toArray⟩, .int .i64 (2 * (k : Int)), .int .i64 3, .bool false] 102)))
              refine step_appB tyFet (by rfl) _ _ (by rfl) w1.heap.size (.slice va st.fets.length vc) st.fets.length _ (by rfl) HWA.out.fet HWA.out.bel.size (.slice (some ⟨wq.heap.size, 0, none⟩) 2 2) 2 [.string ⟨#[115, 50]⟩, .string ⟨#[97, 46, 101, 120, 97, 109, 112, 108, 101, 47, 120]⟩, .string ⟨#[49]⟩, .int .i64 (2 * (k : Int)), .int .i64 (k : Int), .bool false, .string ⟨#[115, 49]⟩, .string ⟨#[97, 46, 101, 120, 97, 109, 112, 108, 101, 47, 120]⟩, .string ⟨(Lib.decDigits (k + 2)).toArray⟩, .int .i64 (2 * (k : Int)), .int .i64 3, .bool false] (by rfl) src_lits (by rfl) (by simp [Value.oneCell']) (by have := HFZ.out; omega) ?_
              intro v4 w4 hown4 hgrow4 hlies4
              have HWN := Lib.hid (HWA.out.addF (l := [sideA k, sideB k]) hown4 hgrow4 hlies4 true (wn))
              have hb4 := HWA.out.boxF hgrow4
              obtain ⟨va2, vc2, rfl, _⟩ := hown4.form
              have c43 := hb4.cell (i := 3) rfl
              have f43 := hb4.frz 3
              have hz4 := hb4.lt
              clear hown4 hgrow4 hlies4 hb4
              rw [← HSTP.out] at HWN
              refine hK.out _ _ (by trivial) (fun hHe3 => ?_)
              clear hK K
              try simp only [Act.put, List.setIfInBounds_toArray, List.set_cons_zero, List.set_cons_succ]
              refine Hd.tk 14 ?_
              try simp only [Act.put, List.setIfInBounds_toArray, List.set_cons_zero, List.set_cons_succ]
              refine wpAnyH_ready (rs := [15]) (by kernel_rfl) (by simp) (AllReadyH.cons (by simp only [List.getElem?_toArray, List.getElem?_cons_succ, List.getElem?_cons_zero]; rfl) (fun K hK => ?_) AllReadyH.nil)
              go_simp
              refine hK.out _ _ (by trivial) (fun hHe4 => ?_)
              clear hK K
              try simp only [Act.put, List.setIfInBounds_toArray, List.set_cons_zero, List.set_cons_succ]
              refine wpAnyH_done (by kernel_rfl) ?_ _
              go_wp2_with fail
              go_roundg (gk - 1)
              case rel => exact ⟨k + 1, _, _, by go_num, by have := HLT.out; omega, Lib.hid (by have := HQ.out; omega), by rw [HSTP.out], by rw [HSTP.out] <;> simp, HWN⟩
              case measure => have := HQ.out; have := HLT.out; omega
            · go_simp
              go_at_call 36
              refine (HDIG.out _).mono ?_
              rintro e wq ⟨rfl, hbq⟩
              have HWQ := Lib.hid ((HWZ.out.older (Below.refl _ _).drew).older hbq)
              have q3 := HWQ.out.box.cell (i := 3) rfl
              have hzq := HWQ.out.box.lt
              clear hbq
              go_wp2_with fail
              refine hK.out _ _ (by trivial) (fun hHe0 => ?_)
              clear hK K
              try simp only [Act.put, List.setIfInBounds_toArray, List.set_cons_zero, List.set_cons_succ]
              refine Hd.tk 11 ?_
              try simp only [Act.put, List.setIfInBounds_toArray, List.set_cons_zero, List.set_cons_succ]
              refine wpAnyH_ready (rs := [1, 12]) (by kernel_rfl) (by simp) (AllReadyH.cons (by simp only [List.getElem?_toArray, List.getElem?_cons_succ, List.getElem?_cons_zero]; rfl) (fun K hK => ?_) (AllReadyH.cons (by simp only [List.getElem?_toArray, List.getElem?_cons_succ, List.getElem?_cons_zero]; rfl) (fun K hK => ?_) AllReadyH.nil))
              · go_simp
                refine hK.out _ _ (by trivial) (fun hHe1 => ?_)
                clear hK K
                try simp only [Act.put, List.setIfInBounds_toArray, List.set_cons_zero, List.set_cons_succ]
                refine wpAnyH_ready (rs := [12]) (by kernel_rfl) (by simp) (AllReadyH.cons (by simp only [List.getElem?_toArray, List.getElem?_cons_succ, List.getElem?_cons_zero]; rfl) (fun K hK => ?_) AllReadyH.nil)
                go_simp
                refine hK.out _ _ (by trivial) (fun hHe2 => ?_)
                clear hK K
                try simp only [Act.put, List.setIfInBounds_toArray, List.set_cons_zero, List.set_cons_succ]
                refine wpAnyH_ready (rs := [13]) (by kernel_rfl) (by simp) (AllReadyH.cons (by simp only [List.getElem?_toArray, List.getElem?_cons_succ, List.getElem?_cons_zero]; rfl) (fun K hK => ?_) AllReadyH.nil)
                have HWA := Lib.hid (HWQ.out.older ((Below.refl _ _).alloc (Nat.le_refl _) (.cells #[.string ⟨#[115, 50]⟩, .string ⟨#[97, 46, 101, 120, 97, 109, 112, 108, 101, 47, 120]⟩, .string ⟨#[49]⟩, .int .i64 (2 * (k : Int)), .int .i64 (k : Int), .bool false, .string ⟨#[115, 49]⟩, .string ⟨#[97, 46, 101, 120, 97, 109, 112, 108, 101, 47, 120]⟩, .string ⟨(Lib.decDigits (k + 2)).toArray⟩, .int .i64 (2 * (k : Int)), .int .i64 3, .bool false] 102)))
                refine step_appB tyFet (by rfl) _ _ (by rfl) w1.heap.size (.slice va st.fets.length vc) st.fets.length _ (by rfl) HWA.out.fet HWA.out.bel.size (.slice (some ⟨wq.heap.size, 0, none⟩) 2 2) 2 [.string ⟨#[115, 50]⟩, .string ⟨#[97, 46, 101, 120, 97, 109, 112, 108, 101, 47, 120]⟩, .string ⟨#[49]⟩, .int .i64 (2 * (k : Int)), .int .i64 (k : Int), .bool false, .string ⟨#[115, 49]⟩, .string ⟨#[97, 46, 101, 120, 97, 109, 112, 108, 101, 47, 120]⟩, .string ⟨(Lib.decDigits (k + 2)).toArray⟩, .int .i64 (2 * (k : Int)), .int .i64 3, .bool false] (by rfl) src_lits (by rfl) (by simp [Value.oneCell']) (by have := HFZ.out; omega) ?_
                intro v4 w4 hown4 hgrow4 hlies4
                have HWN := Lib.hid (HWA.out.addF (l := [sideA k, sideB k]) hown4 hgrow4 hlies4 true (wn))
                have hb4 := HWA.out.boxF hgrow4
                obtain ⟨va2, vc2, rfl, _⟩ := hown4.form
                have c43 := hb4.cell (i := 3) rfl
                have f43 := hb4.frz 3
                have hz4 := hb4.lt
                clear hown4 hgrow4 hlies4 hb4
                rw [← HSTP.out] at HWN
                refine hK.out _ _ (by trivial) (fun hHe3 => ?_)
                clear hK K
                try simp only [Act.put, List.setIfInBounds_toArray, List.set_cons_zero, List.set_cons_succ]
                refine Hd.tk 14 ?_
                try simp only [Act.put, List.setIfInBounds_toArray, List.set_cons_zero, List.set_cons_succ]
                refine wpAnyH_ready (rs := [15]) (by kernel_rfl) (by simp) (AllReadyH.cons (by simp only [List.getElem?_toArray, List.getElem?_cons_succ, List.getElem?_cons_zero]; rfl) (fun K hK => ?_) AllReadyH.nil)
                go_simp
                refine hK.out _ _ (by trivial) (fun hHe4 => ?_)
                clear hK K
                try simp only [Act.put, List.setIfInBounds_toArray, List.set_cons_zero, List.set_cons_succ]
                refine wpAnyH_done (by kernel_rfl) ?_ _
                go_wp2_with fail
                go_roundg (gk - 1)
                case rel => exact ⟨k + 1, _, _, by go_num, by have := HLT.out; omega, Lib.hid (by have := HQ.out; omega), by rw [HSTP.out], by rw [HSTP.out] <;> simp, HWN⟩
                case measure => have := HQ.out; have := HLT.out; omega
              · go_simp
                refine hK.out _ _ (by trivial) (fun hHe1 => ?_)
                clear hK K
                try simp only [Act.put, List.setIfInBounds_toArray, List.set_cons_zero, List.set_cons_succ]
                refine wpAnyH_ready (rs := [1]) (by kernel_rfl) (by simp) (AllReadyH.cons (by simp only [List.getElem?_toArray, List.getElem?_cons_succ, List.getElem?_cons_zero]; rfl) (fun K hK => ?_) AllReadyH.nil)
                go_simp
                refine hK.out _ _ (by trivial) (fun hHe2 => ?_)
                clear hK K
                try simp only [Act.put, List.setIfInBounds_toArray, List.set_cons_zero, List.set_cons_succ]
                refine wpAnyH_ready (rs := [13]) (by kernel_rfl) (by simp) (AllReadyH.cons (by simp only [List.getElem?_toArray, List.getElem?_cons_succ, List.getElem?_cons_zero]; rfl) (fun K hK => ?_) AllReadyH.nil)
                have HWA := Lib.hid (HWQ.out.older ((Below.refl _ _).alloc (Nat.le_refl _) (.cells #[.string ⟨#[115, 50]⟩, .string ⟨#[97, 46, 101, 120, 97, 109, 112, 108, 101, 47, 120]⟩, .string ⟨#[49]⟩, .int .i64 (2 * (k : Int)), .int .i64 (k : Int), .bool false, .string ⟨#[115, 49]⟩, .string ⟨#[97, 46, 101, 120, 97, 109, 112, 108, 101, 47, 120]⟩, .string ⟨(Lib.decDigits (k + 2)).toArray⟩, .int .i64 (2 * (k : Int)), .int .i64 3, .bool false] 102)))
                refine step_appB tyFet (by rfl) _ _ (by rfl) w1.heap.size (.slice va st.fets.length vc) st.fets.length _ (by rfl) HWA.out.fet HWA.out.bel.size (.slice (some ⟨wq.heap.size, 0, none⟩) 2 2) 2 [.string ⟨#[115, 50]⟩, .string ⟨#[97, 46, 101, 120, 97, 109, 112, 108, 101, 47, 120]⟩, .string ⟨#[49]⟩, .int .i64 (2 * (k : Int)), .int .i64 (k : Int), .bool false, .string ⟨#[115, 49]⟩, .string ⟨#[97, 46, 101, 120, 97, 109, 112, 108, 101, 47, 120]⟩, .string ⟨(Lib.decDigits (k + 2)).toArray⟩, .int .i64 (2 * (k : Int)), .int .i64 3, .bool false] (by rfl) src_lits (by rfl) (by simp [Value.oneCell']) (by have := HFZ.out; omega) ?_
                intro v4 w4 hown4 hgrow4 hlies4
                have HWN := Lib.hid (HWA.out.addF (l := [sideA k, sideB k]) hown4 hgrow4 hlies4 true (wn))
                have hb4 := HWA.out.boxF hgrow4
                obtain ⟨va2, vc2, rfl, _⟩ := hown4.form
                have c43 := hb4.cell (i := 3) rfl
                have f43 := hb4.frz 3
                have hz4 := hb4.lt
                clear hown4 hgrow4 hlies4 hb4
                rw [← HSTP.out] at HWN
                refine hK.out _ _ (by trivial) (fun hHe3 => ?_)
                clear hK K
                try simp only [Act.put, List.setIfInBounds_toArray, List.set_cons_zero, List.set_cons_succ]
                refine Hd.tk 14 ?_
                try simp only [Act.put, List.setIfInBounds_toArray, List.set_cons_zero, List.set_cons_succ]
                refine wpAnyH_ready (rs := [15]) (by kernel_rfl) (by simp) (AllReadyH.cons (by simp only [List.getElem?_toArray, List.getElem?_cons_succ, List.getElem?_cons_zero]; rfl) (fun K hK => ?_) AllReadyH.nil)
                go_simp
                refine hK.out _ _ (by trivial) (fun hHe4 => ?_)
                clear hK K
                try simp only [Act.put, List.setIfInBounds_toArray, List.set_cons_zero, List.set_cons_succ]
                refine wpAnyH_done (by kernel_rfl) ?_ _
                go_wp2_with fail
                go_roundg (gk - 1)
                case rel => exact ⟨k + 1, _, _, by go_num, by have := HLT.out; omega, Lib.hid (by have := HQ.out; omega), by rw [HSTP.out], by rw [HSTP.out] <;> simp, HWN⟩
                case measure => have := HQ.out; have := HLT.out; omega
        · have mi : (a : Int) % 4 = 2 := by omega
          have mt : Int.tmod (a : Int) 4 = 2 := by rw [Int.tmod_eq_emod_of_nonneg (by omega)]; exact mi
          skip
          have HWA := Lib.hid (HW.out.older ((Below.refl _ _).alloc (Nat.le_refl _) (.cells #[.string ⟨#[115, 49]⟩, .string ⟨#[97, 46, 101, 120, 97, 109, 112, 108, 101, 47, 120]⟩, .string ⟨#[49]⟩, .int .i64 (2 * (k : Int)), .int .i64 3, .bool true] 102)))
          have HXA := HWA.out.fet
          go_upto_region 19 with (at_builtin; go_must (refine wpList_appB tyFet (by rfl) _ _ (by rfl) w1.heap.size (.slice fa s.fets.length fc) s.fets.length _ (by rfl) HXA HWA.out.bel.size (.slice (some ⟨wr.heap.size, 0, none⟩) 1 1) 1 [.string ⟨#[115, 49]⟩, .string ⟨#[97, 46, 101, 120, 97, 109, 112, 108, 101, 47, 120]⟩, .string ⟨#[49]⟩, .int .i64 (2 * (k : Int)), .int .i64 3, .bool true] (by rfl) src_lits (by rfl) (by simp [Value.oneCell']) (by have := HFL.out; have := HDL.out; omega) ?_); intro v4 w4 hown4 hgrow4 hlies4; have HWZ := Lib.hid (HWA.out.addF (l := [mainF (2 * (k : Int)) true]) hown4 hgrow4 hlies4 has (wn)); have hb4 := HWA.out.boxF hgrow4; obtain ⟨va, vc, rfl, _⟩ := hown4.form; have c43 := hb4.cell (i := 3) rfl; have f43 := hb4.frz 3; have hz4 := hb4.lt; clear hown4 hgrow4 hlies4 hb4 HXA)
          obtain ⟨wz, hwz⟩ : ∃ z, w4.setCell ⟨b0, 3, none⟩ (.slice va (s.fets.length + 1) vc) = z := ⟨_, rfl⟩
          rw [hwz] at HWZ ⊢
          obtain ⟨st, hst⟩ : ∃ st : OnceS, st = ⟨s.fets ++ [mainF (2 * (k : Int)) true], s.dros, has, wn⟩ := ⟨_, rfl⟩
          rw [← hst] at HWZ
          have HN : Hid (s.fets.length + 1 = st.fets.length) := Lib.hid (by rw [hst] <;> simp)
          rw [HN.out] at HWZ
          try rw [HN.out]
          have HSTP : Hid (onceN f (k + 1) = ⟨st.fets ++ [sideA k, sideB k], st.dros, has, wn⟩) := Lib.hid (by
            show onceStep k (f k) (onceN f k) = _
            rw [HFB.out, HSE.out, hst]
            unfold onceStep onceF onceD
            simp [ha4, hhas, HHW.out])
          have HFZ := Lib.hid (show st.fets.length ≤ 121 by rw [← HN.out]; have := HFL.out; omega)
          have c3 := HWZ.out.box.cell (i := 3) rfl
          have hz0 := HWZ.out.box.lt
          clear hst hwz c43 f43 hz4
          refine wp_region_held_drew (S := (fun _ => True)) (by kernel_rfl) (by trivial) (fun hHeld => ?_)
          refine Hd.tk 0 ?_
          try simp only [Act.put, List.setIfInBounds_toArray, List.set_cons_zero, List.set_cons_succ]
          refine Hd.tk 2 ?_
          try simp only [Act.put, List.setIfInBounds_toArray, List.set_cons_zero, List.set_cons_succ]
          refine Hd.tk 3 ?_
          try simp only [Act.put, List.setIfInBounds_toArray, List.set_cons_zero, List.set_cons_succ]
          refine Hd.tk 4 ?_
          try simp only [Act.put, List.setIfInBounds_toArray, List.set_cons_zero, List.set_cons_succ]
          refine Hd.tk 5 ?_
          try simp only [Act.put, List.setIfInBounds_toArray, List.set_cons_zero, List.set_cons_succ]
          refine Hd.tk 6 ?_
          try simp only [Act.put, List.setIfInBounds_toArray, List.set_cons_zero, List.set_cons_succ]
          refine Hd.tk 7 ?_
          try simp only [Act.put, List.setIfInBounds_toArray, List.set_cons_zero, List.set_cons_succ]
          refine Hd.tk 9 ?_
          try simp only [Act.put, List.setIfInBounds_toArray, List.set_cons_zero, List.set_cons_succ]
          refine Hd.tk 10 ?_
          try simp only [Act.put, List.setIfInBounds_toArray, List.set_cons_zero, List.set_cons_succ]
          refine wpAnyH_ready (rs := [1, 8]) (by kernel_rfl) (by simp) (AllReadyH.cons (by simp only [List.getElem?_toArray, List.getElem?_cons_succ, List.getElem?_cons_zero]; rfl) (fun K hK => ?_) (AllReadyH.cons (by simp only [List.getElem?_toArray, List.getElem?_cons_succ, List.getElem?_cons_zero]; rfl) (fun K hK => ?_) AllReadyH.nil))
          · go_simp
            refine hK.out _ _ (by trivial) (fun hHe0 => ?_)
            clear hK K
            try simp only [Act.put, List.setIfInBounds_toArray, List.set_cons_zero, List.set_cons_succ]
            refine wpAnyH_ready (rs := [8]) (by kernel_rfl) (by simp) (AllReadyH.cons (by simp only [List.getElem?_toArray, List.getElem?_cons_succ, List.getElem?_cons_zero]; rfl) (fun K hK => ?_) AllReadyH.nil)
            go_simp
            go_at_call 36
            refine (HDIG.out _).mono ?_
            rintro e wq ⟨rfl, hbq⟩
            have HWQ := Lib.hid ((HWZ.out.older (Below.refl _ _).drew).older hbq)
            have q3 := HWQ.out.box.cell (i := 3) rfl
            have hzq := HWQ.out.box.lt
            clear hbq
            go_wp2_with fail
            refine hK.out _ _ (by trivial) (fun hHe1 => ?_)
            clear hK K
            try simp only [Act.put, List.setIfInBounds_toArray, List.set_cons_zero, List.set_cons_succ]
            refine Hd.tk 11 ?_
            try simp only [Act.put, List.setIfInBounds_toArray, List.set_cons_zero, List.set_cons_succ]
            refine wpAnyH_ready (rs := [12]) (by kernel_rfl) (by simp) (AllReadyH.cons (by simp only [List.getElem?_toArray, List.getElem?_cons_succ, List.getElem?_cons_zero]; rfl) (fun K hK => ?_) AllReadyH.nil)
            go_simp
            refine hK.out _ _ (by trivial) (fun hHe2 => ?_)
            clear hK K
            try simp only [Act.put, List.setIfInBounds_toArray, List.set_cons_zero, List.set_cons_succ]
            refine wpAnyH_ready (rs := [13]) (by kernel_rfl) (by simp) (AllReadyH.cons (by simp only [List.getElem?_toArray, List.getElem?_cons_succ, List.getElem?_cons_zero]; rfl) (fun K hK => ?_) AllReadyH.nil)
            have HWA := Lib.hid (HWQ.out.older ((Below.refl _ _).alloc (Nat.le_refl _) (.cells #[.string ⟨#[115, 50]⟩, .string ⟨#[97, 46, 101, 120, 97, 109, 112, 108, 101, 47, 120]⟩, .string ⟨#[49]⟩, .int .i64 (2 * (k : Int)), .int .i64 (k : Int), .bool false, .string ⟨#[115, 49]⟩, .string ⟨#[97, 46, 101, 120, 97, 109, 112, 108, 101, 47, 120]⟩, .string ⟨(Lib.decDigits (k + 2)).toArray⟩, .int .i64 (2 * (k : Int)), .int .i64 3, .bool false] 102)))
            refine step_appB tyFet (by rfl) _ _ (by rfl) w1.heap.size (.slice va st.fets.length vc) st.fets.length _ (by rfl) HWA.out.fet HWA.out.bel.size (.slice (some ⟨wq.heap.size, 0, none⟩) 2 2) 2 [.string ⟨#[115, 50]⟩, .string ⟨#[97, 46, 101, 120, 97, 109, 112, 108, 101, 47, 120]⟩, .string ⟨#[49]⟩, .int .i64 (2 * (k : Int)), .int .i64 (k : Int), .bool false, .string ⟨#[115, 49]⟩, .string ⟨#[97, 46, 101, 120, 97, 109, 112, 108, 101, 47, 120]⟩, .string ⟨(Lib.decDigits (k + 2)).toArray⟩, .int .i64 (2 * (k : Int)), .int .i64 3, .bool false] (by rfl) src_lits (by rfl) (by simp [Value.oneCell']) (by have := HFZ.out; omega) ?_
            intro v4 w4 hown4 hgrow4 hlies4
            have HWN := Lib.hid (HWA.out.addF (l := [sideA k, sideB k]) hown4 hgrow4 hlies4 has (wn))
            have hb4 := HWA.out.boxF hgrow4
            obtain ⟨va2, vc2, rfl, _⟩ := hown4.form
            have c43 := hb4.cell (i := 3) rfl
            have f43 := hb4.frz 3
            have hz4 := hb4.lt
            clear hown4 hgrow4 hlies4 hb4
            rw [← HSTP.out] at HWN
            refine hK.out _ _ (by trivial) (fun hHe3 => ?_)
            clear hK K
            try simp only [Act.put, List.setIfInBounds_toArray, List.set_cons_zero, List.set_cons_succ]
            refine Hd.tk 14 ?_
            try simp only [Act.put, List.setIfInBounds_toArray, List.set_cons_zero, List.set_cons_succ]
            refine wpAnyH_ready (rs := [15]) (by kernel_rfl) (by simp) (AllReadyH.cons (by simp only [List.getElem?_toArray, List.getElem?_cons_succ, List.getElem?_cons_zero]; rfl) (fun K hK => ?_) AllReadyH.nil)
            go_simp
            refine hK.out _ _ (by trivial) (fun hHe4 => ?_)
            clear hK K
            try simp only [Act.put, List.setIfInBounds_toArray, List.set_cons_zero, List.set_cons_succ]
            refine wpAnyH_done (by kernel_rfl) ?_ _
            go_wp2_with fail
            go_roundg (gk - 1)
            case rel => exact ⟨k + 1, _, _, by go_num, by have := HLT.out; omega, Lib.hid (by have := HQ.out; omega), by rw [HSTP.out], by rw [HSTP.out] <;> simp, HWN⟩
            case measure => have := HQ.out; have := HLT.out; omega
          · go_simp
            go_at_call 36
            refine (HDIG.out _).mono ?_
            rintro e wq ⟨rfl, hbq⟩
            have HWQ := Lib.hid ((HWZ.out.older (Below.refl _ _).drew).older hbq)
            have q3 := HWQ.out.box.cell (i := 3) rfl
            have hzq := HWQ.out.box.lt
            clear hbq
            go_wp2_with fail
            refine hK.out _ _ (by trivial) (fun hHe0 => ?_)
            clear hK K
            try simp only [Act.put, List.setIfInBounds_toArray, List.set_cons_zero, List.set_cons_succ]
            refine Hd.tk 11 ?_
            try simp only [Act.put, List.setIfInBounds_toArray, List.set_cons_zero, List.set_cons_succ]
            refine wpAnyH_ready (rs := [1, 12]) (by kernel_rfl) (by simp) (AllReadyH.cons (by simp only [List.getElem?_toArray, List.getElem?_cons_succ, List.getElem?_cons_zero]; rfl) (fun K hK => ?_) (AllReadyH.cons (by simp only [List.getElem?_toArray, List.getElem?_cons_succ, List.getElem?_cons_zero]; rfl) (fun K hK => ?_) AllReadyH.nil))
            · go_simp
              refine hK.out _ _ (by trivial) (fun hHe1 => ?_)
              clear hK K
              try simp only [Act.put, List.setIfInBounds_toArray, List.set_cons_zero, List.set_cons_succ]
              refine wpAnyH_ready (rs := [12]) (by kernel_rfl) (by simp) (AllReadyH.cons (by simp only [List.getElem?_toArray, List.getElem?_cons_succ, List.getElem?_cons_zero]; rfl) (fun K hK => ?_) AllReadyH.nil)
              go_simp
              refine hK.out _ _ (by trivial) (fun hHe2 => ?_)
              clear hK K
              try simp only [Act.put, List.setIfInBounds_toArray, List.set_cons_zero, List.set_cons_succ]
              refine wpAnyH_ready (rs := [13]) (by kernel_rfl) (by simp) (AllReadyH.cons (by simp only [List.getElem?_toArray, List.getElem?_cons_succ, List.getElem?_cons_zero]; rfl) (fun K hK => ?_) AllReadyH.nil)
              have HWA := Lib.hid (HWQ.out.older ((Below.refl _ _).alloc (Nat.le_refl _) (.cells #[.string ⟨#[115, 50]⟩, .string ⟨#[97, 46, 101, 120, 97, 109, 112, 108, 101, 47, 120]⟩, .string ⟨#[49]⟩, .int .i64 (2 * (k : Int)), .int .i64 (k : Int), .bool false, .string ⟨#[115, 49]⟩, .string ⟨#[97, 46, 101, 120, 97, 109, 112, 108, 101, 47, 120]⟩, .string ⟨(Lib.decDigits (k + 2)).toArray⟩, .int .i64 (2 * (k : Int)), .int .i64 3, .bool false] 102)))
              refine step_appB tyFet (by rfl) _ _ (by rfl) w1.heap.size (.slice va st.fets.length vc) st.fets.length _ (by rfl) HWA.out.fet HWA.out.bel.size (.slice (some ⟨wq.heap.size, 0, none⟩) 2 2) 2 [.string ⟨#[115, 50]⟩, .string ⟨#[97, 46, 101, 120, 97, 109, 112, 108, 101, 47, 120]⟩, .string ⟨#[49]⟩, .int .i64 (2 * (k : Int)), .int .i64 (k : Int), .bool false, .string ⟨#[115, 49]⟩, .string ⟨#[97, 46, 101, 120, 97, 109, 112, 108, 101, 47, 120]⟩, .string ⟨(Lib.decDigits (k + 2)).toArray⟩, .int .i64 (2 * (k : Int)), .int .i64 3, .bool false] (by rfl) src_lits (by rfl) (by simp [Value.oneCell']) (by have := HFZ.out; omega) ?_
              intro v4 w4 hown4 hgrow4 hlies4
              have HWN := Lib.hid (HWA.out.addF (l := [sideA k, sideB k]) hown4 hgrow4 hlies4 has (wn))
              have hb4 := HWA.out.boxF hgrow4
              obtain ⟨va2, vc2, rfl, _⟩ := hown4.form
              have c43 := hb4.cell (i := 3) rfl
              have f43 := hb4.frz 3
              have hz4 := hb4.lt
              clear hown4 hgrow4 hlies4 hb4
              rw [← HSTP.out] at HWN
              refine hK.out _ _ (by trivial) (fun hHe3 => ?_)
              clear hK K
              try simp only [Act.put, List.setIfInBounds_toArray, List.set_cons_zero, List.set_cons_succ]
              refine Hd.tk 14 ?_
              try simp only [Act.put, List.setIfInBounds_toArray, List.set_cons_zero, List.set_cons_succ]
              refine wpAnyH_ready (rs := [15]) (by kernel_rfl) (by simp) (AllReadyH.cons (by simp only [List.getElem?_toArray, List.getElem?_cons_succ, List.getElem?_cons_zero]; rfl) (fun K hK => ?_) AllReadyH.nil)
              go_simp
              refine hK.out _ _ (by trivial) (fun hHe4 => ?_)
              clear hK K
              try simp only [Act.put, List.setIfInBounds_toArray, List.set_cons_zero, List.set_cons_succ]
              refine wpAnyH_done (by kernel_rfl) ?_ _
              go_wp2_with fail
              go_roundg (gk - 1)
              case rel => exact ⟨k + 1, _, _, by go_num, by have := HLT.out; omega, Lib.hid (by have := HQ.out; omega), by rw [HSTP.out], by rw [HSTP.out] <;> simp, HWN⟩
              case measure => have := HQ.out; have := HLT.out; omega
            · go_simp
              refine hK.out _ _ (by trivial) (fun hHe1 => ?_)
              clear hK K
              try simp only [Act.put, List.setIfInBounds_toArray, List.set_cons_zero, List.set_cons_succ]
              refine wpAnyH_ready (rs := [1]) (by kernel_rfl) (by simp) (AllReadyH.cons (by simp only [List.getElem?_toArray, List.getElem?_cons_succ, List.getElem?_cons_zero]; rfl) (fun K hK => ?_) AllReadyH.nil)
              go_simp
              refine hK.out _ _ (by trivial) (fun hHe2 => ?_)
              clear hK K
              try simp only [Act.put, List.setIfInBounds_toArray, List.set_cons_zero, List.set_cons_succ]
              refine wpAnyH_ready (rs := [13]) (by kernel_rfl) (by simp) (AllReadyH.cons (by simp only [List.getElem?_toArray, List.getElem?_cons_succ, List.getElem?_cons_zero]; rfl) (fun K hK => ?_) AllReadyH.nil)
              have HWA := Lib.hid (HWQ.out.older ((Below.refl _ _).alloc (Nat.le_refl _) (.cells #[.string ⟨#[115, 50]⟩, .string ⟨#[97, 46, 101, 120, 97, 109, 112, 108, 101, 47, 120]⟩, .string ⟨#[49]⟩, .int .i64 (2 * (k : Int)), .int .i64 (k : Int), .bool false, .string ⟨#[115, 49]⟩, .string ⟨#[97, 46, 101, 120, 97, 109, 112, 108, 101, 47, 120]⟩, .string ⟨(Lib.decDigits (k + 2)).toArray⟩, .int .i64 (2 * (k : Int)), .int .i64 3, .bool false] 102)))
              refine step_appB tyFet (by rfl) _ _ (by rfl) w1.heap.size (.slice va st.fets.length vc) st.fets.length _ (by rfl) HWA.out.fet HWA.out.bel.size (.slice (some ⟨wq.heap.size, 0, none⟩) 2 2) 2 [.string ⟨#[115, 50]⟩, .string ⟨#[97, 46, 101, 120, 97, 109, 112, 108, 101, 47, 120]⟩, .string ⟨#[49]⟩, .int .i64 (2 * (k : Int)), .int .i64 (k : Int), .bool false, .string ⟨#[115, 49]⟩, .string ⟨#[97, 46, 101, 120, 97, 109, 112, 108, 101, 47, 120]⟩, .string ⟨(Lib.decDigits (k + 2)).toArray⟩, .int .i64 (2 * (k : Int)), .int .i64 3, .bool false] (by rfl) src_lits (by rfl) (by simp [Value.oneCell']) (by have := HFZ.out; omega) ?_
              intro v4 w4 hown4 hgrow4 hlies4
              have HWN := Lib.hid (HWA.out.addF (l := [sideA k, sideB k]) hown4 hgrow4 hlies4 has (wn))
              have hb4 := HWA.out.boxF hgrow4
              obtain ⟨va2, vc2, rfl, _⟩ := hown4.form
              have c43 := hb4.cell (i := 3) rfl
              have f43 := hb4.frz 3
              have hz4 := hb4.lt
              clear hown4 hgrow4 hlies4 hb4
              rw [← HSTP.out] at HWN
              refine hK.out _ _ (by trivial) (fun hHe3 => ?_)
              clear hK K
              try simp only [Act.put, List.setIfInBounds_toArray, List.set_cons_zero, List.set_cons_succ]
              refine Hd.tk 14 ?_
              try simp only [Act.put, List.setIfInBounds_toArray, List.set_cons_zero, List.set_cons_succ]
              refine wpAnyH_ready (rs := [15]) (by kernel_rfl) (by simp) (AllReadyH.cons (by simp only [List.getElem?_toArray, List.getElem?_cons_succ, List.getElem?_cons_zero]; rfl) (fun K hK => ?_) AllReadyH.nil)
              go_simp
              refine hK.out _ _ (by trivial) (fun hHe4 => ?_)
              clear hK K
              try simp only [Act.put, List.setIfInBounds_toArray, List.set_cons_zero, List.set_cons_succ]
              refine wpAnyH_done (by kernel_rfl) ?_ _
              go_wp2_with fail
              go_roundg (gk - 1)
              case rel => exact ⟨k + 1, _, _, by go_num, by have := HLT.out; omega, Lib.hid (by have := HQ.out; omega), by rw [HSTP.out], by rw [HSTP.out] <;> simp, HWN⟩
              case measure => have := HQ.out; have := HLT.out; omega
        · have mi : (a : Int) % 4 = 3 := by omega
          have mt : Int.tmod (a : Int) 4 = 3 := by rw [Int.tmod_eq_emod_of_nonneg (by omega)]; exact mi
          skip
          have HWA := Lib.hid (HW.out.older ((Below.refl _ _).alloc (Nat.le_refl _) (.cells #[.string ⟨#[115, 49]⟩, .string ⟨#[97, 46, 101, 120, 97, 109, 112, 108, 101, 47, 120]⟩, .int .i64 (2 * (k : Int) - 1)] 104)))
          have HXA := HWA.out.dro
          go_upto_region 19 with (at_builtin; go_must (refine wpList_appB tyDro (by rfl) _ _ (by rfl) w1.heap.size (.slice da s.dros.length dc) s.dros.length _ (by rfl) HXA HWA.out.bel.size (.slice (some ⟨wr.heap.size, 0, none⟩) 1 1) 1 [.string ⟨#[115, 49]⟩, .string ⟨#[97, 46, 101, 120, 97, 109, 112, 108, 101, 47, 120]⟩, .int .i64 (2 * (k : Int) - 1)] (by rfl) src_lits (by rfl) (by simp [Value.oneCell']) (by have := HFL.out; have := HDL.out; omega) ?_); intro v4 w4 hown4 hgrow4 hlies4; have HWZ := Lib.hid (HWA.out.addD (l := [lossD k]) hown4 hgrow4 hlies4 false (wn)); have hb4 := HWA.out.boxD hgrow4; obtain ⟨va, vc, rfl, _⟩ := hown4.form; have c43 := hb4.cell (i := 4) rfl; have f43 := hb4.frz 4; have hz4 := hb4.lt; clear hown4 hgrow4 hlies4 hb4 HXA)
          obtain ⟨wz, hwz⟩ : ∃ z, w4.setCell ⟨b0, 4, none⟩ (.slice va (s.dros.length + 1) vc) = z := ⟨_, rfl⟩
          rw [hwz] at HWZ ⊢
          obtain ⟨st, hst⟩ : ∃ st : OnceS, st = ⟨s.fets, s.dros ++ [lossD k], false, wn⟩ := ⟨_, rfl⟩
          rw [← hst] at HWZ
          have HN : Hid (s.fets.length = st.fets.length) := Lib.hid (by rw [hst] <;> simp)
          rw [HN.out] at HWZ
          try rw [HN.out]
          have HSTP : Hid (onceN f (k + 1) = ⟨st.fets ++ [sideA k, sideB k], st.dros, false, wn⟩) := Lib.hid (by
            show onceStep k (f k) (onceN f k) = _
            rw [HFB.out, HSE.out, hst]
            unfold onceStep onceF onceD
            simp [ha4, hhas, HHW.out])
          have HFZ := Lib.hid (show st.fets.length ≤ 121 by rw [← HN.out]; have := HFL.out; omega)
          have c3 := HWZ.out.box.cell (i := 3) rfl
          have hz0 := HWZ.out.box.lt
          clear hst hwz c43 f43 hz4
          refine wp_region_held_drew (S := (fun _ => True)) (by kernel_rfl) (by trivial) (fun hHeld => ?_)
          refine Hd.tk 0 ?_
          try simp only [Act.put, List.setIfInBounds_toArray, List.set_cons_zero, List.set_cons_succ]
          refine Hd.tk 2 ?_
          try simp only [Act.put, List.setIfInBounds_toArray, List.set_cons_zero, List.set_cons_succ]
          refine Hd.tk 3 ?_
          try simp only [Act.put, List.setIfInBounds_toArray, List.set_cons_zero, List.set_cons_succ]
          refine Hd.tk 4 ?_
          try simp only [Act.put, List.setIfInBounds_toArray, List.set_cons_zero, List.set_cons_succ]
          refine Hd.tk 5 ?_
          try simp only [Act.put, List.setIfInBounds_toArray, List.set_cons_zero, List.set_cons_succ]
          refine Hd.tk 6 ?_
          try simp only [Act.put, List.setIfInBounds_toArray, List.set_cons_zero, List.set_cons_succ]
          refine Hd.tk 7 ?_
          try simp only [Act.put, List.setIfInBounds_toArray, List.set_cons_zero, List.set_cons_succ]
          refine Hd.tk 9 ?_
          try simp only [Act.put, List.setIfInBounds_toArray, List.set_cons_zero, List.set_cons_succ]
          refine Hd.tk 10 ?_
          try simp only [Act.put, List.setIfInBounds_toArray, List.set_cons_zero, List.set_cons_succ]
          refine wpAnyH_ready (rs := [1, 8]) (by kernel_rfl) (by simp) (AllReadyH.cons (by simp only [List.getElem?_toArray, List.getElem?_cons_succ, List.getElem?_cons_zero]; rfl) (fun K hK => ?_) (AllReadyH.cons (by simp only [List.getElem?_toArray, List.getElem?_cons_succ, List.getElem?_cons_zero]; rfl) (fun K hK => ?_) AllReadyH.nil))
          · go_simp
            refine hK.out _ _ (by trivial) (fun hHe0 => ?_)
            clear hK K
            try simp only [Act.put, List.setIfInBounds_toArray, List.set_cons_zero, List.set_cons_succ]
            refine wpAnyH_ready (rs := [8]) (by kernel_rfl) (by simp) (AllReadyH.cons (by simp only [List.getElem?_toArray, List.getElem?_cons_succ, List.getElem?_cons_zero]; rfl) (fun K hK => ?_) AllReadyH.nil)
            go_simp
            go_at_call 36
            refine (HDIG.out _).mono ?_
            rintro e wq ⟨rfl, hbq⟩
            have HWQ := Lib.hid ((HWZ.out.older (Below.refl _ _).drew).older hbq)
            have q3 := HWQ.out.box.cell (i := 3) rfl
            have hzq := HWQ.out.box.lt
            clear hbq
            go_wp2_with fail
            refine hK.out _ _ (by trivial) (fun hHe1 => ?_)
            clear hK K
            try simp only [Act.put, List.setIfInBounds_toArray, List.set_cons_zero, List.set_cons_succ]
            refine Hd.tk 11 ?_
            try simp only [Act.put, List.setIfInBounds_toArray, List.set_cons_zero, List.set_cons_succ]
            refine wpAnyH_ready (rs := [12]) (by kernel_rfl) (by simp) (AllReadyH.cons (by simp only [List.getElem?_toArray, List.getElem?_cons_succ, List.getElem?_cons_zero]; rfl) (fun K hK => ?_) AllReadyH.nil)
            go_simp
            refine hK.out _ _ (by trivial) (fun hHe2 => ?_)
            clear hK K
            try simp only [Act.put, List.setIfInBounds_toArray, List.set_cons_zero, List.set_cons_succ]
            refine wpAnyH_ready (rs := [13]) (by kernel_rfl) (by simp) (AllReadyH.cons (by simp only [List.getElem?_toArray, List.getElem?_cons_succ, List.getElem?_cons_zero]; rfl) (fun K hK => ?_) AllReadyH.nil)
            have HWA := Lib.hid (HWQ.out.older ((Below.refl _ _).alloc (Nat.le_refl _) (.cells #[.string ⟨#[115, 50]⟩, .string ⟨#[97, 46, 101, 120, 97, 109, 112, 108, 101, 47, 120]⟩, .string ⟨#[49]⟩, .int .i64 (2 * (k : Int)), .int .i64 (k : Int), .bool false, .string ⟨#[115, 49]⟩, .string ⟨#[97, 46, 101, 120, 97, 109, 112, 108, 101, 47, 120]⟩, .string ⟨(Lib.decDigits (k + 2)).toArray⟩, .int .i64 (2 * (k : Int)), .int .i64 3, .bool false] 102)))
            refine step_appB tyFet (by rfl) _ _ (by rfl) w1.heap.size (.slice fa st.fets.length fc) st.fets.length _ (by rfl) HWA.out.fet HWA.out.bel.size (.slice (some ⟨wq.heap.size, 0, none⟩) 2 2) 2 [.string ⟨#[115, 50]⟩, .string ⟨#[97, 46, 101, 120, 97, 109, 112, 108, 101, 47, 120]⟩, .string ⟨#[49]⟩, .int .i64 (2 * (k : Int)), .int .i64 (k : Int), .bool false, .string ⟨#[115, 49]⟩, .string ⟨#[97, 46, 101, 120, 97, 109, 112, 108, 101, 47, 120]⟩, .string ⟨(Lib.decDigits (k + 2)).toArray⟩, .int .i64 (2 * (k : Int)), .int .i64 3, .bool false] (by rfl) src_lits (by rfl) (by simp [Value.oneCell']) (by have := HFZ.out; omega) ?_
            intro v4 w4 hown4 hgrow4 hlies4
            have HWN := Lib.hid (HWA.out.addF (l := [sideA k, sideB k]) hown4 hgrow4 hlies4 false (wn))
            have hb4 := HWA.out.boxF hgrow4
            obtain ⟨va, vc, rfl, _⟩ := hown4.form
            have c43 := hb4.cell (i := 3) rfl
            have f43 := hb4.frz 3
            have hz4 := hb4.lt
            clear hown4 hgrow4 hlies4 hb4
            rw [← HSTP.out] at HWN
            refine hK.out _ _ (by trivial) (fun hHe3 => ?_)
            clear hK K
            try simp only [Act.put, List.setIfInBounds_toArray, List.set_cons_zero, List.set_cons_succ]
            refine Hd.tk 14 ?_
            try simp only [Act.put, List.setIfInBounds_toArray, List.set_cons_zero, List.set_cons_succ]
            refine wpAnyH_ready (rs := [15]) (by kernel_rfl) (by simp) (AllReadyH.cons (by simp only [List.getElem?_toArray, List.getElem?_cons_succ, List.getElem?_cons_zero]; rfl) (fun K hK => ?_) AllReadyH.nil)
            go_simp
            refine hK.out _ _ (by trivial) (fun hHe4 => ?_)
            clear hK K
            try simp only [Act.put, List.setIfInBounds_toArray, List.set_cons_zero, List.set_cons_succ]
            refine wpAnyH_done (by kernel_rfl) ?_ _
            go_wp2_with fail
            go_roundg (gk - 1)
            case rel => exact ⟨k + 1, _, _, by go_num, by have := HLT.out; omega, Lib.hid (by have := HQ.out; omega), by rw [HSTP.out], by rw [HSTP.out] <;> simp, HWN⟩
            case measure => have := HQ.out; have := HLT.out; omega
          · go_simp
            go_at_call 36
            refine (HDIG.out _).mono ?_
            rintro e wq ⟨rfl, hbq⟩
            have HWQ := Lib.hid ((HWZ.out.older (Below.refl _ _).drew).older hbq)
            have q3 := HWQ.out.box.cell (i := 3) rfl
            have hzq := HWQ.out.box.lt
            clear hbq
            go_wp2_with fail
            refine hK.out _ _ (by trivial) (fun hHe0 => ?_)
            clear hK K
            try simp only [Act.put, List.setIfInBounds_toArray, List.set_cons_zero, List.set_cons_succ]
            refine Hd.tk 11 ?_
            try simp only [Act.put, List.setIfInBounds_toArray, List.set_cons_zero, List.set_cons_succ]
            refine wpAnyH_ready (rs := [1, 12]) (by kernel_rfl) (by simp) (AllReadyH.cons (by simp only [List.getElem?_toArray, List.getElem?_cons_succ, List.getElem?_cons_zero]; rfl) (fun K hK => ?_) (AllReadyH.cons (by simp only [List.getElem?_toArray, List.getElem?_cons_succ, List.getElem?_cons_zero]; rfl) (fun K hK => ?_) AllReadyH.nil))
            · go_simp
              refine hK.out _ _ (by trivial) (fun hHe1 => ?_)
              clear hK K
              try simp only [Act.put, List.setIfInBounds_toArray, List.set_cons_zero, List.set_cons_succ]
              refine wpAnyH_ready (rs := [12]) (by kernel_rfl) (by simp) (AllReadyH.cons (by simp only [List.getElem?_toArray, List.getElem?_cons_succ, List.getElem?_cons_zero]; rfl) (fun K hK => ?_) AllReadyH.nil)
              go_simp
              refine hK.out _ _ (by trivial) (fun hHe2 => ?_)
              clear hK K
              try simp only [Act.put, List.setIfInBounds_toArray, List.set_cons_zero, List.set_cons_succ]
              refine wpAnyH_ready (rs := [13]) (by kernel_rfl) (by simp) (AllReadyH.cons (by simp only [List.getElem?_toArray, List.getElem?_cons_succ, List.getElem?_cons_zero]; rfl) (fun K hK => ?_) AllReadyH.nil)
              have HWA := Lib.hid (HWQ.out.older ((Below.refl _ _).alloc (Nat.le_refl _) (.cells #[.string ⟨#[115, 50]⟩, .string ⟨#[97, 46, 101, 120, 97, 109, 112, 108, 101, 47, 120]⟩, .string ⟨#[49]⟩, .int .i64 (2 * (k : Int)), .int .i64 (k : Int), .bool false, .string ⟨#[115, 49]⟩, .string ⟨#[97, 46, 101, 120, 97, 109, 112, 108, 101, 47, 120]⟩, .string ⟨(Lib.decDigits (k + 2)).toArray⟩, .int .i64 (2 * (k : Int)), .int .i64 3, .bool false] 102)))
              refine step_appB tyFet (by rfl) _ _ (by rfl) w1.heap.size (.slice fa st.fets.length fc) st.fets.length _ (by rfl) HWA.out.fet HWA.out.bel.size (.slice (some ⟨wq.heap.size, 0, none⟩) 2 2) 2 [.string ⟨#[115, 50]⟩, .string ⟨#[97, 46, 101, 120, 97, 109, 112, 108, 101, 47, 120]⟩, .string ⟨#[49]⟩, .int .i64 (2 * (k : Int)), .int .i64 (k : Int), .bool false, .string ⟨#[115, 49]⟩, .string ⟨#[97, 46, 101, 120, 97, 109, 112, 108, 101, 47, 120]⟩, .string ⟨(Lib.decDigits (k + 2)).toArray⟩, .int .i64 (2 * (k : Int)), .int .i64 3, .bool false] (by rfl) src_lits (by rfl) (by simp [Value.oneCell']) (by have := HFZ.out; omega) ?_
              intro v4 w4 hown4 hgrow4 hlies4
              have HWN := Lib.hid (HWA.out.addF (l := [sideA k, sideB k]) hown4 hgrow4 hlies4 false (wn))
              have hb4 := HWA.out.boxF hgrow4
              obtain ⟨va, vc, rfl, _⟩ := hown4.form
              have c43 := hb4.cell (i := 3) rfl
              have f43 := hb4.frz 3
              have hz4 := hb4.lt
              clear hown4 hgrow4 hlies4 hb4
              rw [← HSTP.out] at HWN
              refine hK.out _ _ (by trivial) (fun hHe3 => ?_)
              clear hK K
              try simp only [Act.put, List.setIfInBounds_toArray, List.set_cons_zero, List.set_cons_succ]
              refine Hd.tk 14 ?_
              try simp only [Act.put, List.setIfInBounds_toArray, List.set_cons_zero, List.set_cons_succ]
              refine wpAnyH_ready (rs := [15]) (by kernel_rfl) (by simp) (AllReadyH.cons (by simp only [List.getElem?_toArray, List.getElem?_cons_succ, List.getElem?_cons_zero]; rfl) (fun K hK => ?_) AllReadyH.nil)
              go_simp
              refine hK.out _ _ (by trivial) (fun hHe4 => ?_)
              clear hK K
              try simp only [Act.put, List.setIfInBounds_toArray, List.set_cons_zero, List.set_cons_succ]
              refine wpAnyH_done (by kernel_rfl) ?_ _
              go_wp2_with fail
              go_roundg (gk - 1)
              case rel => exact ⟨k + 1, _, _, by go_num, by have := HLT.out; omega, Lib.hid (by have := HQ.out; omega), by rw [HSTP.out], by rw [HSTP.out] <;> simp, HWN⟩
              case measure => have := HQ.out; have := HLT.out; omega
            · go_simp
              refine hK.out _ _ (by trivial) (fun hHe1 => ?_)
              clear hK K
              try simp only [Act.put, List.setIfInBounds_toArray, List.set_cons_zero, List.set_cons_succ]
              refine wpAnyH_ready (rs := [1]) (by kernel_rfl) (by simp) (AllReadyH.cons (by simp only [List.getElem?_toArray, List.getElem?_cons_succ, List.getElem?_cons_zero]; rfl) (fun K hK => ?_) AllReadyH.nil)
              go_simp
              refine hK.out _ _ (by trivial) (fun hHe2 => ?_)
              clear hK K
              try simp only [Act.put, List.setIfInBounds_toArray, List.set_cons_zero, List.set_cons_succ]
              refine wpAnyH_ready (rs := [13]) (by kernel_rfl) (by simp) (AllReadyH.cons (by simp only [List.getElem?_toArray, List.getElem?_cons_succ, List.getElem?_cons_zero]; rfl) (fun K hK => ?_) AllReadyH.nil)
              have HWA := Lib.hid (HWQ.out.older ((Below.refl _ _).alloc (Nat.le_refl _) (.cells #[.string ⟨#[115, 50]⟩, .string ⟨#[97, 46, 101, 120, 97, 109, 112, 108, 101, 47, 120]⟩, .string ⟨#[49]⟩, .int .i64 (2 * (k : Int)), .int .i64 (k : Int), .bool false, .string ⟨#[115, 49]⟩, .string ⟨#[97, 46, 101, 120, 97, 109, 112, 108, 101, 47, 120]⟩, .string ⟨(Lib.decDigits (k + 2)).toArray⟩, .int .i64 (2 * (k : Int)), .int .i64 3, .bool false] 102)))
              refine step_appB tyFet (by rfl) _ _ (by rfl) w1.heap.size (.slice fa st.fets.length fc) st.fets.length _ (by rfl) HWA.out.fet HWA.out.bel.size (.slice (some ⟨wq.heap.size, 0, none⟩) 2 2) 2 [.string ⟨#[115, 50]⟩, .string ⟨#[97, 46, 101, 120, 97, 109, 112, 108, 101, 47, 120]⟩, .string ⟨#[49]⟩, .int .i64 (2 * (k : Int)), .int .i64 (k : Int), .bool false, .string ⟨#[115, 49]⟩, .string ⟨#[97, 46, 101, 120, 97, 109, 112, 108, 101, 47, 120]⟩, .string ⟨(Lib.decDigits (k + 2)).toArray⟩, .int .i64 (2 * (k : Int)), .int .i64 3, .bool false] (by rfl) src_lits (by rfl) (by simp [Value.oneCell']) (by have := HFZ.out; omega) ?_
              intro v4 w4 hown4 hgrow4 hlies4
              have HWN := Lib.hid (HWA.out.addF (l := [sideA k, sideB k]) hown4 hgrow4 hlies4 false (wn))
              have hb4 := HWA.out.boxF hgrow4
              obtain ⟨va, vc, rfl, _⟩ := hown4.form
              have c43 := hb4.cell (i := 3) rfl
              have f43 := hb4.frz 3
              have hz4 := hb4.lt
              clear hown4 hgrow4 hlies4 hb4
              rw [← HSTP.out] at HWN
              refine hK.out _ _ (by trivial) (fun hHe3 => ?_)
              clear hK K
              try simp only [Act.put, List.setIfInBounds_toArray, List.set_cons_zero, List.set_cons_succ]
              refine Hd.tk 14 ?_
              try simp only [Act.put, List.setIfInBounds_toArray, List.set_cons_zero, List.set_cons_succ]
              refine wpAnyH_ready (rs := [15]) (by kernel_rfl) (by simp) (AllReadyH.cons (by simp only [List.getElem?_toArray, List.getElem?_cons_succ, List.getElem?_cons_zero]; rfl) (fun K hK => ?_) AllReadyH.nil)
              go_simp
              refine hK.out _ _ (by trivial) (fun hHe4 => ?_)
              clear hK K
              try simp only [Act.put, List.setIfInBounds_toArray, List.set_cons_zero, List.set_cons_succ]
              refine wpAnyH_done (by kernel_rfl) ?_ _
              go_wp2_with fail
              go_roundg (gk - 1)
              case rel => exact ⟨k + 1, _, _, by go_num, by have := HLT.out; omega, Lib.hid (by have := HQ.out; omega), by rw [HSTP.out], by rw [HSTP.out] <;> simp, HWN⟩
              case measure => have := HQ.out; have := HLT.out; omega

      · obtain rfl : k = acts.length := by omega
        have HAT := Lib.hid (once_at (f := f) (k := acts.length) (by rw [HSE.out]; exact HW.out) hlen)
        have HSM := Lib.hid (once_small (f := f) (k := acts.length) hlen)
        have HLEN := Lib.hid (once_law f acts.length ⟨[], [], [], (onceN f acts.length).fets, (onceN f acts.length).dros, 0, 0⟩ rfl rfl rfl rfl)
        rw [HSE.out] at HAT HSM HLEN
        have e0 := HW.out.box.cell (i := 0) rfl
        have e1 := HW.out.box.cell (i := 1) rfl
        have e2 := HW.out.box.cell (i := 2) rfl
        have e5 := HW.out.box.cell (i := 5) rfl
        have e6 := HW.out.box.cell (i := 6) rfl
        go_wp2_with (go_at_call 34; refine (Hy.check_any ⟨[], [], [], s.fets, s.dros, 0, 0⟩ (.slice none 0 0) (.slice none 0 0) (.slice none 0 0) (.slice fa s.fets.length fc) (.slice da s.dros.length dc) 200 _ (HRY.out.below (HB1.out.trans (HW.out.bel.mono HB1.out.size))) (HPW.out.below (HB1.out.trans (HW.out.bel.mono HB1.out.size))) HAT.out HSM.out (by decide)).mono ?_; rw [HLEN.out, HHW.out]; rintro e w5 ⟨u, rfl, ho, hb⟩; have HB5 := Lib.hid (HB1.out.trans ((HW.out.bel.trans (hb.mono HW.out.bel.size)).mono HB1.out.size)); obtain ⟨ua2, uc2, rfl, _⟩ := ho.form; clear hb ho)
        go_ret
        exact ⟨by simp, HB5.out⟩
  · have hl1 : (40 : Int) < (acts.length : Int) := by omega
    clear hr hp hx hl
    go_enter Tryz.func11, Tryz.ntmps11
    go_wp2_with (go_at_call 29; refine (awake58_any _ HRY.out HPW.out).mono ?_; rintro e w1 ⟨rfl, hb1⟩; have HB1 := Lib.hid hb1; clear hb1)
    go_ret
    exact ⟨rfl, HB1.out⟩

/-- What the walk gives, for every argument. -/
theorem contract (H : Type) (enc : TypeId × Value → H) (W : World) (base : Nat) (args : Array Value) (ds gs : List (DataW H)) (before : List MemPlace)
    (hval : ∀ (j : Nat) t v, Tryz.f11.params[j]? = some t → args[j]? = some v → Value.okWide Tryz.prog W .any base t v)
    (hW : DataW.Whole enc Tryz.prog Tryz.f11.params.toList Rows.historyOnceSpec.vars false W args.toList ds gs before) (hsz : (DataW.weightsEach Tryz.prog Tryz.f11.params.toList (ds ++ gs)).all (· ≤ reachBytes) = true) (hr : Ready W) (hw : A1.ParseAt W) :
    Calls Tryz.prog 11 args W fun e W' => ∃ v, e = .returned v ∧ Rows.historyOnceSpec.post enc Tryz.prog Tryz.f11 false true false false W args v W' := by
  have hW' := hW
  have hlt := fun p hp => hW.lt p hp
  obtain ⟨p, q, hA0, hV, rfl, hfz, hnd⟩ := hW
  have hA : DataW.TrodAll enc Tryz.prog W 0 (fun _ => true) true Tryz.f11.params.toList args.toList ds p := hA0
  have hA1 := hA
  obtain ⟨rfl, rfl⟩ := trodVars_none hV
  rw [Tryz.params11] at hA hval
  obtain ⟨v0, vs0, d0, ds0, p0, q0, hargs, rfl, rfl, h0, r0⟩ := trodAll_cons hA
  obtain ⟨rfl, rfl, rfl⟩ := trodAll_nil r0
  obtain rfl : args = #[v0] := by cases args; simp_all
  have fin : ∀ W', Below W.heap.size W W' → Rows.historyOnceSpec.post enc Tryz.prog Tryz.f11 false true false false W #[v0] (.bool true) W' := fun W' hb => by
    simp only [List.append_nil] at hA1 hW' hlt
    exact ⟨_, _, _, [], _, [], hW', trodAll_cons_mk (shut_bool Tryz.underlying4 _) trodAll_mk0, Fr.trodAll_below (by kernel_rfl) _ (by kernel_rfl) hA1 hb hlt, rfl, hb.frame _, fun h => by cases h⟩
  clear hW' hA0 hA1 hlt
  rw [Tryz.params11, List.append_nil] at hsz
  obtain ⟨ua0, ul0, uc0, rfl⟩ := okWide_slice Tryz.underlying84 (hval 0 84 v0 rfl rfl)
  obtain ⟨fu0, hf0⟩ := h0
  obtain ⟨xs0, hx0, hl0, _⟩ := Op.open_rows (R := Sg.byteC) (k := 1) (fun _ => True) Tryz.underlying84 (by kernel_rfl) (by decide) (fun n cs y hl h => byte_row hl h) hf0
  refine  (walk xs0 (.slice ua0 ul0 uc0) W hr hw hx0 hl0).mono fun e W' ⟨he, hb⟩ => ?_
  subst he
  exact ⟨_, rfl, fin W' hb⟩

theorem laid_met (os : Os) : laidMet Tryz.prog Rows.historyOnceRow.laid ((Fr.laidE Rows.historyOnceRow.laid os).forCall (fun _ _ => 0) ⟨#[], #[.slice none 0 0], []⟩).memory :=
  laidMet_of_run' 8 (by kernel_rfl) (by kernel_rfl)
theorem reads (os : Os) {H : Type} (enc : TypeId × Value → H) : ∃ places, DataW.whole enc Tryz.prog ((Fr.laidE Rows.historyOnceRow.laid os).forCall (fun _ _ => 0) ⟨#[], #[.slice none 0 0], []⟩).memory Tryz.f11.params.toList Rows.historyOnceSpec.vars false (#[.slice none 0 0] : Array Value).toList 8 = some ([.nil], [], places) :=
  ⟨[], by kernel_rfl⟩

theorem lifted (os : Os) (started : os.Started) (H : Type) (enc : TypeId × Value → H) (F : Stop.Interp) :
    ReturnsInHanded {} Tryz.checked os 11 .any ((OpenSpec.ofChange Rows.historyOnceSpec).preRow enc Tryz.prog Tryz.f11 Rows.historyOnceRow.domain false Rows.historyOnceRow.laid) (((OpenSpec.ofChange Rows.historyOnceSpec).at F).post enc Tryz.prog Tryz.f11 false true false false) := by
  obtain ⟨places, hx⟩ := reads os enc
  refine returnsInHanded_of_row (C := Tryz.checked) (s := OpenSpec.ofChange Rows.historyOnceSpec) Fr.own started (by kernel_rfl) Tryz.func11
    (witness_row_at (enc := enc) (C := Tryz.checked) false (Fr.laidE Rows.historyOnceRow.laid os) #[.slice none 0 0] rfl (by kernel_rfl) (by kernel_rfl) (by kernel_rfl)
      (OpenSpec.preRow_of_cond 8 hx (by kernel_rfl) (fun k hk => by cases hk) (by kernel_rfl) (laid_met os))) ?_
  intro W base args ds gs before hval hW _ hcond hsz hlaid hsh _
  exact contract H enc W base args ds gs before hval hW (by have h9 : (DataW.weightsEach Tryz.prog (Tryz.f11.params.toList ++ []) (ds ++ gs)).all (· ≤ reachBytes) = true := hsz; rw [List.append_nil] at h9; exact h9) (Fr.ready hsh) (Fr.parse_laid hlaid (by kernel_rfl) (by repeat first | exact List.mem_cons_self .. | apply List.mem_cons_of_mem) (by repeat first | exact List.mem_cons_self .. | apply List.mem_cons_of_mem) (by repeat first | exact List.mem_cons_self .. | apply List.mem_cons_of_mem))

theorem k_0 : Rows.historyOnceRow.wf (OpenSpec.ofChange (OpenSpec.ofChange Rows.historyOnceSpec).bare) = true := by kernel_rfl
theorem k_1 : laidOutB Tryz.prog = true := Fr.sf_laidOut
theorem k_2 : mapsRowed Tryz.prog = true := Fr.sf_mapsRowed
theorem k_3 : Tryz.f11.params.all (Tryz.prog.readableRec ·) = true := by kernel_rfl
theorem k_4 : namedTie Tryz.prog Rows.historyOnceRow.named (OpenSpec.ofChange Rows.historyOnceSpec).bare.vars = true := by kernel_rfl
theorem k_5 : (Rows.historyOnceRow.stops == []) = true := by kernel_rfl
theorem k_6 : (Tryz.prog.stops == []) = true := Fr.sf_stops
theorem k_7 : (Rows.historyOnceRow.knobs == []) = true := by kernel_rfl
theorem k_8 : (Tryz.prog.stopKnobs == []) = true := Fr.sf_stopKnobs
theorem k_9 : (Rows.historyOnceRow.inPlace == Tryz.prog.inPlace 11) = true := by kernel_rfl
theorem k_10 : (Rows.historyOnceRow.unfollowed == Tryz.prog.unfollowed 11) = true := by kernel_rfl
theorem k_11 : (Rows.historyOnceRow.recurses == Tryz.prog.recurses 11) = true := by kernel_rfl
theorem k_12 : (Rows.historyOnceRow.named == Tryz.prog.varsNamed 11) = true := by kernel_rfl
theorem k_13 : (Rows.historyOnceRow.maps == (Tryz.f11.params.toList ++ (OpenSpec.ofChange Rows.historyOnceSpec).bare.plain.varTypes Tryz.prog).any (Tryz.prog.mapsRec ·)) = true := by kernel_rfl
theorem k_14 : (Rows.historyOnceRow.ifaces == (Tryz.f11.params.toList ++ (OpenSpec.ofChange Rows.historyOnceSpec).bare.plain.varTypes Tryz.prog).any (Tryz.prog.ifacesRec ·)) = true := by kernel_rfl
theorem k_15 : (Rows.historyOnceRow.mapsOut == Tryz.prog.mapsAmong Tryz.f11.resultTypes.toList) = true := by kernel_rfl
theorem k_16 : (Rows.historyOnceRow.loops == (Tryz.f11.params.toList ++ (OpenSpec.ofChange Rows.historyOnceSpec).bare.plain.varTypes Tryz.prog).any (Tryz.prog.loopsFrom ·)) = true := by kernel_rfl
theorem k_17 : (Rows.historyOnceRow.wideKeys == (Tryz.f11.params.toList ++ (OpenSpec.ofChange Rows.historyOnceSpec).bare.plain.varTypes Tryz.prog ++ Tryz.f11.resultTypes.toList).any (Tryz.prog.wideKeysFrom ·)) = true := by kernel_rfl
theorem k_18 : (OpenSpec.ofChange Rows.historyOnceSpec).bare.vars.all (Tryz.prog.varReadable ·) = true := by kernel_rfl
theorem k_19 : Tryz.f11.resultTypes.all (fun t => Tryz.prog.readableRec t && decide (t < Tryz.prog.types.size)) = true := by kernel_rfl
theorem k_20 : (Rows.historyOnceRow.ifacesOut == Tryz.f11.resultTypes.toList.any (Tryz.prog.ifacesRec ·)) = true := by kernel_rfl
theorem k_21 : (Rows.historyOnceRow.loopsOut == Tryz.f11.resultTypes.toList.any (Tryz.prog.loopsFrom ·)) = true := by kernel_rfl
theorem k_22 : (Rows.historyOnceRow.plainKeys == Tryz.prog.plainKeys) = true := Fr.sf_plainKeys
theorem k_23 : Rows.historyOnceRow.shortTexts.isNone = true := by kernel_rfl
theorem k_24 : Tryz.prog.stopsHeard = true := Fr.sf_heard
theorem k_25 : Tryz.prog.mayEnter = true := Fr.sf_mayEnter
theorem k_26 : (Rows.historyOnceRow.lifted == Tryz.prog.liftsFinal) = true := Fr.sf_lifted
theorem k_27 : (Tryz.prog.make == some Rows.historyOnceRow.make) = true := Fr.sf_make
theorem k_28 : (Rows.historyOnceRow.kinds == (if Rows.historyOnceRow.domain.isEmpty then [] else Tryz.f11.params.toList.map fun t => match Tryz.prog.underlying t with | some (.int k) => some k | _ => none)) = true := by kernel_rfl
theorem k_29 : (Rows.historyOnceRow.pinned == Rows.historyOnceRow.pinnedBy) = true := by kernel_rfl
theorem k_30 : (Rows.historyOnceRow.veiled == (Tryz.f11.params.toList ++ (OpenSpec.ofChange Rows.historyOnceSpec).bare.plain.varTypes Tryz.prog ++ Tryz.f11.resultTypes.toList).any (Tryz.prog.veiledRec ·)) = true := by kernel_rfl
theorem k_31 : Rows.historyOnceRow.veiledFits Tryz.prog Tryz.f11.params.toList (Tryz.f11.params.toList ++ (OpenSpec.ofChange Rows.historyOnceSpec).bare.plain.varTypes Tryz.prog ++ Tryz.f11.resultTypes.toList) = true := by kernel_rfl
theorem closed : joinedFacts Tryz.prog 11 Tryz.f11 (OpenSpec.ofChange Rows.historyOnceSpec).bare Rows.historyOnceRow = true := Op.andT (Op.andT (Op.andT (Op.andT (Op.andT (Op.andT (Op.andT (Op.andT (Op.andT (Op.andT (Op.andT (Op.andT (Op.andT (Op.andT (Op.andT (Op.andT (Op.andT (Op.andT (Op.andT (Op.andT (Op.andT (Op.andT (Op.andT (Op.andT (Op.andT (Op.andT (Op.andT (Op.andT (Op.andT (Op.andT (Op.andT (k_0) k_1) k_2) k_3) k_4) k_5) k_6) k_7) k_8) k_9) k_10) k_11) k_12) k_13) k_14) k_15) k_16) k_17) k_18) k_19) k_20) k_21) k_22) k_23) k_24) k_25) k_26) k_27) k_28) k_29) k_30) k_31

theorem said : Rows.HistoryOnceSaid :=
  OpenClaim.holds_of_cond 11 Tryz.f11 rfl rfl rfl rfl rfl rfl rfl ⟨rfl, rfl, rfl, rfl, rfl⟩ rfl rfl rfl rfl rfl (by kernel_rfl) Tryz.func11 closed
    (of_decide_eq_true (by kernel_rfl)) (by unfold Func.isWrapper; first | (rw [if_pos (by decide +kernel)]; kernel_rfl) | (rw [if_neg (by decide +kernel)]; exact ⟨rfl, rfl⟩))
    (fun os started H enc _ F => by rw [OpenClaim.pre_eq_preRow]; exact lifted os started H enc F)

theorem plain (b : Bool) (hb : b = Tryz.pinned.checked.prog.looks []) (f : FuncId) (fn : Func) (hf : Tryz.pinned.checked.prog.funcNamed "quayside/quaysidelaw58.HistoryOnce" = some f) (hfn : Tryz.pinned.checked.prog.funcs[f]? = some fn) :
    b = Tryz.pinned.checked.prog.looks [] ∧ ∀ (j : Nat) t, fn.params[j]? = some t → Tryz.pinned.checked.prog.wantsStandIn t = false := by
  obtain rfl : f = 11 := Option.some.inj ((show Tryz.prog.funcNamed "quayside/quaysidelaw58.HistoryOnce" = some 11 by kernel_rfl).symm.trans hf) |>.symm
  obtain rfl : fn = Tryz.f11 := (Option.some.inj (Tryz.func11.symm.trans hfn)).symm
  refine ⟨hb, fun j t ht => ?_⟩
  rw [Tryz.params11] at ht
  have hm : t ∈ [84] := by simpa using Array.mem_of_getElem? ht
  have hall : ([84].all fun u => !Tryz.prog.wantsStandIn u) = true := by kernel_rfl
  exact (show Tryz.prog.wantsStandIn t = false by simpa using List.all_eq_true.1 hall t hm)

theorem proved : Rows.HistoryOnceCardSaid :=
  Claim7.holds_tied_plain_at .later [] _ _ _ _ said (fun _ h => by cases h) (by kernel_rfl) (fun _ h => by cases h) historyOnce_row_tie rfl ⟨rfl, rfl⟩ (by kernel_rfl) rfl (plain _ (by kernel_rfl)) (by kernel_rfl)
#print axioms proved
end Go.Proofs.YtjijijjkkhpjnaaGreatDoor.lawHistoryOnce
