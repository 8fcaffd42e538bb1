/- PROVED: PurgeTenants returns true for every input and leaves its arguments as they were. No condition beyond the statement's own (the listed variables read as the program's text lays them, which the card ties). -/
import Derived.Test.YtbnjajpencahfaaDoorFrame
import Derived.Test.YtbnjajpencahfaaDoorFrameW
import Derived.Test.YtbnjajpencahfaaDoorClosed
import Derived.Test.YtbnjajpencahfaaDoorPurgI
import Derived.Test.YtbnjajpencahfaaDoorPurg7
import Derived.Test.YtbnjajpencahfaaDoorOpenI
import Derived.Test.YtbnjajpencahfaaDoorInv
namespace Go.Proofs.YtbnjajpencahfaaDoor.lawPurgeTenants
open Go.ChangeShapes Go.WideShapes Go.ChangeAt Go.RowKit Pl Ad A1
open Go.ChangeMaps (open_string shut_string)
attribute [local go_sem] ba_get conv_one conv_one_drewN ba_append ba_extract
set_option maxRecDepth 100000
set_option maxHeartbeats 4000000
set_option linter.unusedVariables false
/-- The variables of a purge and an item, the item's tags, and the world below as it was. -/
structure PM (w : World) (k t : Int) (v : Bs) (xt : Int) (xa : Bs) (ua : Option Addr) (uc : Nat) (tags : List Bs) (w' : World) : Prop where
  bel : Below w.heap.size w w'
  box : Box3 w' w.heap.size 23 (.int .i64 k) (.int .i64 t) (.string ⟨v.toArray⟩)
  box2 : Box3 w' (w.heap.size + 1) 26 (.int .i64 xt) (.string ⟨xa.toArray⟩) (.slice ua tags.length uc)
  str : StrsV w' (.slice ua tags.length uc) tags
theorem PM.keep {w : World} {k t : Int} {v : Bs} {xt : Int} {xa : Bs} {ua : Option Addr} {uc : Nat} {tags : List Bs} {w1 w2 : World} {N : Nat} (hb : Below N w1 w2) (hN : N = w1.heap.size) (s : PM w k t v xt xa ua uc tags w1) : PM w k t v xt xa ua uc tags w2 := by
  subst hN
  exact ⟨s.bel.trans (hb.mono s.bel.size), s.box.older hb, s.box2.older hb, s.str.below hb⟩
theorem PM.drew {w : World} {k t : Int} {v : Bs} {xt : Int} {xa : Bs} {ua : Option Addr} {uc : Nat} {tags : List Bs} {w1 : World} (s : PM w k t v xt xa ua uc tags w1) : PM w k t v xt xa ua uc tags w1.drew := ⟨s.bel.drew, s.box, s.box2, s.str.drewN 1⟩
theorem PM.newer {w : World} {k t : Int} {v : Bs} {xt : Int} {xa : Bs} {ua : Option Addr} {uc : Nat} {tags : List Bs} {w1 : World} (s : PM w k t v xt xa ua uc tags w1) (o : Obj) : PM w k t v xt xa ua uc tags (w1.alloc o) := s.keep ((Below.refl _ _).alloc (Nat.le_refl _) o) rfl
theorem PM.of {w : World} {k t : Int} {v : Bs} {xt : Int} {xa : Bs} {ua : Option Addr} {uc : Nat} {tags : List Bs} {w' : World} (s : w'.cell? ⟨w.heap.size, 0, none⟩ = some (.int .i64 k) ∧ w'.cell? ⟨w.heap.size, 1, none⟩ = some (.int .i64 t) ∧ w'.cell? ⟨w.heap.size, 2, none⟩ = some (.string ⟨v.toArray⟩) ∧ w'.cell? ⟨w.heap.size + 1, 0, none⟩ = some (.int .i64 xt) ∧ w'.cell? ⟨w.heap.size + 1, 1, none⟩ = some (.string ⟨xa.toArray⟩) ∧ w'.cell? ⟨w.heap.size + 1, 2, none⟩ = some (.slice ua tags.length uc) ∧ PM w k t v xt xa ua uc tags w') : PM w k t v xt xa ua uc tags w' := s.2.2.2.2.2.2
theorem PM.all {w : World} {k t : Int} {v : Bs} {xt : Int} {xa : Bs} {ua : Option Addr} {uc : Nat} {tags : List Bs} {w' : World} (s : PM w k t v xt xa ua uc tags w') : w'.cell? ⟨w.heap.size, 0, none⟩ = some (.int .i64 k) ∧ w'.cell? ⟨w.heap.size, 1, none⟩ = some (.int .i64 t) ∧ w'.cell? ⟨w.heap.size, 2, none⟩ = some (.string ⟨v.toArray⟩) ∧ w'.cell? ⟨w.heap.size + 1, 0, none⟩ = some (.int .i64 xt) ∧ w'.cell? ⟨w.heap.size + 1, 1, none⟩ = some (.string ⟨xa.toArray⟩) ∧ w'.cell? ⟨w.heap.size + 1, 2, none⟩ = some (.slice ua tags.length uc) ∧ PM w k t v xt xa ua uc tags w' := ⟨s.box.facts.1.1, s.box.facts.1.2.1, s.box.facts.1.2.2, s.box2.facts.1.1, s.box2.facts.1.2.1, s.box2.facts.1.2.2, s⟩
theorem pm_new (w : World) (k t : Int) (v : Bs) (xt : Int) (xa : Bs) (ua : Option Addr) (uc : Nat) (tags : List Bs) (hu : StrsV w (.slice ua tags.length uc) tags) : PM w k t v xt xa ua uc tags ((w.alloc (.cells #[.int .i64 k, .int .i64 t, .string ⟨v.toArray⟩] 23)).alloc (.cells #[.int .i64 xt, .string ⟨xa.toArray⟩, (.slice ua tags.length uc)] 26)) := by
  have h2 := box3_new (w.alloc (.cells #[.int .i64 k, .int .i64 t, .string ⟨v.toArray⟩] 23)) 26 (.int .i64 xt) (.string ⟨xa.toArray⟩) (.slice ua tags.length uc)
  rw [show (w.alloc (.cells #[.int .i64 k, .int .i64 t, .string ⟨v.toArray⟩] 23)).heap.size = w.heap.size + 1 by simp] at h2
  have hb : Below w.heap.size w ((w.alloc (.cells #[.int .i64 k, .int .i64 t, .string ⟨v.toArray⟩] 23)).alloc (.cells #[.int .i64 xt, .string ⟨xa.toArray⟩, (.slice ua tags.length uc)] 26)) := ((Below.refl _ _).alloc (Nat.le_refl _) _).alloc (by simp) _
  exact ⟨hb, (box3_new w 23 _ _ _).alloc _, h2, hu.below hb⟩
theorem strs_keep {w1 w2 : World} {u : Value} {xs : List Bs} {N : Nat} (hb : Below N w1 w2) (hN : N = w1.heap.size) (s : StrsV w1 u xs) : StrsV w2 u xs := s.below (hN ▸ hb)
theorem strs_drew {w1 : World} {u : Value} {xs : List Bs} (s : StrsV w1 u xs) : StrsV w1.drew u xs := s.drewN 1

theorem walk_large1 (k t : Int) (v : Bs) (xt : Int) (xa : Bs) (ua : Option Addr) (uc : Nat) (tags : List Bs) (w : World) (hr : Ready w) (hw : WordsAt w) (hu : StrsV w (.slice ua tags.length uc) tags) (hul : tags.length ≤ 9223372036854775807) (hl : ¬ v.length ≤ 1500) :
    Calls Tryd.prog 3 #[.agg #[.int .i64 k, .int .i64 t, .string ⟨v.toArray⟩], .agg #[.int .i64 xt, .string ⟨xa.toArray⟩, (.slice ua tags.length uc)]] w fun e w' => e = .returned (.bool true) ∧ Below w.heap.size w w' := by
  have hp : PM w k t v xt xa ua uc tags ((w.alloc (.cells #[.int .i64 k, .int .i64 t, .string ⟨v.toArray⟩] 23)).alloc (.cells #[.int .i64 xt, .string ⟨xa.toArray⟩, (.slice ua tags.length uc)] 26)) := pm_new w k t v xt xa ua uc tags hu
  have HP := Lib.hid hp
  have HR := Lib.hid (hr.below hp.bel)
  have HW := Lib.hid (hw.below hp.bel)
  have HLa := Lib.hid (decide_eq_false hl)
  clear hl
  go_enter Tryd.func3, Tryd.ntmps3
  go_wp2_with fail
  refine (awake36_any _ HR.out HW.out).mono ?_
  rintro e w1 ⟨rfl, hb1⟩
  have hP1 := PM.keep hb1 rfl HP.out
  have HP1 := Lib.hid hP1
  obtain ⟨⟨c0, c1, c2⟩, _⟩ := hP1.box.facts
  obtain ⟨⟨d0, d1, d2⟩, _⟩ := hP1.box2.facts
  clear hb1 hP1
  go_wp2_with (first | (go_at_call 6; refine (small_any v _).mono ?_; rintro e w2 ⟨rfl, rfl⟩; rw [HLa.out]) | (go_at_call 5; refine (awake36_any _ (hr.below HP1.out.bel) (hw.below HP1.out.bel)).mono ?_; rintro e w3 ⟨rfl, hb3⟩))
  go_ret
  exact ⟨rfl, HP1.out.bel.trans (hb3.mono HP1.out.bel.size)⟩

theorem walk_large2 (k t : Int) (v : Bs) (xt : Int) (xa : Bs) (ua : Option Addr) (uc : Nat) (tags : List Bs) (w : World) (hr : Ready w) (hw : WordsAt w) (hu : StrsV w (.slice ua tags.length uc) tags) (hul : tags.length ≤ 9223372036854775807) (hla : v.length ≤ 1500) (hl : fitsB xa tags = false) :
    Calls Tryd.prog 3 #[.agg #[.int .i64 k, .int .i64 t, .string ⟨v.toArray⟩], .agg #[.int .i64 xt, .string ⟨xa.toArray⟩, (.slice ua tags.length uc)]] w fun e w' => e = .returned (.bool true) ∧ Below w.heap.size w w' := by
  have hp : PM w k t v xt xa ua uc tags ((w.alloc (.cells #[.int .i64 k, .int .i64 t, .string ⟨v.toArray⟩] 23)).alloc (.cells #[.int .i64 xt, .string ⟨xa.toArray⟩, (.slice ua tags.length uc)] 26)) := pm_new w k t v xt xa ua uc tags hu
  have HP := Lib.hid hp
  have HR := Lib.hid (hr.below hp.bel)
  have HW := Lib.hid (hw.below hp.bel)
  have HLa := Lib.hid (decide_eq_true hla)
  have HLb := Lib.hid hl
  clear hl hla
  go_enter Tryd.func3, Tryd.ntmps3
  go_wp2_with fail
  refine (awake36_any _ HR.out HW.out).mono ?_
  rintro e w1 ⟨rfl, hb1⟩
  have hP1 := PM.keep hb1 rfl HP.out
  have HP1 := Lib.hid hP1
  obtain ⟨⟨c0, c1, c2⟩, _⟩ := hP1.box.facts
  obtain ⟨⟨d0, d1, d2⟩, _⟩ := hP1.box2.facts
  clear hb1 hP1
  go_wp2_with (first | (go_at_call 6; refine (small_any v _).mono ?_; rintro e w2 ⟨rfl, rfl⟩; rw [HLa.out]) | (go_at_call 7; refine (fits_any xt xa _ tags _ HP1.out.str hul).mono ?_; rintro e w2 ⟨rfl, hb2⟩; rw [HLb.out]; have HP2 := Lib.hid (PM.keep hb2 rfl HP1.out); clear c0 c1 c2 d0 d1 d2 hb2) | (go_at_call 5; refine (awake36_any _ (hr.below HP2.out.bel) (hw.below HP2.out.bel)).mono ?_; rintro e w3 ⟨rfl, hb3⟩))
  go_ret
  exact ⟨rfl, HP2.out.bel.trans (hb3.mono HP2.out.bel.size)⟩


theorem below_two {w w1 w' : World} {B R : Nat} {NN : Bs} {OB : Option Nat} {v0 : Value} (hb : Below B w w1) (hg : ((w1.setCell ⟨R, 0, none⟩ v0).alloc (.cells #[.string ⟨NN.toArray⟩] 9)).grownBy w' OB) (hB : B ≤ w1.heap.size) (hR : B + 2 ≤ R) (ho : ∀ q, OB = some q → B ≤ q) (a b : Value) : Below B w ((w'.setCell ⟨R, 1, none⟩ a).setCell ⟨R, 2, none⟩ b) :=
  (((((hb.setCell (p := ⟨R, 0, none⟩) (by show B ≤ R; omega) v0).alloc (by simpa using hB) _).grown hg (by simp; omega) ho).setCell (p := ⟨R, 1, none⟩) (by show B ≤ R; omega) a).setCell (p := ⟨R, 2, none⟩) (by show B ≤ R; omega) b)
theorem below_own2 {w w1 : World} {B R : Nat} (hb : Below B w w1) (hR : B + 2 ≤ R) (a b : Value) : Below B w ((w1.setCell ⟨R, 0, none⟩ a).setCell ⟨R, 1, none⟩ b) :=
  (hb.setCell (p := ⟨R, 0, none⟩) (by show B ≤ R; omega) a).setCell (p := ⟨R, 1, none⟩) (by show B ≤ R; omega) b
theorem strs_snoc {w : World} {B : Nat} {v : Value} {xs : List Bs} {x : Bs} (h : OwnWin w B 9 1 v (xs.length + 1) (svals xs ++ [str x])) : StrsV w v (xs ++ [x]) := strsV_own (by simpa [svals] using h)

theorem PM.touch {w : World} {k t : Int} {v : Bs} {xt : Int} {xa : Bs} {ua : Option Addr} {uc : Nat} {tags : List Bs} {w1 w2 : World} {R : Nat} (hu : StrsV w (.slice ua tags.length uc) tags) (ht : Touch (fun k => k = R) w1 w2) (hR : w.heap.size + 2 ≤ R) (s : PM w k t v xt xa ua uc tags w1) : PM w k t v xt xa ua uc tags w2 := by
  have hb : Below w.heap.size w w2 := s.bel.trans (ht.below s.bel.size fun i hi => by subst hi; omega)
  exact ⟨hb, (ht.block _ s.box.facts.2.2 (by omega)).trans s.box, (ht.block _ s.box2.facts.2.2 (by omega)).trans s.box2, hu.below hb⟩

/-- What holds while the variables q and item are made, in whatever order. -/
structure PT (w : World) (k t : Int) (v : Bs) (xt : Int) (xa : Bs) (ua : Option Addr) (uc : Nat) (tags : List Bs) (b0 b1 b2 b3 b4 b5 b6 b7 : Bool) (x21 x22 x23 x24 x5 x6 : Value) (R5 R6 : Nat) (w' : World) : Prop where
  pm : PM w k t v xt xa ua uc tags w'
  d0 : b0 = true → x21 = (.agg #[.int .i64 k, .int .i64 t, .string ⟨v.toArray⟩])
  d1 : b1 = true → x22 = (.agg #[.int .i64 k, .int .i64 t, .string ⟨v.toArray⟩])
  d2 : b2 = true → x23 = (.agg #[.int .i64 xt, .string ⟨xa.toArray⟩, (.slice ua tags.length uc)])
  d3 : b3 = true → ∃ nv, x24 = .agg #[.int .i64 xt, .string ⟨xa.toArray⟩, nv] ∧ OwnWin w' (w.heap.size + 2) 9 1 nv tags.length (svals tags)
  t5 : Thr (w.heap.size + 2) R5 30 b4 b6 x5 x22 w'
  t6 : Thr (w.heap.size + 2) R6 32 b5 b7 x6 x24 w'
  i6 : b6 = true → b1 = true ∧ b4 = true
  i7 : b7 = true → b3 = true ∧ b5 = true
theorem PT.grow {w : World} {k t : Int} {v : Bs} {xt : Int} {xa : Bs} {ua : Option Addr} {uc : Nat} {tags : List Bs} {b0 b1 b2 b3 b4 b5 b6 b7 : Bool} {x21 x22 x23 x24 x5 x6 : Value} {R5 R6 : Nat} {w1 w2 : World} (hb : Below w1.heap.size w1 w2) (s : PT w k t v xt xa ua uc tags b0 b1 b2 b3 b4 b5 b6 b7 x21 x22 x23 x24 x5 x6 R5 R6 w1) : PT w k t v xt xa ua uc tags b0 b1 b2 b3 b4 b5 b6 b7 x21 x22 x23 x24 x5 x6 R5 R6 w2 :=
  ⟨s.pm.keep hb rfl, s.d0, s.d1, s.d2, fun h => by obtain ⟨nv, h1, h2⟩ := s.d3 h; exact ⟨nv, h1, h2.older hb⟩, s.t5.below hb, s.t6.below hb, s.i6, s.i7⟩
theorem PT.size {w : World} {k t : Int} {v : Bs} {xt : Int} {xa : Bs} {ua : Option Addr} {uc : Nat} {tags : List Bs} {b0 b1 b2 b3 b4 b5 b6 b7 : Bool} {x21 x22 x23 x24 x5 x6 : Value} {R5 R6 : Nat} {w1 : World} (s : PT w k t v xt xa ua uc tags b0 b1 b2 b3 b4 b5 b6 b7 x21 x22 x23 x24 x5 x6 R5 R6 w1) : w.heap.size + 2 ≤ w1.heap.size := by have := s.pm.box2.facts.2.2; omega


theorem walk_mid (k t : Int) (v : Bs) (xt : Int) (xa : Bs) (ua : Option Addr) (uc : Nat) (tags : List Bs) (w : World) (hr : Ready w) (hw : WordsAt w) (hu : StrsV w (.slice ua tags.length uc) tags) (hul : tags.length ≤ 9223372036854775807) (hla : v.length ≤ 1500) (hl : fitsB xa tags = true) :
    Calls Tryd.prog 3 #[.agg #[.int .i64 k, .int .i64 t, .string ⟨v.toArray⟩], .agg #[.int .i64 xt, .string ⟨xa.toArray⟩, (.slice ua tags.length uc)]] w fun e w' => e = .returned (.bool true) ∧ Below w.heap.size w w' := by
  have hp : PM w k t v xt xa ua uc tags ((w.alloc (.cells #[.int .i64 k, .int .i64 t, .string ⟨v.toArray⟩] 23)).alloc (.cells #[.int .i64 xt, .string ⟨xa.toArray⟩, (.slice ua tags.length uc)] 26)) := pm_new w k t v xt xa ua uc tags hu
  have HP := Lib.hid hp
  have HR := Lib.hid (hr.below hp.bel)
  have HW := Lib.hid (hw.below hp.bel)
  have HU := Lib.hid hu
  have HLa := Lib.hid (decide_eq_true hla)
  have HLb := Lib.hid hl
  have HRA : Hid (∀ w', Below w.heap.size w w' → Ready w') := Lib.hid fun w' hb => hr.below hb
  have hl1 : v.length ≤ 134217728 := by omega
  have hl2 : xa.length ≤ 134217728 := by have := (fitsB_true hl).2.2; omega
  have hl3 : tags.length ≤ 40 := (fitsB_true hl).2.1
  skip
  clear hp hl hu
  go_enter Tryd.func3, Tryd.ntmps3
  go_wp2_with fail
  refine (awake36_any _ HR.out HW.out).mono ?_
  rintro e w1 ⟨rfl, hb1⟩
  have hP1 := PM.keep hb1 rfl HP.out
  have HP1 := Lib.hid hP1
  obtain ⟨⟨c0, c1, c2⟩, _⟩ := hP1.box.facts
  obtain ⟨⟨d0, d1, d2⟩, _⟩ := hP1.box2.facts
  clear hb1 hP1
  go_wp2_with (first | (go_at_call 6; refine (small_any v _).mono ?_; rintro e w2 ⟨rfl, rfl⟩; rw [HLa.out]) | (go_at_call 7; refine (fits_any xt xa _ tags _ HP1.out.str hul).mono ?_; rintro e w2 ⟨rfl, hb2⟩; rw [HLb.out]; have HP2 := Lib.hid (PM.keep hb2 rfl HP1.out); clear c0 c1 c2 d0 d1 d2 hb2))
  have HP3 := HP2
  clear HP1 HP2
  refine wp_region_inv (fun a0 listed a w' => ∃ (b0 b1 b2 b3 b4 b5 b6 b7 : Bool) (x21 x22 x23 x24 x5 x6 : Value) (R5 R6 : Nat), listed = #[b0, b1, b2, b3, b4, b5, b6, b7] ∧ a = (((((a0.put (some 21) x21).put (some 22) x22).put (some 23) x23).put (some 24) x24).put (some 5) x5).put (some 6) x6 ∧ PT w k t v xt xa ua uc tags b0 b1 b2 b3 b4 b5 b6 b7 x21 x22 x23 x24 x5 x6 R5 R6 w') (by kernel_rfl) ?_ ?_ ?_
  · exact ⟨false, false, false, false, false, false, false, false, undef, undef, undef, undef, undef, undef, 0, 0, rfl, rfl, ⟨HP3.out.drew, (fun h => by cases h), (fun h => by cases h), (fun h => by cases h), (fun h => by cases h), Thr.no, Thr.no, (fun h => by cases h), (fun h => by cases h)⟩⟩
  · rintro listed a' w' i ⟨b0, b1, b2, b3, b4, b5, b6, b7, x21, x22, x23, x24, x5, x6, R5, R6, rfl, rfl, s⟩ hr9
    have hlt : i < 8 := ready_lt hr9
    have hi : i = 0 ∨ i = 1 ∨ i = 2 ∨ i = 3 ∨ i = 4 ∨ i = 5 ∨ i = 6 ∨ i = 7 := by omega
    clear hlt
    rcases hi with rfl | rfl | rfl | rfl | rfl | rfl | rfl | rfl
    · have e9 := eqF (b := b0) hr9 rfl
      subst e9
      obtain ⟨⟨c0, c1, c2⟩, _⟩ := s.pm.box.facts
      refine wpOp_step rfl (fun K hK => ?_)
      simp only [Act.put, List.setIfInBounds_toArray, List.set_cons_zero, List.set_cons_succ]
      go_simp
      refine hK _ _ ?_
      exact ⟨true, b1, b2, b3, b4, b5, b6, b7, _, x22, x23, x24, x5, x6, R5, R6, rfl, rfl, ⟨s.pm, fun _ => rfl, s.d1, s.d2, s.d3, s.t5, s.t6, s.i6, s.i7⟩⟩
    · have e9 := eqF (b := b1) hr9 rfl
      subst e9
      have g0 := eqT (j := 0) (b := b0) hr9 rfl (by kernel_rfl)
      subst g0
      have n6 : b6 = false := by cases b6 with | false => rfl | true => exact absurd (s.i6 rfl).1 (by simp)
      subst n6
      obtain rfl := s.d0 rfl
      refine wpOp_step rfl (fun K hK => ?_)
      simp only [Act.put, List.setIfInBounds_toArray, List.set_cons_zero, List.set_cons_succ]
      go_simp
      go_wp2_with ((go_at_call 8; with_reducible refine (of36_any ⟨k, t, v⟩ _).mono ?_; rintro e w9 ⟨rfl, hb9⟩))
      have s := s.grow hb9
      exact ⟨true, true, b2, b3, b4, b5, false, b7, (.agg #[.int .i64 k, .int .i64 t, .string ⟨v.toArray⟩]), _, x23, x24, x5, x6, R5, R6, rfl, rfl, ⟨s.pm, s.d0, fun _ => rfl, s.d2, s.d3, s.t5.other, s.t6, (fun h => by cases h), s.i7⟩⟩
    · have e9 := eqF (b := b2) hr9 rfl
      subst e9
      obtain ⟨⟨c0, c1, c2⟩, _⟩ := s.pm.box2.facts
      refine wpOp_step rfl (fun K hK => ?_)
      simp only [Act.put, List.setIfInBounds_toArray, List.set_cons_zero, List.set_cons_succ]
      go_simp
      refine hK _ _ ?_
      exact ⟨b0, b1, true, b3, b4, b5, b6, b7, x21, x22, _, x24, x5, x6, R5, R6, rfl, rfl, ⟨s.pm, s.d0, s.d1, fun _ => rfl, s.d3, s.t5, s.t6, s.i6, s.i7⟩⟩
    · have e9 := eqF (b := b3) hr9 rfl
      subst e9
      have g2 := eqT (j := 2) (b := b2) hr9 rfl (by kernel_rfl)
      subst g2
      have n7 : b7 = false := by cases b7 with | false => rfl | true => exact absurd (s.i7 rfl).1 (by simp)
      subst n7
      obtain rfl := s.d2 rfl
      have hsz := s.size
      refine wpOp_step rfl (fun K hK => ?_)
      simp only [Act.put, List.setIfInBounds_toArray, List.set_cons_zero, List.set_cons_succ]
      go_simp
      go_wp2_with ((go_at_call 9; with_reducible refine (item36_own xt xa _ tags _ (HU.out.below s.pm.bel) (by omega)).mono ?_; rintro e w9 ⟨nv, rfl, hown, hb9⟩))
      have s := s.grow hb9
      exact ⟨b0, b1, true, true, b4, b5, b6, false, x21, x22, (.agg #[.int .i64 xt, .string ⟨xa.toArray⟩, (.slice ua tags.length uc)]), _, x5, x6, R5, R6, rfl, rfl, ⟨s.pm, s.d0, s.d1, s.d2, fun _ => ⟨nv, rfl, hown.mono fun q hq => by have := (hown.lt q hq).1; omega⟩, s.t5, s.t6.other, s.i6, (fun h => by cases h)⟩⟩
    · have e9 := eqF (b := b4) hr9 rfl
      subst e9
      have n6 : b6 = false := by cases b6 with | false => rfl | true => exact absurd (s.i6 rfl).2 (by simp)
      subst n6
      have hsz := s.size
      refine wpOp_step rfl (fun K hK => ?_)
      simp only [Act.put, List.setIfInBounds_toArray, List.set_cons_zero, List.set_cons_succ]
      go_simp
      refine hK _ _ ?_
      have s := s.grow ((Below.refl _ _).alloc (Nat.le_refl _) (.cells #[.int .i64 0, .int .i64 0, .string ⟨#[]⟩] 30))
      exact ⟨b0, b1, b2, b3, true, b5, false, b7, x21, x22, x23, x24, _, x6, _, R6, rfl, rfl, ⟨s.pm, s.d0, s.d1, s.d2, s.d3, Thr.made hsz rfl, s.t6, (fun h => by cases h), s.i7⟩⟩
    · have e9 := eqF (b := b5) hr9 rfl
      subst e9
      have n7 : b7 = false := by cases b7 with | false => rfl | true => exact absurd (s.i7 rfl).2 (by simp)
      subst n7
      have hsz := s.size
      refine wpOp_step rfl (fun K hK => ?_)
      simp only [Act.put, List.setIfInBounds_toArray, List.set_cons_zero, List.set_cons_succ]
      go_simp
      refine hK _ _ ?_
      have s := s.grow ((Below.refl _ _).alloc (Nat.le_refl _) (.cells #[.int .i64 0, .string ⟨#[]⟩, .slice none 0 0] 32))
      exact ⟨b0, b1, b2, b3, b4, true, b6, false, x21, x22, x23, x24, x5, _, R5, _, rfl, rfl, ⟨s.pm, s.d0, s.d1, s.d2, s.d3, s.t5, Thr.made hsz rfl, s.i6, (fun h => by cases h)⟩⟩
    · have e9 := eqF (b := b6) hr9 rfl
      subst e9
      have g1 := eqT (j := 1) (b := b1) hr9 rfl (by kernel_rfl)
      subst g1
      have g4 := eqT (j := 4) (b := b4) hr9 rfl (by kernel_rfl)
      subst g4
      obtain rfl := s.d1 rfl
      obtain ⟨rfl, hR, u0, u1, u2, hbx, _⟩ := s.t5 rfl
      obtain ⟨⟨c0, c1, c2⟩, ⟨f0, f1, f2⟩, hlt5⟩ := hbx.facts
      refine wpOp_step rfl (fun K hK => ?_)
      simp only [Act.put, List.setIfInBounds_toArray, List.set_cons_zero, List.set_cons_succ]
      go_simp
      refine hK _ _ ?_
      have ht := touch_set3 w' R5 (.int .i64 k) (.int .i64 t) (.string ⟨v.toArray⟩)
      exact ⟨b0, true, b2, b3, true, b5, true, b7, x21, (.agg #[.int .i64 k, .int .i64 t, .string ⟨v.toArray⟩]), x23, x24, (.pointer (some ⟨R5, 0, none⟩)), x6, R5, R6, rfl, rfl, ⟨s.pm.touch HU.out ht hR, s.d0, s.d1, s.d2, fun h => by obtain ⟨nv, h1, h2⟩ := s.d3 h; exact ⟨nv, h1, h2.touch ht (own_ne hbx h2 (by decide))⟩, s.t5.stored, s.t6.touch ht (fun h => thr_ne s.t6 s.t5 (by decide) h rfl), fun _ => ⟨rfl, rfl⟩, s.i7⟩⟩
    · have e9 := eqF (b := b7) hr9 rfl
      subst e9
      have g3 := eqT (j := 3) (b := b3) hr9 rfl (by kernel_rfl)
      subst g3
      have g5 := eqT (j := 5) (b := b5) hr9 rfl (by kernel_rfl)
      subst g5
      obtain ⟨nv, rfl, hown⟩ := s.d3 rfl
      obtain ⟨va, vc, rfl, _⟩ := hown.form
      obtain ⟨rfl, hR, u0, u1, u2, hbx, _⟩ := s.t6 rfl
      obtain ⟨⟨c0, c1, c2⟩, ⟨f0, f1, f2⟩, hlt5⟩ := hbx.facts
      refine wpOp_step rfl (fun K hK => ?_)
      simp only [Act.put, List.setIfInBounds_toArray, List.set_cons_zero, List.set_cons_succ]
      go_simp
      refine hK _ _ ?_
      have ht := touch_set3 w' R6 (.int .i64 xt) (.string ⟨xa.toArray⟩) (.slice va tags.length vc)
      exact ⟨b0, b1, b2, true, b4, true, b6, true, x21, x22, x23, (.agg #[.int .i64 xt, .string ⟨xa.toArray⟩, .slice va tags.length vc]), x5, (.pointer (some ⟨R6, 0, none⟩)), R5, R6, rfl, rfl, ⟨s.pm.touch HU.out ht hR, s.d0, s.d1, s.d2, fun _ => ⟨_, rfl, hown.touch ht (own_ne hbx hown (by decide))⟩, s.t5.touch ht (fun h => thr_ne s.t5 s.t6 (by decide) h rfl), s.t6.stored, s.i6, fun _ => ⟨rfl, rfl⟩⟩⟩
  · rintro listed a' w' ⟨b0, b1, b2, b3, b4, b5, b6, b7, x21, x22, x23, x24, x5, x6, R5, R6, rfl, rfl, s⟩ hr9
    have e0 := eqE (i := 0) (b := b0) hr9 rfl (by kernel_rfl)
    subst e0
    have e2 := eqE (i := 2) (b := b2) hr9 rfl (by kernel_rfl)
    subst e2
    have e4 := eqE (i := 4) (b := b4) hr9 rfl (by kernel_rfl)
    subst e4
    have e5 := eqE (i := 5) (b := b5) hr9 rfl (by kernel_rfl)
    subst e5
    have e1 := eqE (i := 1) (b := b1) hr9 rfl (by kernel_rfl)
    subst e1
    have e3 := eqE (i := 3) (b := b3) hr9 rfl (by kernel_rfl)
    subst e3
    have e6 := eqE (i := 6) (b := b6) hr9 rfl (by kernel_rfl)
    subst e6
    have e7 := eqE (i := 7) (b := b7) hr9 rfl (by kernel_rfl)
    subst e7
    obtain rfl := s.d0 rfl
    obtain rfl := s.d1 rfl
    obtain rfl := s.d2 rfl
    obtain ⟨nv, rfl, hown⟩ := s.d3 rfl
    obtain ⟨va, vc, rfl, _⟩ := hown.form
    obtain ⟨rfl, hR5, u0, u1, u2, hbx5, hv⟩ := s.t5 rfl
    have hv := hv rfl
    injection hv with hv
    injection hv with hv
    simp only [List.cons.injEq, and_true] at hv
    obtain ⟨rfl, rfl, rfl⟩ := hv
    obtain ⟨rfl, hR6, u0, u1, u2, hbx6, hv⟩ := s.t6 rfl
    have hv := hv rfl
    injection hv with hv
    injection hv with hv
    simp only [List.cons.injEq, and_true] at hv
    obtain ⟨rfl, rfl, rfl⟩ := hv
    have HPM := Lib.hid s.pm
    have HX5 := Lib.hid hbx5
    have HX6 := Lib.hid hbx6
    have HOWN := Lib.hid hown
    have hne : R5 ≠ R6 := box_ne hbx5 hbx6 (by decide)
    clear s hr9 hown
    obtain ⟨⟨c0, c1, c2⟩, ⟨f0, f1, f2⟩, hz5⟩ := hbx5.facts
    obtain ⟨⟨d0, d1, d2⟩, ⟨j0, j1, j2⟩, hz6⟩ := hbx6.facts
    clear hbx5 hbx6
    simp only [Act.put, List.setIfInBounds_toArray, List.set_cons_zero, List.set_cons_succ]
    have hbel9 : True := trivial
    by_cases hc : checkN ⟨k, t, v⟩ = 0
    · have HCK := Lib.hid hc
      have HC := Lib.hid (chkV_ok hc)
      clear hc
      by_cases ht : xt = t
      · have ht2 := ht.symm
        subst ht2
        clear ht
        by_cases hk : k = 3
        · subst hk
          have HM2 := Lib.hid (match_tag (p := ⟨3, t, v⟩) tags HCK.out rfl)
          go_wp2_with (first | (go_at_call 10; with_reducible refine (check_any ⟨3, t, v⟩ _ (HRA.out _ HPM.out.bel) hl1).mono ?_; rintro e w9 ⟨rfl, hb9⟩; rw [HC.out]; have HPM := Lib.hid (PM.keep hb9 rfl HPM.out); have HX5 := Lib.hid (HX5.out.older hb9); have HX6 := Lib.hid (HX6.out.older hb9); have HOWN := Lib.hid (HOWN.out.older hb9); obtain ⟨⟨c0, c1, c2⟩, ⟨f0, f1, f2⟩, hz5⟩ := HX5.out.facts; obtain ⟨⟨d0, d1, d2⟩, ⟨j0, j1, j2⟩, hz6⟩ := HX6.out.facts) | (at_builtin; refine wpList_appw tyStrs rfl _ _ rfl (w.heap.size + 2) (.slice va tags.length vc) tags.length (svals tags) rfl ((HOWN.out.touch (touch_set1 _ R6 0 (.int .i64 t)) (own_ne HX6.out HOWN.out (by decide))).alloc _) (by have := HPM.out.box2.facts.2.2; simp; omega) (.slice (some ⟨w9.heap.size, 0, none⟩) 1 1) 1 [str v] rfl (SrcAt.one (heap_new_set _ R6 0 _ _)) rfl (by simp [Value.oneCell']) (by omega) ?_; intro v' w' hown' hgrow' hlies'; obtain ⟨va2, vc2, rfl, _⟩ := hown'.form; have hq6 : Box3 w' R6 32 (.int .i64 t) (.string ⟨xa.toArray⟩) (.slice va tags.length vc) := (hgrow'.block R6 (by simp; omega) (fun e => own_ne HX6.out HOWN.out (by decide) R6 e.symm rfl)).trans ((box3_set0 HX6.out _).alloc _); have hq5 : Box3 w' R5 30 (.int .i64 3) (.int .i64 t) (.string ⟨v.toArray⟩) := (hgrow'.block R5 (by simp; omega) (fun e => own_ne HX5.out HOWN.out (by decide) R5 e.symm rfl)).trans ((box3_touch HX5.out (touch_set1 _ R6 0 _) hne).alloc _); have HB1 := Lib.hid (below_two HPM.out.bel hgrow' (by have := HPM.out.box2.facts.2.2; omega) hR6 (fun q hq => by have := (HOWN.out.lt q hq).1; omega) (.string ⟨#[97, 47]⟩) (.slice va2 (tags.length + 1) vc2)); have HS1 := Lib.hid (strs_snoc ((hown'.touch (touch_set1 _ R6 1 (.string ⟨#[97, 47]⟩)) (own_ne hq6 hown' (by decide))).touch (touch_set1 _ R6 2 (.slice va2 (tags.length + 1) vc2)) (own_ne (box3_set1 hq6 _) (hown'.touch (touch_set1 _ R6 1 (.string ⟨#[97, 47]⟩)) (own_ne hq6 hown' (by decide))) (by decide)))); obtain ⟨⟨c0, c1, c2⟩, ⟨f0, f1, f2⟩, hz5⟩ := hq5.facts; obtain ⟨⟨d0, d1, d2⟩, ⟨j0, j1, j2⟩, hz6⟩ := hq6.facts; clear hq5 hq6 hown' hgrow' hlies') | (go_at_call 11; with_reducible refine (match_any ⟨3, t, v⟩ ⟨t, [97, 47], tags ++ [v]⟩ _ _ (HRA.out _ HB1.out) hl1 (by simp) HS1.out (by simp; omega)).mono ?_; rintro e w9 ⟨rfl, hb9⟩; rw [HM2.out]))
          go_ret
          exact ⟨rfl, HB1.out.trans (hb9.mono HB1.out.size)⟩
        · have HM2 := Lib.hid (match_own (p := ⟨k, t, v⟩) tags HCK.out hk)
          have hkq : (k == 3) = false := beq_eq_false_iff_ne.2 hk
          clear hk
          go_wp2_with (first | (go_at_call 10; with_reducible refine (check_any ⟨k, t, v⟩ _ (HRA.out _ HPM.out.bel) hl1).mono ?_; rintro e w9 ⟨rfl, hb9⟩; rw [HC.out]; have HPM := Lib.hid (PM.keep hb9 rfl HPM.out); have HX5 := Lib.hid (HX5.out.older hb9); have HX6 := Lib.hid (HX6.out.older hb9); have HOWN := Lib.hid (HOWN.out.older hb9); obtain ⟨⟨c0, c1, c2⟩, ⟨f0, f1, f2⟩, hz5⟩ := HX5.out.facts; obtain ⟨⟨d0, d1, d2⟩, ⟨j0, j1, j2⟩, hz6⟩ := HX6.out.facts) | (go_at_call 11; with_reducible refine (match_any ⟨k, t, v⟩ ⟨t, v, tags⟩ _ _ (HRA.out _ (below_own2 HPM.out.bel hR6 (.int .i64 t) (.string ⟨v.toArray⟩))) hl1 hl1 (strsV_own ((HOWN.out.touch (touch_set1 _ R6 0 (.int .i64 t)) (own_ne HX6.out HOWN.out (by decide))).touch (touch_set1 _ R6 1 (.string ⟨v.toArray⟩)) (own_ne (box3_set0 HX6.out _) (HOWN.out.touch (touch_set1 _ R6 0 (.int .i64 t)) (own_ne HX6.out HOWN.out (by decide))) (by decide)))) hul).mono ?_; rintro e w9 ⟨rfl, hb9⟩; rw [HM2.out]))
          go_ret
          exact ⟨rfl, (below_own2 HPM.out.bel hR6 (.int .i64 t) (.string ⟨v.toArray⟩)).trans (hb9.mono (below_own2 HPM.out.bel hR6 (.int .i64 t) (.string ⟨v.toArray⟩)).size)⟩
      · have HM := Lib.hid (match_tenant (p := ⟨k, t, v⟩) (x := ⟨xt, xa, tags⟩) ht)
        have hq : (xt != t) = true := bne_iff_ne.2 ht
        clear ht
        by_cases hk : k = 3
        · subst hk
          have HM2 := Lib.hid (match_tag (p := ⟨3, t, v⟩) tags HCK.out rfl)
          go_wp2_with (first | (go_at_call 10; with_reducible refine (check_any ⟨3, t, v⟩ _ (HRA.out _ HPM.out.bel) hl1).mono ?_; rintro e w9 ⟨rfl, hb9⟩; rw [HC.out]; have HPM := Lib.hid (PM.keep hb9 rfl HPM.out); have HX5 := Lib.hid (HX5.out.older hb9); have HX6 := Lib.hid (HX6.out.older hb9); have HOWN := Lib.hid (HOWN.out.older hb9); obtain ⟨⟨c0, c1, c2⟩, ⟨f0, f1, f2⟩, hz5⟩ := HX5.out.facts; obtain ⟨⟨d0, d1, d2⟩, ⟨j0, j1, j2⟩, hz6⟩ := HX6.out.facts) | (at_builtin; refine wpList_appw tyStrs rfl _ _ rfl (w.heap.size + 2) (.slice va tags.length vc) tags.length (svals tags) rfl ((HOWN.out.touch (touch_set1 _ R6 0 (.int .i64 t)) (own_ne HX6.out HOWN.out (by decide))).alloc _) (by have := HPM.out.box2.facts.2.2; simp; omega) (.slice (some ⟨w9.heap.size, 0, none⟩) 1 1) 1 [str v] rfl (SrcAt.one (heap_new_set _ R6 0 _ _)) rfl (by simp [Value.oneCell']) (by omega) ?_; intro v' w' hown' hgrow' hlies'; obtain ⟨va2, vc2, rfl, _⟩ := hown'.form; have hq6 : Box3 w' R6 32 (.int .i64 t) (.string ⟨xa.toArray⟩) (.slice va tags.length vc) := (hgrow'.block R6 (by simp; omega) (fun e => own_ne HX6.out HOWN.out (by decide) R6 e.symm rfl)).trans ((box3_set0 HX6.out _).alloc _); have hq5 : Box3 w' R5 30 (.int .i64 3) (.int .i64 t) (.string ⟨v.toArray⟩) := (hgrow'.block R5 (by simp; omega) (fun e => own_ne HX5.out HOWN.out (by decide) R5 e.symm rfl)).trans ((box3_touch HX5.out (touch_set1 _ R6 0 _) hne).alloc _); have HB1 := Lib.hid (below_two HPM.out.bel hgrow' (by have := HPM.out.box2.facts.2.2; omega) hR6 (fun q hq => by have := (HOWN.out.lt q hq).1; omega) (.string ⟨#[97, 47]⟩) (.slice va2 (tags.length + 1) vc2)); have HS1 := Lib.hid (strs_snoc ((hown'.touch (touch_set1 _ R6 1 (.string ⟨#[97, 47]⟩)) (own_ne hq6 hown' (by decide))).touch (touch_set1 _ R6 2 (.slice va2 (tags.length + 1) vc2)) (own_ne (box3_set1 hq6 _) (hown'.touch (touch_set1 _ R6 1 (.string ⟨#[97, 47]⟩)) (own_ne hq6 hown' (by decide))) (by decide)))); obtain ⟨⟨c0, c1, c2⟩, ⟨f0, f1, f2⟩, hz5⟩ := hq5.facts; obtain ⟨⟨d0, d1, d2⟩, ⟨j0, j1, j2⟩, hz6⟩ := hq6.facts; clear hq5 hq6 hown' hgrow' hlies') | (go_at_call 11; with_reducible refine (match_any ⟨3, t, v⟩ ⟨t, [97, 47], tags ++ [v]⟩ _ _ (HRA.out _ HB1.out) hl1 (by simp) HS1.out (by simp; omega)).mono ?_; rintro e w9 ⟨rfl, hb9⟩; rw [HM2.out]) | (go_at_call 11; with_reducible refine (match_any ⟨3, t, v⟩ ⟨xt, xa, tags⟩ _ _ (HRA.out _ HPM.out.bel) hl1 hl2 (strsV_own HOWN.out) hul).mono ?_; rintro e w9 ⟨rfl, hb9⟩; rw [HM.out]; have HPM := Lib.hid (PM.keep hb9 rfl HPM.out); have HX5 := Lib.hid (HX5.out.older hb9); have HX6 := Lib.hid (HX6.out.older hb9); have HOWN := Lib.hid (HOWN.out.older hb9); obtain ⟨⟨c0, c1, c2⟩, ⟨f0, f1, f2⟩, hz5⟩ := HX5.out.facts; obtain ⟨⟨d0, d1, d2⟩, ⟨j0, j1, j2⟩, hz6⟩ := HX6.out.facts))
          go_ret
          exact ⟨rfl, HB1.out.trans (hb9.mono HB1.out.size)⟩
        · have HM2 := Lib.hid (match_own (p := ⟨k, t, v⟩) tags HCK.out hk)
          have hkq : (k == 3) = false := beq_eq_false_iff_ne.2 hk
          clear hk
          go_wp2_with (first | (go_at_call 10; with_reducible refine (check_any ⟨k, t, v⟩ _ (HRA.out _ HPM.out.bel) hl1).mono ?_; rintro e w9 ⟨rfl, hb9⟩; rw [HC.out]; have HPM := Lib.hid (PM.keep hb9 rfl HPM.out); have HX5 := Lib.hid (HX5.out.older hb9); have HX6 := Lib.hid (HX6.out.older hb9); have HOWN := Lib.hid (HOWN.out.older hb9); obtain ⟨⟨c0, c1, c2⟩, ⟨f0, f1, f2⟩, hz5⟩ := HX5.out.facts; obtain ⟨⟨d0, d1, d2⟩, ⟨j0, j1, j2⟩, hz6⟩ := HX6.out.facts) | (go_at_call 11; with_reducible refine (match_any ⟨k, t, v⟩ ⟨t, v, tags⟩ _ _ (HRA.out _ (below_own2 HPM.out.bel hR6 (.int .i64 t) (.string ⟨v.toArray⟩))) hl1 hl1 (strsV_own ((HOWN.out.touch (touch_set1 _ R6 0 (.int .i64 t)) (own_ne HX6.out HOWN.out (by decide))).touch (touch_set1 _ R6 1 (.string ⟨v.toArray⟩)) (own_ne (box3_set0 HX6.out _) (HOWN.out.touch (touch_set1 _ R6 0 (.int .i64 t)) (own_ne HX6.out HOWN.out (by decide))) (by decide)))) hul).mono ?_; rintro e w9 ⟨rfl, hb9⟩; rw [HM2.out]) | (go_at_call 11; with_reducible refine (match_any ⟨k, t, v⟩ ⟨xt, xa, tags⟩ _ _ (HRA.out _ HPM.out.bel) hl1 hl2 (strsV_own HOWN.out) hul).mono ?_; rintro e w9 ⟨rfl, hb9⟩; rw [HM.out]; have HPM := Lib.hid (PM.keep hb9 rfl HPM.out); have HX5 := Lib.hid (HX5.out.older hb9); have HX6 := Lib.hid (HX6.out.older hb9); have HOWN := Lib.hid (HOWN.out.older hb9); obtain ⟨⟨c0, c1, c2⟩, ⟨f0, f1, f2⟩, hz5⟩ := HX5.out.facts; obtain ⟨⟨d0, d1, d2⟩, ⟨j0, j1, j2⟩, hz6⟩ := HX6.out.facts))
          go_ret
          exact ⟨rfl, (below_own2 HPM.out.bel hR6 (.int .i64 t) (.string ⟨v.toArray⟩)).trans (hb9.mono (below_own2 HPM.out.bel hR6 (.int .i64 t) (.string ⟨v.toArray⟩)).size)⟩
    · have HC := Lib.hid (chkV_err (p := ⟨k, t, v⟩) rfl hc)
      have HM := Lib.hid (match_bad (x := ⟨xt, xa, tags⟩) hc)
      clear hc
      go_wp2_with (first | (go_at_call 10; with_reducible refine (check_any ⟨k, t, v⟩ _ (HRA.out _ HPM.out.bel) hl1).mono ?_; rintro e w9 ⟨rfl, hb9⟩; rw [HC.out]; have HPM := Lib.hid (PM.keep hb9 rfl HPM.out); have HX5 := Lib.hid (HX5.out.older hb9); have HX6 := Lib.hid (HX6.out.older hb9); have HOWN := Lib.hid (HOWN.out.older hb9); obtain ⟨⟨c0, c1, c2⟩, ⟨f0, f1, f2⟩, hz5⟩ := HX5.out.facts; obtain ⟨⟨d0, d1, d2⟩, ⟨j0, j1, j2⟩, hz6⟩ := HX6.out.facts) | (go_at_call 11; with_reducible refine (match_any ⟨k, t, v⟩ ⟨xt, xa, tags⟩ _ _ (HRA.out _ HPM.out.bel) hl1 hl2 (strsV_own HOWN.out) hul).mono ?_; rintro e w9 ⟨rfl, hb9⟩; rw [HM.out]; have HPM := Lib.hid (PM.keep hb9 rfl HPM.out); have HX5 := Lib.hid (HX5.out.older hb9); have HX6 := Lib.hid (HX6.out.older hb9); have HOWN := Lib.hid (HOWN.out.older hb9); obtain ⟨⟨c0, c1, c2⟩, ⟨f0, f1, f2⟩, hz5⟩ := HX5.out.facts; obtain ⟨⟨d0, d1, d2⟩, ⟨j0, j1, j2⟩, hz6⟩ := HX6.out.facts))
      go_ret
      exact ⟨rfl, HPM.out.bel⟩

theorem walk (p : Pg) (x : It) (u : Value) (w : World) (hr : Ready w) (hw : WordsAt w) (h1 : p.value.length ≤ 140737488351232) (hu : StrsV w u x.tags) (hul : x.tags.length ≤ 9223372036854775807) :
    Calls Tryd.prog 3 #[pgV p, itV x.tenant x.addr u] w fun e w' => e = .returned (.bool true) ∧ Below w.heap.size w w' := by
  obtain ⟨k, t, v⟩ := p
  obtain ⟨xt, xa, tags⟩ := x
  simp only at h1 hu hul
  obtain ⟨ua, uc, rfl⟩ := hu.form
  by_cases hla : v.length ≤ 1500
  · cases hl : fitsB xa tags with
    | true => exact walk_mid k t v xt xa ua uc tags w hr hw hu hul hla hl
    | false => exact walk_large2 k t v xt xa ua uc tags w hr hw hu hul hla hl
  · exact walk_large1 k t v xt xa ua uc tags w hr hw hu hul hla

/-- What the walk gives, for every argument. -/
theorem contract (H : Type) (enc : TypeId × Value → H) (W : World) (base : Nat) (args : Array Value) (ds gs : List (DataW H)) (before : List MemPlace)
    (hval : ∀ (j : Nat) t v, Tryd.f3.params[j]? = some t → args[j]? = some v → Value.okWide Tryd.prog W .any base t v)
    (hW : DataW.Whole enc Tryd.prog Tryd.f3.params.toList Rows.purgeTenantsSpec.vars false W args.toList ds gs before) (hsz : (DataW.weightsEach Tryd.prog Tryd.f3.params.toList (ds ++ gs)).all (· ≤ reachBytes) = true) (hr : Ready W) (hw : A1.WordsAt W) :
    Calls Tryd.prog 3 args W fun e W' => ∃ v, e = .returned v ∧ Rows.purgeTenantsSpec.post enc Tryd.prog Tryd.f3 false true false false W args v W' := by
  have hW' := hW
  have hlt := fun p hp => hW.lt p hp
  obtain ⟨p, q, hA0, hV, rfl, hfz, hnd⟩ := hW
  have hA : DataW.TrodAll enc Tryd.prog W 0 (fun _ => true) true Tryd.f3.params.toList args.toList ds p := hA0
  have hA1 := hA
  obtain ⟨rfl, rfl⟩ := trodVars_none hV
  rw [Tryd.params3] at hA hval
  obtain ⟨v0, vs0, d0, ds0, p0, q0, hargs, rfl, rfl, h0, r0⟩ := trodAll_cons hA
  obtain ⟨v1, vs1, d1, ds1, p1, q1, rfl, rfl, rfl, h1, r1⟩ := trodAll_cons r0
  obtain ⟨rfl, rfl, rfl⟩ := trodAll_nil r1
  obtain rfl : args = #[v0, v1] := by cases args; simp_all
  have fin : ∀ W', Below W.heap.size W W' → Rows.purgeTenantsSpec.post enc Tryd.prog Tryd.f3 false true false false W #[v0, v1] (.bool true) W' := fun W' hb => by
    simp only [List.append_nil] at hA1 hW' hlt
    exact ⟨_, _, _, [], _, [], hW', trodAll_cons_mk (shut_bool Tryd.underlying4 _) trodAll_mk0, Fr.trodAll_below (by kernel_rfl) _ (by kernel_rfl) hA1 hb hlt, rfl, hb.frame _, fun h => by cases h⟩
  clear hW' hA0 hA1 hlt
  rw [Tryd.params3, List.append_nil] at hsz
  obtain ⟨c0, c1, c2, y0, y1, y2, m, rfl, rfl, rfl, hy0, hy1, hy2⟩ := Go.Joins.open_agg3 Tryd.underlying23 (by kernel_rfl) (show Tryd.prog.cellsOf 23 = 3 by kernel_rfl) (hval 0 23 v0 rfl rfl) h0
  obtain ⟨n0, e0, rfl, _⟩ := DataW.trod_int Tryd.underlying3 hy0
  obtain ⟨t0, e1, rfl, _⟩ := DataW.trod_int Tryd.underlying3 hy1
  obtain ⟨s0, e2, rfl, _⟩ := DataW.trod_string Tryd.underlying9 hy2
  simp only [List.cons.injEq, and_true] at e0 e1 e2
  subst e0 e1 e2
  obtain ⟨⟨l0⟩⟩ := s0
  have z0 : l0.length ≤ 140737488351232 := Op.sized_pg hsz (j := 0) rfl rfl Tryd.underlying23
  obtain ⟨c0, c1, u1, y0, y1, y2, m, rfl, rfl, rfl, hy0, hy1, hy2⟩ := Go.Joins.open_agg3 Tryd.underlying26 (by kernel_rfl) (show Tryd.prog.cellsOf 26 = 3 by kernel_rfl) (hval 1 26 v1 rfl rfl) h1
  obtain ⟨n1, e0, rfl, _⟩ := DataW.trod_int Tryd.underlying3 hy0
  obtain ⟨s1, e1, rfl, _⟩ := DataW.trod_string Tryd.underlying9 hy1
  obtain ⟨g1, hg1, hgl1⟩ := Op.strs_trod hy2
  simp only [List.cons.injEq, and_true] at e0 e1
  subst e0 e1
  obtain ⟨⟨l1⟩⟩ := s1
  refine  (walk ⟨n0, t0, l0⟩ ⟨n1, l1, g1⟩ u1 W hr hw z0 hg1 hgl1).mono fun e W' ⟨he, hb⟩ => ?_
  subst he
  exact ⟨_, rfl, fin W' hb⟩

theorem laid_met (os : Os) : laidMet Tryd.prog Rows.purgeTenantsRow.laid ((Fr.laidW Rows.purgeTenantsRow.laid os).forCall (fun _ _ => 0) ⟨#[], #[.agg #[.int .i64 0, .int .i64 0, .string ⟨#[]⟩], .agg #[.int .i64 0, .string ⟨#[]⟩, .slice none 0 0]], []⟩).memory :=
  laidMet_of_run' 8 (by kernel_rfl) (by kernel_rfl)
theorem reads (os : Os) {H : Type} (enc : TypeId × Value → H) : ∃ places, DataW.whole enc Tryd.prog ((Fr.laidW Rows.purgeTenantsRow.laid os).forCall (fun _ _ => 0) ⟨#[], #[.agg #[.int .i64 0, .int .i64 0, .string ⟨#[]⟩], .agg #[.int .i64 0, .string ⟨#[]⟩, .slice none 0 0]], []⟩).memory Tryd.f3.params.toList Rows.purgeTenantsSpec.vars false (#[.agg #[.int .i64 0, .int .i64 0, .string ⟨#[]⟩], .agg #[.int .i64 0, .string ⟨#[]⟩, .slice none 0 0]] : Array Value).toList 8 = some ([.agg [.lit (.int .i64 0), .lit (.int .i64 0), .lit (.string [])], .agg [.lit (.int .i64 0), .lit (.string []), .nil]], [], places) :=
  ⟨[], by kernel_rfl⟩

theorem lifted (os : Os) (started : os.Started) (H : Type) (enc : TypeId × Value → H) (F : Stop.Interp) :
    ReturnsInHanded {} Tryd.checked os 3 .any ((OpenSpec.ofChange Rows.purgeTenantsSpec).preRow enc Tryd.prog Tryd.f3 Rows.purgeTenantsRow.domain false Rows.purgeTenantsRow.laid) (((OpenSpec.ofChange Rows.purgeTenantsSpec).at F).post enc Tryd.prog Tryd.f3 false true false false) := by
  obtain ⟨places, hx⟩ := reads os enc
  refine returnsInHanded_of_row (C := Tryd.checked) (s := OpenSpec.ofChange Rows.purgeTenantsSpec) Fr.own started (by kernel_rfl) Tryd.func3
    (witness_row_at (enc := enc) (C := Tryd.checked) false (Fr.laidW Rows.purgeTenantsRow.laid os) #[.agg #[.int .i64 0, .int .i64 0, .string ⟨#[]⟩], .agg #[.int .i64 0, .string ⟨#[]⟩, .slice none 0 0]] rfl (by kernel_rfl) (by kernel_rfl) (by kernel_rfl)
      (OpenSpec.preRow_of_cond 8 hx (by kernel_rfl) (fun k hk => by cases hk) (by kernel_rfl) (laid_met os))) ?_
  intro W base args ds gs before hval hW _ hcond hsz hlaid hsh _
  exact contract H enc W base args ds gs before hval hW (by have h9 : (DataW.weightsEach Tryd.prog (Tryd.f3.params.toList ++ []) (ds ++ gs)).all (· ≤ reachBytes) = true := hsz; rw [List.append_nil] at h9; exact h9) (Fr.ready hsh) (Fr.words_laid hlaid (by kernel_rfl) (by repeat first | exact List.mem_cons_self .. | apply List.mem_cons_of_mem))

theorem k_0 : Rows.purgeTenantsRow.wf (OpenSpec.ofChange (OpenSpec.ofChange Rows.purgeTenantsSpec).bare) = true := by kernel_rfl
theorem k_1 : laidOutB Tryd.prog = true := Fr.sf_laidOut
theorem k_2 : mapsRowed Tryd.prog = true := Fr.sf_mapsRowed
theorem k_3 : Tryd.f3.params.all (Tryd.prog.readableRec ·) = true := by kernel_rfl
theorem k_4 : namedTie Tryd.prog Rows.purgeTenantsRow.named (OpenSpec.ofChange Rows.purgeTenantsSpec).bare.vars = true := by kernel_rfl
theorem k_5 : (Rows.purgeTenantsRow.stops == []) = true := by kernel_rfl
theorem k_6 : (Tryd.prog.stops == []) = true := Fr.sf_stops
theorem k_7 : (Rows.purgeTenantsRow.knobs == []) = true := by kernel_rfl
theorem k_8 : (Tryd.prog.stopKnobs == []) = true := Fr.sf_stopKnobs
theorem k_9 : (Rows.purgeTenantsRow.inPlace == Tryd.prog.inPlace 3) = true := by kernel_rfl
theorem k_10 : (Rows.purgeTenantsRow.unfollowed == Tryd.prog.unfollowed 3) = true := by kernel_rfl
theorem k_11 : (Rows.purgeTenantsRow.recurses == Tryd.prog.recurses 3) = true := by kernel_rfl
theorem k_12 : (Rows.purgeTenantsRow.named == Tryd.prog.varsNamed 3) = true := by kernel_rfl
theorem k_13 : (Rows.purgeTenantsRow.maps == (Tryd.f3.params.toList ++ (OpenSpec.ofChange Rows.purgeTenantsSpec).bare.plain.varTypes Tryd.prog).any (Tryd.prog.mapsRec ·)) = true := by kernel_rfl
theorem k_14 : (Rows.purgeTenantsRow.ifaces == (Tryd.f3.params.toList ++ (OpenSpec.ofChange Rows.purgeTenantsSpec).bare.plain.varTypes Tryd.prog).any (Tryd.prog.ifacesRec ·)) = true := by kernel_rfl
theorem k_15 : (Rows.purgeTenantsRow.mapsOut == Tryd.prog.mapsAmong Tryd.f3.resultTypes.toList) = true := by kernel_rfl
theorem k_16 : (Rows.purgeTenantsRow.loops == (Tryd.f3.params.toList ++ (OpenSpec.ofChange Rows.purgeTenantsSpec).bare.plain.varTypes Tryd.prog).any (Tryd.prog.loopsFrom ·)) = true := by kernel_rfl
theorem k_17 : (Rows.purgeTenantsRow.wideKeys == (Tryd.f3.params.toList ++ (OpenSpec.ofChange Rows.purgeTenantsSpec).bare.plain.varTypes Tryd.prog ++ Tryd.f3.resultTypes.toList).any (Tryd.prog.wideKeysFrom ·)) = true := by kernel_rfl
theorem k_18 : (OpenSpec.ofChange Rows.purgeTenantsSpec).bare.vars.all (Tryd.prog.varReadable ·) = true := by kernel_rfl
theorem k_19 : Tryd.f3.resultTypes.all (fun t => Tryd.prog.readableRec t && decide (t < Tryd.prog.types.size)) = true := by kernel_rfl
theorem k_20 : (Rows.purgeTenantsRow.ifacesOut == Tryd.f3.resultTypes.toList.any (Tryd.prog.ifacesRec ·)) = true := by kernel_rfl
theorem k_21 : (Rows.purgeTenantsRow.loopsOut == Tryd.f3.resultTypes.toList.any (Tryd.prog.loopsFrom ·)) = true := by kernel_rfl
theorem k_22 : (Rows.purgeTenantsRow.plainKeys == Tryd.prog.plainKeys) = true := Fr.sf_plainKeys
theorem k_23 : Rows.purgeTenantsRow.shortTexts.isNone = true := by kernel_rfl
theorem k_24 : Tryd.prog.stopsHeard = true := Fr.sf_heard
theorem k_25 : Tryd.prog.mayEnter = true := Fr.sf_mayEnter
theorem k_26 : (Rows.purgeTenantsRow.lifted == Tryd.prog.liftsFinal) = true := Fr.sf_lifted
theorem k_27 : (Tryd.prog.make == some Rows.purgeTenantsRow.make) = true := Fr.sf_make
theorem k_28 : (Rows.purgeTenantsRow.kinds == (if Rows.purgeTenantsRow.domain.isEmpty then [] else Tryd.f3.params.toList.map fun t => match Tryd.prog.underlying t with | some (.int k) => some k | _ => none)) = true := by kernel_rfl
theorem k_29 : (Rows.purgeTenantsRow.pinned == Rows.purgeTenantsRow.pinnedBy) = true := by kernel_rfl
theorem k_30 : (Rows.purgeTenantsRow.veiled == (Tryd.f3.params.toList ++ (OpenSpec.ofChange Rows.purgeTenantsSpec).bare.plain.varTypes Tryd.prog ++ Tryd.f3.resultTypes.toList).any (Tryd.prog.veiledRec ·)) = true := by kernel_rfl
theorem k_31 : Rows.purgeTenantsRow.veiledFits Tryd.prog Tryd.f3.params.toList (Tryd.f3.params.toList ++ (OpenSpec.ofChange Rows.purgeTenantsSpec).bare.plain.varTypes Tryd.prog ++ Tryd.f3.resultTypes.toList) = true := by kernel_rfl
theorem closed : joinedFacts Tryd.prog 3 Tryd.f3 (OpenSpec.ofChange Rows.purgeTenantsSpec).bare Rows.purgeTenantsRow = true := Op.andT (Op.andT (Op.andT (Op.andT (Op.andT (Op.andT (Op.andT (Op.andT (Op.andT (Op.andT (Op.andT (Op.andT (Op.andT (Op.andT (Op.andT (Op.andT (Op.andT (Op.andT (Op.andT (Op.andT (Op.andT (Op.andT (Op.andT (Op.andT (Op.andT (Op.andT (Op.andT (Op.andT (Op.andT (Op.andT (Op.andT (k_0) k_1) k_2) k_3) k_4) k_5) k_6) k_7) k_8) k_9) k_10) k_11) k_12) k_13) k_14) k_15) k_16) k_17) k_18) k_19) k_20) k_21) k_22) k_23) k_24) k_25) k_26) k_27) k_28) k_29) k_30) k_31

theorem said : Rows.PurgeTenantsSaid :=
  OpenClaim.holds_of_cond 3 Tryd.f3 rfl rfl rfl rfl rfl rfl rfl ⟨rfl, rfl, rfl, rfl, rfl⟩ rfl rfl rfl rfl rfl (by kernel_rfl) Tryd.func3 closed
    (of_decide_eq_true (by kernel_rfl)) (by unfold Func.isWrapper; first | (rw [if_pos (by decide +kernel)]; kernel_rfl) | (rw [if_neg (by decide +kernel)]; exact ⟨rfl, rfl⟩))
    (fun os started H enc _ F => by rw [OpenClaim.pre_eq_preRow]; exact lifted os started H enc F)

theorem plain (b : Bool) (hb : b = Tryd.pinned.checked.prog.looks []) (f : FuncId) (fn : Func) (hf : Tryd.pinned.checked.prog.funcNamed "quayside/quaysidelaw36.PurgeTenants" = some f) (hfn : Tryd.pinned.checked.prog.funcs[f]? = some fn) :
    b = Tryd.pinned.checked.prog.looks [] ∧ ∀ (j : Nat) t, fn.params[j]? = some t → Tryd.pinned.checked.prog.wantsStandIn t = false := by
  obtain rfl : f = 3 := Option.some.inj ((show Tryd.prog.funcNamed "quayside/quaysidelaw36.PurgeTenants" = some 3 by kernel_rfl).symm.trans hf) |>.symm
  obtain rfl : fn = Tryd.f3 := (Option.some.inj (Tryd.func3.symm.trans hfn)).symm
  refine ⟨hb, fun j t ht => ?_⟩
  rw [Tryd.params3] at ht
  have hm : t ∈ [23, 26] := by simpa using Array.mem_of_getElem? ht
  have hall : ([23, 26].all fun u => !Tryd.prog.wantsStandIn u) = true := by kernel_rfl
  exact (show Tryd.prog.wantsStandIn t = false by simpa using List.all_eq_true.1 hall t hm)

theorem proved : Rows.PurgeTenantsCardSaid :=
  Claim7.holds_tied_plain_at .later [] _ _ _ _ said (fun _ h => by cases h) (by kernel_rfl) (fun _ h => by cases h) purgeTenants_row_tie rfl ⟨rfl, rfl⟩ (by kernel_rfl) rfl (plain _ (by kernel_rfl)) (by kernel_rfl)
#print axioms proved
end Go.Proofs.YtbnjajpencahfaaDoor.lawPurgeTenants
