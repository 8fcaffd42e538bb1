/- PROVED: PurgeCovers returns true for every input and leaves its arguments as they were. No condition beyond the statement's own (the listed variables read as the program's text lays them, which the card ties). -/
import Derived.Test.YtbnjajpencahfaaDoorFrame
import Derived.Test.YtbnjajpencahfaaDoorFrameW
import Derived.Test.YtbnjajpencahfaaDoorClosed
import Derived.Test.YtbnjajpencahfaaDoorPurgI
import Derived.Test.YtbnjajpencahfaaDoorPurg7
import Derived.Test.YtbnjajpencahfaaDoorPurg8
import Derived.Test.YtbnjajpencahfaaDoorOpenI
import Derived.Test.YtbnjajpencahfaaDoorOpenP
import Derived.Test.YtbnjajpencahfaaDoorInv
namespace Go.Proofs.YtbnjajpencahfaaDoor.lawPurgeCovers
open Go.ChangeShapes Go.WideShapes Go.ChangeAt Go.RowKit Pl Ad A1
open Go.ChangeMaps (open_string shut_string)
attribute [local go_sem] ba_get conv_one conv_one_drewN ba_append ba_extract
set_option maxRecDepth 100000
set_option maxHeartbeats 4000000
set_option linter.unusedVariables false
/-- The variables of three purges and an item, the item's tags, and the world below as it was. -/
structure PC (w : World) (k0 t0 : Int) (v0 : Bs) (k1 t1 : Int) (v1 : Bs) (k2 t2 : Int) (v2 : Bs) (xt : Int) (xa : Bs) (ua : Option Addr) (uc : Nat) (tags : List Bs) (w' : World) : Prop where
  bel : Below w.heap.size w w'
  box : w'.heap[w.heap.size]? = some (.cells #[.int .i64 k0, .int .i64 t0, .string ⟨v0.toArray⟩, .int .i64 k1, .int .i64 t1, .string ⟨v1.toArray⟩, .int .i64 k2, .int .i64 t2, .string ⟨v2.toArray⟩] 39 (0, 0))
  box2 : Box3 w' (w.heap.size + 1) 26 (.int .i64 xt) (.string ⟨xa.toArray⟩) (.slice ua tags.length uc)
  str : StrsV w' (.slice ua tags.length uc) tags
theorem PC.lt {w : World} {k0 t0 : Int} {v0 : Bs} {k1 t1 : Int} {v1 : Bs} {k2 t2 : Int} {v2 : Bs} {xt : Int} {xa : Bs} {ua : Option Addr} {uc : Nat} {tags : List Bs} {w' : World} (s : PC w k0 t0 v0 k1 t1 v1 k2 t2 v2 xt xa ua uc tags w') : w.heap.size < w'.heap.size := (Array.getElem?_eq_some_iff.1 s.box).1
theorem PC.keep {w : World} {k0 t0 : Int} {v0 : Bs} {k1 t1 : Int} {v1 : Bs} {k2 t2 : Int} {v2 : Bs} {xt : Int} {xa : Bs} {ua : Option Addr} {uc : Nat} {tags : List Bs} {w1 w2 : World} {N : Nat} (hb : Below N w1 w2) (hN : N = w1.heap.size) (s : PC w k0 t0 v0 k1 t1 v1 k2 t2 v2 xt xa ua uc tags w1) : PC w k0 t0 v0 k1 t1 v1 k2 t2 v2 xt xa ua uc tags w2 := by
  subst hN
  exact ⟨s.bel.trans (hb.mono s.bel.size), (hb.block _ s.lt).trans s.box, s.box2.older hb, s.str.below hb⟩
theorem PC.drew {w : World} {k0 t0 : Int} {v0 : Bs} {k1 t1 : Int} {v1 : Bs} {k2 t2 : Int} {v2 : Bs} {xt : Int} {xa : Bs} {ua : Option Addr} {uc : Nat} {tags : List Bs} {w1 : World} (s : PC w k0 t0 v0 k1 t1 v1 k2 t2 v2 xt xa ua uc tags w1) : PC w k0 t0 v0 k1 t1 v1 k2 t2 v2 xt xa ua uc tags w1.drew := ⟨s.bel.drew, s.box, s.box2, s.str.drewN 1⟩
theorem PC.touch {w : World} {k0 t0 : Int} {v0 : Bs} {k1 t1 : Int} {v1 : Bs} {k2 t2 : Int} {v2 : Bs} {xt : Int} {xa : Bs} {ua : Option Addr} {uc : Nat} {tags : List Bs} {w1 w2 : World} {R : Nat} (hu : StrsV w (.slice ua tags.length uc) tags) (ht : Touch (fun k => k = R) w1 w2) (hR : w.heap.size + 2 ≤ R) (s : PC w k0 t0 v0 k1 t1 v1 k2 t2 v2 xt xa ua uc tags w1) : PC w k0 t0 v0 k1 t1 v1 k2 t2 v2 xt xa ua uc tags w2 := by
  have hb : Below w.heap.size w w2 := s.bel.trans (ht.below s.bel.size fun i hi => by subst hi; omega)
  exact ⟨hb, (ht.block _ s.lt (by omega)).trans s.box, (ht.block _ s.box2.facts.2.2 (by omega)).trans s.box2, hu.below hb⟩
theorem PC.cells {w : World} {k0 t0 : Int} {v0 : Bs} {k1 t1 : Int} {v1 : Bs} {k2 t2 : Int} {v2 : Bs} {xt : Int} {xa : Bs} {ua : Option Addr} {uc : Nat} {tags : List Bs} {w' : World} (s : PC w k0 t0 v0 k1 t1 v1 k2 t2 v2 xt xa ua uc tags w') : w'.cell? ⟨w.heap.size, 0, none⟩ = some (.int .i64 k0) ∧ w'.cell? ⟨w.heap.size, 1, none⟩ = some (.int .i64 t0) ∧ w'.cell? ⟨w.heap.size, 2, none⟩ = some (.string ⟨v0.toArray⟩) ∧ w'.cell? ⟨w.heap.size, 3, none⟩ = some (.int .i64 k1) ∧ w'.cell? ⟨w.heap.size, 4, none⟩ = some (.int .i64 t1) ∧ w'.cell? ⟨w.heap.size, 5, none⟩ = some (.string ⟨v1.toArray⟩) ∧ w'.cell? ⟨w.heap.size, 6, none⟩ = some (.int .i64 k2) ∧ w'.cell? ⟨w.heap.size, 7, none⟩ = some (.int .i64 t2) ∧ w'.cell? ⟨w.heap.size, 8, none⟩ = some (.string ⟨v2.toArray⟩) := by
  have h := fun i => cell_of_row w' w.heap.size i #[.int .i64 k0, .int .i64 t0, .string ⟨v0.toArray⟩, .int .i64 k1, .int .i64 t1, .string ⟨v1.toArray⟩, .int .i64 k2, .int .i64 t2, .string ⟨v2.toArray⟩] 39 (0, 0) s.box
  exact ⟨h 0, h 1, h 2, h 3, h 4, h 5, h 6, h 7, h 8⟩
theorem pc_new (w : World) (k0 t0 : Int) (v0 : Bs) (k1 t1 : Int) (v1 : Bs) (k2 t2 : Int) (v2 : Bs) (xt : Int) (xa : Bs) (ua : Option Addr) (uc : Nat) (tags : List Bs) (hu : StrsV w (.slice ua tags.length uc) tags) : PC w k0 t0 v0 k1 t1 v1 k2 t2 v2 xt xa ua uc tags ((w.alloc (.cells #[.int .i64 k0, .int .i64 t0, .string ⟨v0.toArray⟩, .int .i64 k1, .int .i64 t1, .string ⟨v1.toArray⟩, .int .i64 k2, .int .i64 t2, .string ⟨v2.toArray⟩] 39)).alloc (.cells #[.int .i64 xt, .string ⟨xa.toArray⟩, (.slice ua tags.length uc)] 26)) := by
  have h2 := box3_new (w.alloc (.cells #[.int .i64 k0, .int .i64 t0, .string ⟨v0.toArray⟩, .int .i64 k1, .int .i64 t1, .string ⟨v1.toArray⟩, .int .i64 k2, .int .i64 t2, .string ⟨v2.toArray⟩] 39)) 26 (.int .i64 xt) (.string ⟨xa.toArray⟩) (.slice ua tags.length uc)
  rw [show (w.alloc (.cells #[.int .i64 k0, .int .i64 t0, .string ⟨v0.toArray⟩, .int .i64 k1, .int .i64 t1, .string ⟨v1.toArray⟩, .int .i64 k2, .int .i64 t2, .string ⟨v2.toArray⟩] 39)).heap.size = w.heap.size + 1 by simp] at h2
  have hb1 : Below w.heap.size w (w.alloc (.cells #[.int .i64 k0, .int .i64 t0, .string ⟨v0.toArray⟩, .int .i64 k1, .int .i64 t1, .string ⟨v1.toArray⟩, .int .i64 k2, .int .i64 t2, .string ⟨v2.toArray⟩] 39)) := (Below.refl _ _).alloc (Nat.le_refl _) _
  have hb : Below w.heap.size w ((w.alloc (.cells #[.int .i64 k0, .int .i64 t0, .string ⟨v0.toArray⟩, .int .i64 k1, .int .i64 t1, .string ⟨v1.toArray⟩, .int .i64 k2, .int .i64 t2, .string ⟨v2.toArray⟩] 39)).alloc (.cells #[.int .i64 xt, .string ⟨xa.toArray⟩, (.slice ua tags.length uc)] 26)) := hb1.alloc (by simp) _
  exact ⟨hb, (Below.heap_alloc _ _ _ (by simp)).trans (heap_alloc_new w _), h2, hu.below hb⟩

theorem walk_l0 (k0 t0 : Int) (v0 : Bs) (k1 t1 : Int) (v1 : Bs) (k2 t2 : Int) (v2 : Bs) (xt : Int) (xa : Bs) (ua : Option Addr) (uc : Nat) (tags : List Bs) (w : World) (hr : Ready w) (hw : WordsAt w) (hu : StrsV w (.slice ua tags.length uc) tags) (hul : tags.length ≤ 9223372036854775807) (hl : ¬ v0.length ≤ 1500) :
    Calls Tryd.prog 4 #[.agg #[.int .i64 k0, .int .i64 t0, .string ⟨v0.toArray⟩, .int .i64 k1, .int .i64 t1, .string ⟨v1.toArray⟩, .int .i64 k2, .int .i64 t2, .string ⟨v2.toArray⟩], .agg #[.int .i64 xt, .string ⟨xa.toArray⟩, (.slice ua tags.length uc)]] w fun e w' => e = .returned (.bool true) ∧ Below w.heap.size w w' := by
  have hp : PC w k0 t0 v0 k1 t1 v1 k2 t2 v2 xt xa ua uc tags ((w.alloc (.cells #[.int .i64 k0, .int .i64 t0, .string ⟨v0.toArray⟩, .int .i64 k1, .int .i64 t1, .string ⟨v1.toArray⟩, .int .i64 k2, .int .i64 t2, .string ⟨v2.toArray⟩] 39)).alloc (.cells #[.int .i64 xt, .string ⟨xa.toArray⟩, (.slice ua tags.length uc)] 26)) := pc_new w k0 t0 v0 k1 t1 v1 k2 t2 v2 xt xa ua uc tags hu
  have HP := Lib.hid hp
  have HR := Lib.hid (hr.below hp.bel)
  have HW := Lib.hid (hw.below hp.bel)
  have HL0 := Lib.hid (decide_eq_false hl)
  clear hl
  go_enter Tryd.func4, Tryd.ntmps4
  go_wp2_with fail
  refine (awake36_any _ HR.out HW.out).mono ?_
  rintro e w1 ⟨rfl, hb1⟩
  have hP1 := PC.keep hb1 rfl HP.out
  have HP1 := Lib.hid hP1
  obtain ⟨q0, q1, q2, q3, q4, q5, q6, q7, q8⟩ := hP1.cells
  obtain ⟨⟨d0, d1, d2⟩, _⟩ := hP1.box2.facts
  clear hb1 hP1
  go_wp2_with (first | (go_at_call 6; with_reducible refine (small_any v0 _).mono ?_; rintro e w2 ⟨rfl, rfl⟩; rw [HL0.out]) | (go_at_call 5; refine (awake36_any _ (hr.below HP1.out.bel) (hw.below HP1.out.bel)).mono ?_; rintro e w3 ⟨rfl, hb3⟩))
  go_ret
  exact ⟨rfl, HP1.out.bel.trans (hb3.mono HP1.out.bel.size)⟩

theorem walk_l1 (k0 t0 : Int) (v0 : Bs) (k1 t1 : Int) (v1 : Bs) (k2 t2 : Int) (v2 : Bs) (xt : Int) (xa : Bs) (ua : Option Addr) (uc : Nat) (tags : List Bs) (w : World) (hr : Ready w) (hw : WordsAt w) (hu : StrsV w (.slice ua tags.length uc) tags) (hul : tags.length ≤ 9223372036854775807) (hl0 : v0.length ≤ 1500) (hl : ¬ v1.length ≤ 1500) :
    Calls Tryd.prog 4 #[.agg #[.int .i64 k0, .int .i64 t0, .string ⟨v0.toArray⟩, .int .i64 k1, .int .i64 t1, .string ⟨v1.toArray⟩, .int .i64 k2, .int .i64 t2, .string ⟨v2.toArray⟩], .agg #[.int .i64 xt, .string ⟨xa.toArray⟩, (.slice ua tags.length uc)]] w fun e w' => e = .returned (.bool true) ∧ Below w.heap.size w w' := by
  have hp : PC w k0 t0 v0 k1 t1 v1 k2 t2 v2 xt xa ua uc tags ((w.alloc (.cells #[.int .i64 k0, .int .i64 t0, .string ⟨v0.toArray⟩, .int .i64 k1, .int .i64 t1, .string ⟨v1.toArray⟩, .int .i64 k2, .int .i64 t2, .string ⟨v2.toArray⟩] 39)).alloc (.cells #[.int .i64 xt, .string ⟨xa.toArray⟩, (.slice ua tags.length uc)] 26)) := pc_new w k0 t0 v0 k1 t1 v1 k2 t2 v2 xt xa ua uc tags hu
  have HP := Lib.hid hp
  have HR := Lib.hid (hr.below hp.bel)
  have HW := Lib.hid (hw.below hp.bel)
  have HL0 := Lib.hid (decide_eq_true hl0)
  have HL1 := Lib.hid (decide_eq_false hl)
  clear hl hl0
  go_enter Tryd.func4, Tryd.ntmps4
  go_wp2_with fail
  refine (awake36_any _ HR.out HW.out).mono ?_
  rintro e w1 ⟨rfl, hb1⟩
  have hP1 := PC.keep hb1 rfl HP.out
  have HP1 := Lib.hid hP1
  obtain ⟨q0, q1, q2, q3, q4, q5, q6, q7, q8⟩ := hP1.cells
  obtain ⟨⟨d0, d1, d2⟩, _⟩ := hP1.box2.facts
  clear hb1 hP1
  go_wp2_with (first | (go_at_call 6; with_reducible refine (small_any v0 _).mono ?_; rintro e w2 ⟨rfl, rfl⟩; rw [HL0.out]) | (go_at_call 6; with_reducible refine (small_any v1 _).mono ?_; rintro e w2 ⟨rfl, rfl⟩; rw [HL1.out]) | (go_at_call 5; refine (awake36_any _ (hr.below HP1.out.bel) (hw.below HP1.out.bel)).mono ?_; rintro e w3 ⟨rfl, hb3⟩))
  go_ret
  exact ⟨rfl, HP1.out.bel.trans (hb3.mono HP1.out.bel.size)⟩

theorem walk_l2 (k0 t0 : Int) (v0 : Bs) (k1 t1 : Int) (v1 : Bs) (k2 t2 : Int) (v2 : Bs) (xt : Int) (xa : Bs) (ua : Option Addr) (uc : Nat) (tags : List Bs) (w : World) (hr : Ready w) (hw : WordsAt w) (hu : StrsV w (.slice ua tags.length uc) tags) (hul : tags.length ≤ 9223372036854775807) (hl0 : v0.length ≤ 1500) (hl1 : v1.length ≤ 1500) (hl : ¬ v2.length ≤ 1500) :
    Calls Tryd.prog 4 #[.agg #[.int .i64 k0, .int .i64 t0, .string ⟨v0.toArray⟩, .int .i64 k1, .int .i64 t1, .string ⟨v1.toArray⟩, .int .i64 k2, .int .i64 t2, .string ⟨v2.toArray⟩], .agg #[.int .i64 xt, .string ⟨xa.toArray⟩, (.slice ua tags.length uc)]] w fun e w' => e = .returned (.bool true) ∧ Below w.heap.size w w' := by
  have hp : PC w k0 t0 v0 k1 t1 v1 k2 t2 v2 xt xa ua uc tags ((w.alloc (.cells #[.int .i64 k0, .int .i64 t0, .string ⟨v0.toArray⟩, .int .i64 k1, .int .i64 t1, .string ⟨v1.toArray⟩, .int .i64 k2, .int .i64 t2, .string ⟨v2.toArray⟩] 39)).alloc (.cells #[.int .i64 xt, .string ⟨xa.toArray⟩, (.slice ua tags.length uc)] 26)) := pc_new w k0 t0 v0 k1 t1 v1 k2 t2 v2 xt xa ua uc tags hu
  have HP := Lib.hid hp
  have HR := Lib.hid (hr.below hp.bel)
  have HW := Lib.hid (hw.below hp.bel)
  have HL0 := Lib.hid (decide_eq_true hl0)
  have HL1 := Lib.hid (decide_eq_true hl1)
  have HL2 := Lib.hid (decide_eq_false hl)
  clear hl hl0 hl1
  go_enter Tryd.func4, Tryd.ntmps4
  go_wp2_with fail
  refine (awake36_any _ HR.out HW.out).mono ?_
  rintro e w1 ⟨rfl, hb1⟩
  have hP1 := PC.keep hb1 rfl HP.out
  have HP1 := Lib.hid hP1
  obtain ⟨q0, q1, q2, q3, q4, q5, q6, q7, q8⟩ := hP1.cells
  obtain ⟨⟨d0, d1, d2⟩, _⟩ := hP1.box2.facts
  clear hb1 hP1
  go_wp2_with (first | (go_at_call 6; with_reducible refine (small_any v0 _).mono ?_; rintro e w2 ⟨rfl, rfl⟩; rw [HL0.out]) | (go_at_call 6; with_reducible refine (small_any v1 _).mono ?_; rintro e w2 ⟨rfl, rfl⟩; rw [HL1.out]) | (go_at_call 6; with_reducible refine (small_any v2 _).mono ?_; rintro e w2 ⟨rfl, rfl⟩; rw [HL2.out]) | (go_at_call 5; refine (awake36_any _ (hr.below HP1.out.bel) (hw.below HP1.out.bel)).mono ?_; rintro e w3 ⟨rfl, hb3⟩))
  go_ret
  exact ⟨rfl, HP1.out.bel.trans (hb3.mono HP1.out.bel.size)⟩

theorem walk_l3 (k0 t0 : Int) (v0 : Bs) (k1 t1 : Int) (v1 : Bs) (k2 t2 : Int) (v2 : Bs) (xt : Int) (xa : Bs) (ua : Option Addr) (uc : Nat) (tags : List Bs) (w : World) (hr : Ready w) (hw : WordsAt w) (hu : StrsV w (.slice ua tags.length uc) tags) (hul : tags.length ≤ 9223372036854775807) (hl0 : v0.length ≤ 1500) (hl1 : v1.length ≤ 1500) (hl2 : v2.length ≤ 1500) (hl : fitsB xa tags = false) :
    Calls Tryd.prog 4 #[.agg #[.int .i64 k0, .int .i64 t0, .string ⟨v0.toArray⟩, .int .i64 k1, .int .i64 t1, .string ⟨v1.toArray⟩, .int .i64 k2, .int .i64 t2, .string ⟨v2.toArray⟩], .agg #[.int .i64 xt, .string ⟨xa.toArray⟩, (.slice ua tags.length uc)]] w fun e w' => e = .returned (.bool true) ∧ Below w.heap.size w w' := by
  have hp : PC w k0 t0 v0 k1 t1 v1 k2 t2 v2 xt xa ua uc tags ((w.alloc (.cells #[.int .i64 k0, .int .i64 t0, .string ⟨v0.toArray⟩, .int .i64 k1, .int .i64 t1, .string ⟨v1.toArray⟩, .int .i64 k2, .int .i64 t2, .string ⟨v2.toArray⟩] 39)).alloc (.cells #[.int .i64 xt, .string ⟨xa.toArray⟩, (.slice ua tags.length uc)] 26)) := pc_new w k0 t0 v0 k1 t1 v1 k2 t2 v2 xt xa ua uc tags hu
  have HP := Lib.hid hp
  have HR := Lib.hid (hr.below hp.bel)
  have HW := Lib.hid (hw.below hp.bel)
  have HL0 := Lib.hid (decide_eq_true hl0)
  have HL1 := Lib.hid (decide_eq_true hl1)
  have HL2 := Lib.hid (decide_eq_true hl2)
  have HLb := Lib.hid hl
  clear hl hl0 hl1 hl2
  go_enter Tryd.func4, Tryd.ntmps4
  go_wp2_with fail
  refine (awake36_any _ HR.out HW.out).mono ?_
  rintro e w1 ⟨rfl, hb1⟩
  have hP1 := PC.keep hb1 rfl HP.out
  have HP1 := Lib.hid hP1
  obtain ⟨q0, q1, q2, q3, q4, q5, q6, q7, q8⟩ := hP1.cells
  obtain ⟨⟨d0, d1, d2⟩, _⟩ := hP1.box2.facts
  clear hb1 hP1
  go_wp2_with (first | (go_at_call 6; with_reducible refine (small_any v0 _).mono ?_; rintro e w2 ⟨rfl, rfl⟩; rw [HL0.out]) | (go_at_call 6; with_reducible refine (small_any v1 _).mono ?_; rintro e w2 ⟨rfl, rfl⟩; rw [HL1.out]) | (go_at_call 6; with_reducible refine (small_any v2 _).mono ?_; rintro e w2 ⟨rfl, rfl⟩; rw [HL2.out]) | (go_at_call 7; refine (fits_any xt xa _ tags _ HP1.out.str hul).mono ?_; rintro e w2 ⟨rfl, hb2⟩; rw [HLb.out]; have HP2 := Lib.hid (PC.keep hb2 rfl HP1.out); clear q0 q1 q2 q3 q4 q5 q6 q7 q8 d0 d1 d2 hb2) | (go_at_call 5; refine (awake36_any _ (hr.below HP2.out.bel) (hw.below HP2.out.bel)).mono ?_; rintro e w3 ⟨rfl, hb3⟩))
  go_ret
  exact ⟨rfl, HP2.out.bel.trans (hb3.mono HP2.out.bel.size)⟩

/-- What holds while the variables are made, in whatever order. -/
structure CT (w : World) (k0 t0 : Int) (v0 : Bs) (k1 t1 : Int) (v1 : Bs) (k2 t2 : Int) (v2 : Bs) (xt : Int) (xa : Bs) (ua : Option Addr) (uc : Nat) (tags : List Bs) (b0 b1 b2 b3 b4 b5 b6 b7 b8 b9 b10 b11 b12 b13 b14 b15 b16 b17 b18 : Bool) (x38 x39 x40 x41 x42 x43 x44 x45 x46 x47 x48 x5 x6 x7 x8 : Value) (R5 R6 R7 R8 : Nat) (w' : World) : Prop where
  pm : PC w k0 t0 v0 k1 t1 v1 k2 t2 v2 xt xa ua uc tags w'
  d0 : b0 = true → x38 = (.pointer (some ⟨w.heap.size, 0, none⟩))
  d1 : b1 = true → x39 = (.agg #[.int .i64 k0, .int .i64 t0, .string ⟨v0.toArray⟩])
  d2 : b2 = true → x40 = (.agg #[.int .i64 k0, .int .i64 t0, .string ⟨v0.toArray⟩])
  d3 : b3 = true → x41 = (.pointer (some ⟨w.heap.size, 3, none⟩))
  d4 : b4 = true → x42 = (.agg #[.int .i64 k1, .int .i64 t1, .string ⟨v1.toArray⟩])
  d5 : b5 = true → x43 = (.agg #[.int .i64 k1, .int .i64 t1, .string ⟨v1.toArray⟩])
  d6 : b6 = true → x44 = (.pointer (some ⟨w.heap.size, 6, none⟩))
  d7 : b7 = true → x45 = (.agg #[.int .i64 k2, .int .i64 t2, .string ⟨v2.toArray⟩])
  d8 : b8 = true → x46 = (.agg #[.int .i64 k2, .int .i64 t2, .string ⟨v2.toArray⟩])
  d9 : b9 = true → x47 = (.agg #[.int .i64 xt, .string ⟨xa.toArray⟩, (.slice ua tags.length uc)])
  d10 : b10 = true → ∃ nv, x48 = .agg #[.int .i64 xt, .string ⟨xa.toArray⟩, nv] ∧ OwnWin w' (w.heap.size + 2) 9 1 nv tags.length (svals tags)
  t5 : Thr (w.heap.size + 2) R5 30 b11 b15 x5 x40 w'
  t6 : Thr (w.heap.size + 2) R6 30 b12 b16 x6 x43 w'
  t7 : Thr (w.heap.size + 2) R7 30 b13 b17 x7 x46 w'
  t8 : Thr (w.heap.size + 2) R8 32 b14 b18 x8 x48 w'
  i5 : b15 = true → b2 = true ∧ b11 = true
  i6 : b16 = true → b5 = true ∧ b12 = true
  i7 : b17 = true → b8 = true ∧ b13 = true
  i8 : b18 = true → b10 = true ∧ b14 = true
  n5_6 : b11 = true → b12 = true → R5 ≠ R6
  n5_7 : b11 = true → b13 = true → R5 ≠ R7
  n6_7 : b12 = true → b13 = true → R6 ≠ R7
theorem CT.grow {w : World} {k0 t0 : Int} {v0 : Bs} {k1 t1 : Int} {v1 : Bs} {k2 t2 : Int} {v2 : Bs} {xt : Int} {xa : Bs} {ua : Option Addr} {uc : Nat} {tags : List Bs} {b0 b1 b2 b3 b4 b5 b6 b7 b8 b9 b10 b11 b12 b13 b14 b15 b16 b17 b18 : Bool} {x38 x39 x40 x41 x42 x43 x44 x45 x46 x47 x48 x5 x6 x7 x8 : Value} {R5 R6 R7 R8 : Nat} {w1 w2 : World} (hb : Below w1.heap.size w1 w2) (s : CT w k0 t0 v0 k1 t1 v1 k2 t2 v2 xt xa ua uc tags b0 b1 b2 b3 b4 b5 b6 b7 b8 b9 b10 b11 b12 b13 b14 b15 b16 b17 b18 x38 x39 x40 x41 x42 x43 x44 x45 x46 x47 x48 x5 x6 x7 x8 R5 R6 R7 R8 w1) : CT w k0 t0 v0 k1 t1 v1 k2 t2 v2 xt xa ua uc tags b0 b1 b2 b3 b4 b5 b6 b7 b8 b9 b10 b11 b12 b13 b14 b15 b16 b17 b18 x38 x39 x40 x41 x42 x43 x44 x45 x46 x47 x48 x5 x6 x7 x8 R5 R6 R7 R8 w2 :=
  ⟨s.pm.keep hb rfl, s.d0, s.d1, s.d2, s.d3, s.d4, s.d5, s.d6, s.d7, s.d8, s.d9, (fun h => by obtain ⟨nv, h1, h2⟩ := s.d10 h; exact ⟨nv, h1, h2.older hb⟩), s.t5.below hb, s.t6.below hb, s.t7.below hb, s.t8.below hb, s.i5, s.i6, s.i7, s.i8, s.n5_6, s.n5_7, s.n6_7⟩
theorem CT.size {w : World} {k0 t0 : Int} {v0 : Bs} {k1 t1 : Int} {v1 : Bs} {k2 t2 : Int} {v2 : Bs} {xt : Int} {xa : Bs} {ua : Option Addr} {uc : Nat} {tags : List Bs} {b0 b1 b2 b3 b4 b5 b6 b7 b8 b9 b10 b11 b12 b13 b14 b15 b16 b17 b18 : Bool} {x38 x39 x40 x41 x42 x43 x44 x45 x46 x47 x48 x5 x6 x7 x8 : Value} {R5 R6 R7 R8 : Nat} {w1 : World} (s : CT w k0 t0 v0 k1 t1 v1 k2 t2 v2 xt xa ua uc tags b0 b1 b2 b3 b4 b5 b6 b7 b8 b9 b10 b11 b12 b13 b14 b15 b16 b17 b18 x38 x39 x40 x41 x42 x43 x44 x45 x46 x47 x48 x5 x6 x7 x8 R5 R6 R7 R8 w1) : w.heap.size + 2 ≤ w1.heap.size := by have := s.pm.box2.facts.2.2; omega

theorem walk_main (k0 t0 : Int) (v0 : Bs) (k1 t1 : Int) (v1 : Bs) (k2 t2 : Int) (v2 : Bs) (xt : Int) (xa : Bs) (ua : Option Addr) (uc : Nat) (tags : List Bs) (w : World) (hr : Ready w) (hw : WordsAt w) (hu : StrsV w (.slice ua tags.length uc) tags) (hul : tags.length ≤ 9223372036854775807) (hl0 : v0.length ≤ 1500) (hl1 : v1.length ≤ 1500) (hl2 : v2.length ≤ 1500) (hl : fitsB xa tags = true) :
    Calls Tryd.prog 4 #[.agg #[.int .i64 k0, .int .i64 t0, .string ⟨v0.toArray⟩, .int .i64 k1, .int .i64 t1, .string ⟨v1.toArray⟩, .int .i64 k2, .int .i64 t2, .string ⟨v2.toArray⟩], .agg #[.int .i64 xt, .string ⟨xa.toArray⟩, (.slice ua tags.length uc)]] w fun e w' => e = .returned (.bool true) ∧ Below w.heap.size w w' := by
  have hp : PC w k0 t0 v0 k1 t1 v1 k2 t2 v2 xt xa ua uc tags ((w.alloc (.cells #[.int .i64 k0, .int .i64 t0, .string ⟨v0.toArray⟩, .int .i64 k1, .int .i64 t1, .string ⟨v1.toArray⟩, .int .i64 k2, .int .i64 t2, .string ⟨v2.toArray⟩] 39)).alloc (.cells #[.int .i64 xt, .string ⟨xa.toArray⟩, (.slice ua tags.length uc)] 26)) := pc_new w k0 t0 v0 k1 t1 v1 k2 t2 v2 xt xa ua uc tags hu
  have HP := Lib.hid hp
  have HR := Lib.hid (hr.below hp.bel)
  have HW := Lib.hid (hw.below hp.bel)
  have HU := Lib.hid hu
  have HL0 := Lib.hid (decide_eq_true hl0)
  have HL1 := Lib.hid (decide_eq_true hl1)
  have HL2 := Lib.hid (decide_eq_true hl2)
  have HLb := Lib.hid hl
  have HRA : Hid (∀ w', Below w.heap.size w w' → Ready w') := Lib.hid fun w' hb => hr.below hb
  have hm0 : v0.length ≤ 134217728 := by omega
  have hm1 : v1.length ≤ 134217728 := by omega
  have hm2 : v2.length ≤ 134217728 := by omega
  have hm3 : xa.length ≤ 134217728 := by have := (fitsB_true hl).2.2; omega
  have hl3 : tags.length ≤ 40 := (fitsB_true hl).2.1
  clear hp hl hu
  go_enter Tryd.func4, Tryd.ntmps4
  go_wp2_with fail
  refine (awake36_any _ HR.out HW.out).mono ?_
  rintro e w1 ⟨rfl, hb1⟩
  have hP1 := PC.keep hb1 rfl HP.out
  have HP1 := Lib.hid hP1
  obtain ⟨q0, q1, q2, q3, q4, q5, q6, q7, q8⟩ := hP1.cells
  obtain ⟨⟨d0, d1, d2⟩, _⟩ := hP1.box2.facts
  clear hb1 hP1
  go_wp2_with (first | (go_at_call 6; with_reducible refine (small_any v0 _).mono ?_; rintro e w2 ⟨rfl, rfl⟩; rw [HL0.out]) | (go_at_call 6; with_reducible refine (small_any v1 _).mono ?_; rintro e w2 ⟨rfl, rfl⟩; rw [HL1.out]) | (go_at_call 6; with_reducible refine (small_any v2 _).mono ?_; rintro e w2 ⟨rfl, rfl⟩; rw [HL2.out]) | (go_at_call 7; refine (fits_any xt xa _ tags _ HP1.out.str hul).mono ?_; rintro e w2 ⟨rfl, hb2⟩; rw [HLb.out]; have HP2 := Lib.hid (PC.keep hb2 rfl HP1.out); clear q0 q1 q2 q3 q4 q5 q6 q7 q8 d0 d1 d2 hb2))
  have HP3 := HP2
  clear HP1 HP2
  refine wp_region_inv (fun a0 listed a w' => ∃ (b0 b1 b2 b3 b4 b5 b6 b7 b8 b9 b10 b11 b12 b13 b14 b15 b16 b17 b18 : Bool) (x38 x39 x40 x41 x42 x43 x44 x45 x46 x47 x48 x5 x6 x7 x8 : Value) (R5 R6 R7 R8 : Nat), listed = #[b0, b1, b2, b3, b4, b5, b6, b7, b8, b9, b10, b11, b12, b13, b14, b15, b16, b17, b18] ∧ a = (((((((((((((((a0.put (some 38) x38).put (some 39) x39).put (some 40) x40).put (some 41) x41).put (some 42) x42).put (some 43) x43).put (some 44) x44).put (some 45) x45).put (some 46) x46).put (some 47) x47).put (some 48) x48).put (some 5) x5).put (some 6) x6).put (some 7) x7).put (some 8) x8) ∧ CT w k0 t0 v0 k1 t1 v1 k2 t2 v2 xt xa ua uc tags b0 b1 b2 b3 b4 b5 b6 b7 b8 b9 b10 b11 b12 b13 b14 b15 b16 b17 b18 x38 x39 x40 x41 x42 x43 x44 x45 x46 x47 x48 x5 x6 x7 x8 R5 R6 R7 R8 w') (by kernel_rfl) ?_ ?_ ?_
  · exact ⟨false, false, false, false, false, false, false, false, false, false, false, false, false, false, false, false, false, false, false, undef, undef, undef, undef, undef, undef, undef, undef, undef, undef, undef, undef, undef, undef, undef, 0, 0, 0, 0, rfl, (by simp only [Act.put, List.setIfInBounds_toArray, List.set_cons_zero, List.set_cons_succ]), ⟨HP3.out.drew, (fun h => by cases h), (fun h => by cases h), (fun h => by cases h), (fun h => by cases h), (fun h => by cases h), (fun h => by cases h), (fun h => by cases h), (fun h => by cases h), (fun h => by cases h), (fun h => by cases h), (fun h => by cases h), Thr.no, Thr.no, Thr.no, Thr.no, (fun h => by cases h), (fun h => by cases h), (fun h => by cases h), (fun h => by cases h), (fun h => by cases h), (fun h => by cases h), (fun h => by cases h)⟩⟩
  · rintro listed a' w' i ⟨b0, b1, b2, b3, b4, b5, b6, b7, b8, b9, b10, b11, b12, b13, b14, b15, b16, b17, b18, x38, x39, x40, x41, x42, x43, x44, x45, x46, x47, x48, x5, x6, x7, x8, R5, R6, R7, R8, rfl, rfl, s⟩ hr9
    have hlt : i < 19 := ready_lt hr9
    have hi : i = 0 ∨ i = 1 ∨ i = 2 ∨ i = 3 ∨ i = 4 ∨ i = 5 ∨ i = 6 ∨ i = 7 ∨ i = 8 ∨ i = 9 ∨ i = 10 ∨ i = 11 ∨ i = 12 ∨ i = 13 ∨ i = 14 ∨ i = 15 ∨ i = 16 ∨ i = 17 ∨ i = 18 := by omega
    clear hlt
    rcases hi with rfl | rfl | rfl | rfl | rfl | rfl | rfl | rfl | rfl | rfl | rfl | rfl | rfl | rfl | rfl | rfl | rfl | rfl | rfl
    · have e9 := eqF (b := b0) hr9 rfl
      subst e9
      refine wpOp_step rfl (fun K hK => ?_)
      simp only [Act.put, List.setIfInBounds_toArray, List.set_cons_zero, List.set_cons_succ]
      go_simp
      refine hK _ _ ?_
      exact ⟨true, b1, b2, b3, b4, b5, b6, b7, b8, b9, b10, b11, b12, b13, b14, b15, b16, b17, b18, (.pointer (some ⟨w.heap.size, 0, none⟩)), x39, x40, x41, x42, x43, x44, x45, x46, x47, x48, x5, x6, x7, x8, R5, R6, R7, R8, rfl, (by simp only [Act.put, List.setIfInBounds_toArray, List.set_cons_zero, List.set_cons_succ]), ⟨s.pm, (fun _ => rfl), s.d1, s.d2, s.d3, s.d4, s.d5, s.d6, s.d7, s.d8, s.d9, s.d10, s.t5, s.t6, s.t7, s.t8, s.i5, s.i6, s.i7, s.i8, s.n5_6, s.n5_7, s.n6_7⟩⟩
    · have e9 := eqF (b := b1) hr9 rfl
      subst e9
      have g0 := eqT (j := 0) (b := b0) hr9 rfl (by kernel_rfl)
      subst g0
      obtain rfl := s.d0 rfl
      have hcf := s.pm.cells
      obtain ⟨q0, q1, q2, q3, q4, q5, q6, q7, q8⟩ := hcf
      refine wpOp_step rfl (fun K hK => ?_)
      simp only [Act.put, List.setIfInBounds_toArray, List.set_cons_zero, List.set_cons_succ]
      go_simp
      refine hK _ _ ?_
      exact ⟨true, true, b2, b3, b4, b5, b6, b7, b8, b9, b10, b11, b12, b13, b14, b15, b16, b17, b18, (.pointer (some ⟨w.heap.size, 0, none⟩)), (.agg #[.int .i64 k0, .int .i64 t0, .string ⟨v0.toArray⟩]), x40, x41, x42, x43, x44, x45, x46, x47, x48, x5, x6, x7, x8, R5, R6, R7, R8, rfl, (by simp only [Act.put, List.setIfInBounds_toArray, List.set_cons_zero, List.set_cons_succ]), ⟨s.pm, s.d0, (fun _ => rfl), s.d2, s.d3, s.d4, s.d5, s.d6, s.d7, s.d8, s.d9, s.d10, s.t5, s.t6, s.t7, s.t8, s.i5, s.i6, s.i7, s.i8, s.n5_6, s.n5_7, s.n6_7⟩⟩
    · have e9 := eqF (b := b2) hr9 rfl
      subst e9
      have g1 := eqT (j := 1) (b := b1) hr9 rfl (by kernel_rfl)
      subst g1
      have n9 : b15 = false := by cases b15 with | false => rfl | true => exact absurd (s.i5 rfl).1 (by simp)
      subst n9
      obtain rfl := s.d1 rfl
      have hsz := s.size
      refine wpOp_step rfl (fun K hK => ?_)
      simp only [Act.put, List.setIfInBounds_toArray, List.set_cons_zero, List.set_cons_succ]
      go_simp
      go_wp2_with ((go_at_call 8; with_reducible refine (of36_any ⟨k0, t0, v0⟩ _).mono ?_; rintro e w9 ⟨rfl, hb9⟩))
      have s := s.grow hb9
      exact ⟨b0, true, true, b3, b4, b5, b6, b7, b8, b9, b10, b11, b12, b13, b14, false, b16, b17, b18, x38, (.agg #[.int .i64 k0, .int .i64 t0, .string ⟨v0.toArray⟩]), (.agg #[.int .i64 k0, .int .i64 t0, .string ⟨v0.toArray⟩]), x41, x42, x43, x44, x45, x46, x47, x48, x5, x6, x7, x8, R5, R6, R7, R8, rfl, (by simp only [Act.put, List.setIfInBounds_toArray, List.set_cons_zero, List.set_cons_succ]), ⟨s.pm, s.d0, s.d1, (fun _ => rfl), s.d3, s.d4, s.d5, s.d6, s.d7, s.d8, s.d9, s.d10, s.t5.other, s.t6, s.t7, s.t8, (fun h => by cases h), s.i6, s.i7, s.i8, s.n5_6, s.n5_7, s.n6_7⟩⟩
    · have e9 := eqF (b := b3) hr9 rfl
      subst e9
      refine wpOp_step rfl (fun K hK => ?_)
      simp only [Act.put, List.setIfInBounds_toArray, List.set_cons_zero, List.set_cons_succ]
      go_simp
      refine hK _ _ ?_
      exact ⟨b0, b1, b2, true, b4, b5, b6, b7, b8, b9, b10, b11, b12, b13, b14, b15, b16, b17, b18, x38, x39, x40, (.pointer (some ⟨w.heap.size, 3, none⟩)), x42, x43, x44, x45, x46, x47, x48, x5, x6, x7, x8, R5, R6, R7, R8, rfl, (by simp only [Act.put, List.setIfInBounds_toArray, List.set_cons_zero, List.set_cons_succ]), ⟨s.pm, s.d0, s.d1, s.d2, (fun _ => rfl), s.d4, s.d5, s.d6, s.d7, s.d8, s.d9, s.d10, s.t5, s.t6, s.t7, s.t8, s.i5, s.i6, s.i7, s.i8, s.n5_6, s.n5_7, s.n6_7⟩⟩
    · have e9 := eqF (b := b4) hr9 rfl
      subst e9
      have g3 := eqT (j := 3) (b := b3) hr9 rfl (by kernel_rfl)
      subst g3
      obtain rfl := s.d3 rfl
      have hcf := s.pm.cells
      obtain ⟨q0, q1, q2, q3, q4, q5, q6, q7, q8⟩ := hcf
      refine wpOp_step rfl (fun K hK => ?_)
      simp only [Act.put, List.setIfInBounds_toArray, List.set_cons_zero, List.set_cons_succ]
      go_simp
      refine hK _ _ ?_
      exact ⟨b0, b1, b2, true, true, b5, b6, b7, b8, b9, b10, b11, b12, b13, b14, b15, b16, b17, b18, x38, x39, x40, (.pointer (some ⟨w.heap.size, 3, none⟩)), (.agg #[.int .i64 k1, .int .i64 t1, .string ⟨v1.toArray⟩]), x43, x44, x45, x46, x47, x48, x5, x6, x7, x8, R5, R6, R7, R8, rfl, (by simp only [Act.put, List.setIfInBounds_toArray, List.set_cons_zero, List.set_cons_succ]), ⟨s.pm, s.d0, s.d1, s.d2, s.d3, (fun _ => rfl), s.d5, s.d6, s.d7, s.d8, s.d9, s.d10, s.t5, s.t6, s.t7, s.t8, s.i5, s.i6, s.i7, s.i8, s.n5_6, s.n5_7, s.n6_7⟩⟩
    · have e9 := eqF (b := b5) hr9 rfl
      subst e9
      have g4 := eqT (j := 4) (b := b4) hr9 rfl (by kernel_rfl)
      subst g4
      have n9 : b16 = false := by cases b16 with | false => rfl | true => exact absurd (s.i6 rfl).1 (by simp)
      subst n9
      obtain rfl := s.d4 rfl
      have hsz := s.size
      refine wpOp_step rfl (fun K hK => ?_)
      simp only [Act.put, List.setIfInBounds_toArray, List.set_cons_zero, List.set_cons_succ]
      go_simp
      go_wp2_with ((go_at_call 8; with_reducible refine (of36_any ⟨k1, t1, v1⟩ _).mono ?_; rintro e w9 ⟨rfl, hb9⟩))
      have s := s.grow hb9
      exact ⟨b0, b1, b2, b3, true, true, b6, b7, b8, b9, b10, b11, b12, b13, b14, b15, false, b17, b18, x38, x39, x40, x41, (.agg #[.int .i64 k1, .int .i64 t1, .string ⟨v1.toArray⟩]), (.agg #[.int .i64 k1, .int .i64 t1, .string ⟨v1.toArray⟩]), x44, x45, x46, x47, x48, x5, x6, x7, x8, R5, R6, R7, R8, rfl, (by simp only [Act.put, List.setIfInBounds_toArray, List.set_cons_zero, List.set_cons_succ]), ⟨s.pm, s.d0, s.d1, s.d2, s.d3, s.d4, (fun _ => rfl), s.d6, s.d7, s.d8, s.d9, s.d10, s.t5, s.t6.other, s.t7, s.t8, s.i5, (fun h => by cases h), s.i7, s.i8, s.n5_6, s.n5_7, s.n6_7⟩⟩
    · have e9 := eqF (b := b6) hr9 rfl
      subst e9
      refine wpOp_step rfl (fun K hK => ?_)
      simp only [Act.put, List.setIfInBounds_toArray, List.set_cons_zero, List.set_cons_succ]
      go_simp
      refine hK _ _ ?_
      exact ⟨b0, b1, b2, b3, b4, b5, true, b7, b8, b9, b10, b11, b12, b13, b14, b15, b16, b17, b18, x38, x39, x40, x41, x42, x43, (.pointer (some ⟨w.heap.size, 6, none⟩)), x45, x46, x47, x48, x5, x6, x7, x8, R5, R6, R7, R8, rfl, (by simp only [Act.put, List.setIfInBounds_toArray, List.set_cons_zero, List.set_cons_succ]), ⟨s.pm, s.d0, s.d1, s.d2, s.d3, s.d4, s.d5, (fun _ => rfl), s.d7, s.d8, s.d9, s.d10, s.t5, s.t6, s.t7, s.t8, s.i5, s.i6, s.i7, s.i8, s.n5_6, s.n5_7, s.n6_7⟩⟩
    · have e9 := eqF (b := b7) hr9 rfl
      subst e9
      have g6 := eqT (j := 6) (b := b6) hr9 rfl (by kernel_rfl)
      subst g6
      obtain rfl := s.d6 rfl
      have hcf := s.pm.cells
      obtain ⟨q0, q1, q2, q3, q4, q5, q6, q7, q8⟩ := hcf
      refine wpOp_step rfl (fun K hK => ?_)
      simp only [Act.put, List.setIfInBounds_toArray, List.set_cons_zero, List.set_cons_succ]
      go_simp
      refine hK _ _ ?_
      exact ⟨b0, b1, b2, b3, b4, b5, true, true, b8, b9, b10, b11, b12, b13, b14, b15, b16, b17, b18, x38, x39, x40, x41, x42, x43, (.pointer (some ⟨w.heap.size, 6, none⟩)), (.agg #[.int .i64 k2, .int .i64 t2, .string ⟨v2.toArray⟩]), x46, x47, x48, x5, x6, x7, x8, R5, R6, R7, R8, rfl, (by simp only [Act.put, List.setIfInBounds_toArray, List.set_cons_zero, List.set_cons_succ]), ⟨s.pm, s.d0, s.d1, s.d2, s.d3, s.d4, s.d5, s.d6, (fun _ => rfl), s.d8, s.d9, s.d10, s.t5, s.t6, s.t7, s.t8, s.i5, s.i6, s.i7, s.i8, s.n5_6, s.n5_7, s.n6_7⟩⟩
    · have e9 := eqF (b := b8) hr9 rfl
      subst e9
      have g7 := eqT (j := 7) (b := b7) hr9 rfl (by kernel_rfl)
      subst g7
      have n9 : b17 = false := by cases b17 with | false => rfl | true => exact absurd (s.i7 rfl).1 (by simp)
      subst n9
      obtain rfl := s.d7 rfl
      have hsz := s.size
      refine wpOp_step rfl (fun K hK => ?_)
      simp only [Act.put, List.setIfInBounds_toArray, List.set_cons_zero, List.set_cons_succ]
      go_simp
      go_wp2_with ((go_at_call 8; with_reducible refine (of36_any ⟨k2, t2, v2⟩ _).mono ?_; rintro e w9 ⟨rfl, hb9⟩))
      have s := s.grow hb9
      exact ⟨b0, b1, b2, b3, b4, b5, b6, true, true, b9, b10, b11, b12, b13, b14, b15, b16, false, b18, x38, x39, x40, x41, x42, x43, x44, (.agg #[.int .i64 k2, .int .i64 t2, .string ⟨v2.toArray⟩]), (.agg #[.int .i64 k2, .int .i64 t2, .string ⟨v2.toArray⟩]), x47, x48, x5, x6, x7, x8, R5, R6, R7, R8, rfl, (by simp only [Act.put, List.setIfInBounds_toArray, List.set_cons_zero, List.set_cons_succ]), ⟨s.pm, s.d0, s.d1, s.d2, s.d3, s.d4, s.d5, s.d6, s.d7, (fun _ => rfl), s.d9, s.d10, s.t5, s.t6, s.t7.other, s.t8, s.i5, s.i6, (fun h => by cases h), s.i8, s.n5_6, s.n5_7, s.n6_7⟩⟩
    · have e9 := eqF (b := b9) hr9 rfl
      subst e9
      obtain ⟨⟨q0, q1, q2⟩, _⟩ := s.pm.box2.facts
      refine wpOp_step rfl (fun K hK => ?_)
      simp only [Act.put, List.setIfInBounds_toArray, List.set_cons_zero, List.set_cons_succ]
      go_simp
      refine hK _ _ ?_
      exact ⟨b0, b1, b2, b3, b4, b5, b6, b7, b8, true, b10, b11, b12, b13, b14, b15, b16, b17, b18, x38, x39, x40, x41, x42, x43, x44, x45, x46, (.agg #[.int .i64 xt, .string ⟨xa.toArray⟩, (.slice ua tags.length uc)]), x48, x5, x6, x7, x8, R5, R6, R7, R8, rfl, (by simp only [Act.put, List.setIfInBounds_toArray, List.set_cons_zero, List.set_cons_succ]), ⟨s.pm, s.d0, s.d1, s.d2, s.d3, s.d4, s.d5, s.d6, s.d7, s.d8, (fun _ => rfl), s.d10, s.t5, s.t6, s.t7, s.t8, s.i5, s.i6, s.i7, s.i8, s.n5_6, s.n5_7, s.n6_7⟩⟩
    · have e9 := eqF (b := b10) hr9 rfl
      subst e9
      have g9 := eqT (j := 9) (b := b9) hr9 rfl (by kernel_rfl)
      subst g9
      have n9 : b18 = false := by cases b18 with | false => rfl | true => exact absurd (s.i8 rfl).1 (by simp)
      subst n9
      obtain rfl := s.d9 rfl
      have hsz := s.size
      refine wpOp_step rfl (fun K hK => ?_)
      simp only [Act.put, List.setIfInBounds_toArray, List.set_cons_zero, List.set_cons_succ]
      go_simp
      go_wp2_with ((go_at_call 9; with_reducible refine (item36_own xt xa _ tags _ (HU.out.below s.pm.bel) (by omega)).mono ?_; rintro e w9 ⟨nv, rfl, hown, hb9⟩))
      have s := s.grow hb9
      exact ⟨b0, b1, b2, b3, b4, b5, b6, b7, b8, true, true, b11, b12, b13, b14, b15, b16, b17, false, x38, x39, x40, x41, x42, x43, x44, x45, x46, (.agg #[.int .i64 xt, .string ⟨xa.toArray⟩, (.slice ua tags.length uc)]), (.agg #[.int .i64 xt, .string ⟨xa.toArray⟩, nv]), x5, x6, x7, x8, R5, R6, R7, R8, rfl, (by simp only [Act.put, List.setIfInBounds_toArray, List.set_cons_zero, List.set_cons_succ]), ⟨s.pm, s.d0, s.d1, s.d2, s.d3, s.d4, s.d5, s.d6, s.d7, s.d8, s.d9, (fun _ => ⟨nv, rfl, hown.mono fun q hq => by have := (hown.lt q hq).1; omega⟩), s.t5, s.t6, s.t7, s.t8.other, s.i5, s.i6, s.i7, (fun h => by cases h), s.n5_6, s.n5_7, s.n6_7⟩⟩
    · have e9 := eqF (b := b11) hr9 rfl
      subst e9
      have n9 : b15 = false := by cases b15 with | false => rfl | true => exact absurd (s.i5 rfl).2 (by simp)
      subst n9
      have hsz := s.size
      refine wpOp_step rfl (fun K hK => ?_)
      simp only [Act.put, List.setIfInBounds_toArray, List.set_cons_zero, List.set_cons_succ]
      go_simp
      refine hK _ _ ?_
      have s0 := s
      have s := s.grow ((Below.refl _ _).alloc (Nat.le_refl _) (.cells #[.int .i64 0, .int .i64 0, .string ⟨#[]⟩] 30))
      exact ⟨b0, b1, b2, b3, b4, b5, b6, b7, b8, b9, b10, true, b12, b13, b14, false, b16, b17, b18, x38, x39, x40, x41, x42, x43, x44, x45, x46, x47, x48, (.pointer (some ⟨w'.heap.size, 0, none⟩)), x6, x7, x8, w'.heap.size, R6, R7, R8, rfl, (by simp only [Act.put, List.setIfInBounds_toArray, List.set_cons_zero, List.set_cons_succ]), ⟨s.pm, s.d0, s.d1, s.d2, s.d3, s.d4, s.d5, s.d6, s.d7, s.d8, s.d9, s.d10, Thr.made hsz rfl, s.t6, s.t7, s.t8, (fun h => by cases h), s.i6, s.i7, s.i8, (fun _ h => by have := (s0.t6.lt h).2; omega), (fun _ h => by have := (s0.t7.lt h).2; omega), s.n6_7⟩⟩
    · have e9 := eqF (b := b12) hr9 rfl
      subst e9
      have n9 : b16 = false := by cases b16 with | false => rfl | true => exact absurd (s.i6 rfl).2 (by simp)
      subst n9
      have hsz := s.size
      refine wpOp_step rfl (fun K hK => ?_)
      simp only [Act.put, List.setIfInBounds_toArray, List.set_cons_zero, List.set_cons_succ]
      go_simp
      refine hK _ _ ?_
      have s0 := s
      have s := s.grow ((Below.refl _ _).alloc (Nat.le_refl _) (.cells #[.int .i64 0, .int .i64 0, .string ⟨#[]⟩] 30))
      exact ⟨b0, b1, b2, b3, b4, b5, b6, b7, b8, b9, b10, b11, true, b13, b14, b15, false, b17, b18, x38, x39, x40, x41, x42, x43, x44, x45, x46, x47, x48, x5, (.pointer (some ⟨w'.heap.size, 0, none⟩)), x7, x8, R5, w'.heap.size, R7, R8, rfl, (by simp only [Act.put, List.setIfInBounds_toArray, List.set_cons_zero, List.set_cons_succ]), ⟨s.pm, s.d0, s.d1, s.d2, s.d3, s.d4, s.d5, s.d6, s.d7, s.d8, s.d9, s.d10, s.t5, Thr.made hsz rfl, s.t7, s.t8, s.i5, (fun h => by cases h), s.i7, s.i8, (fun h _ => by have := (s0.t5.lt h).2; omega), s.n5_7, (fun _ h => by have := (s0.t7.lt h).2; omega)⟩⟩
    · have e9 := eqF (b := b13) hr9 rfl
      subst e9
      have n9 : b17 = false := by cases b17 with | false => rfl | true => exact absurd (s.i7 rfl).2 (by simp)
      subst n9
      have hsz := s.size
      refine wpOp_step rfl (fun K hK => ?_)
      simp only [Act.put, List.setIfInBounds_toArray, List.set_cons_zero, List.set_cons_succ]
      go_simp
      refine hK _ _ ?_
      have s0 := s
      have s := s.grow ((Below.refl _ _).alloc (Nat.le_refl _) (.cells #[.int .i64 0, .int .i64 0, .string ⟨#[]⟩] 30))
      exact ⟨b0, b1, b2, b3, b4, b5, b6, b7, b8, b9, b10, b11, b12, true, b14, b15, b16, false, b18, x38, x39, x40, x41, x42, x43, x44, x45, x46, x47, x48, x5, x6, (.pointer (some ⟨w'.heap.size, 0, none⟩)), x8, R5, R6, w'.heap.size, R8, rfl, (by simp only [Act.put, List.setIfInBounds_toArray, List.set_cons_zero, List.set_cons_succ]), ⟨s.pm, s.d0, s.d1, s.d2, s.d3, s.d4, s.d5, s.d6, s.d7, s.d8, s.d9, s.d10, s.t5, s.t6, Thr.made hsz rfl, s.t8, s.i5, s.i6, (fun h => by cases h), s.i8, s.n5_6, (fun h _ => by have := (s0.t5.lt h).2; omega), (fun h _ => by have := (s0.t6.lt h).2; omega)⟩⟩
    · have e9 := eqF (b := b14) hr9 rfl
      subst e9
      have n9 : b18 = false := by cases b18 with | false => rfl | true => exact absurd (s.i8 rfl).2 (by simp)
      subst n9
      have hsz := s.size
      refine wpOp_step rfl (fun K hK => ?_)
      simp only [Act.put, List.setIfInBounds_toArray, List.set_cons_zero, List.set_cons_succ]
      go_simp
      refine hK _ _ ?_
      have s0 := s
      have s := s.grow ((Below.refl _ _).alloc (Nat.le_refl _) (.cells #[.int .i64 0, .string ⟨#[]⟩, .slice none 0 0] 32))
      exact ⟨b0, b1, b2, b3, b4, b5, b6, b7, b8, b9, b10, b11, b12, b13, true, b15, b16, b17, false, x38, x39, x40, x41, x42, x43, x44, x45, x46, x47, x48, x5, x6, x7, (.pointer (some ⟨w'.heap.size, 0, none⟩)), R5, R6, R7, w'.heap.size, rfl, (by simp only [Act.put, List.setIfInBounds_toArray, List.set_cons_zero, List.set_cons_succ]), ⟨s.pm, s.d0, s.d1, s.d2, s.d3, s.d4, s.d5, s.d6, s.d7, s.d8, s.d9, s.d10, s.t5, s.t6, s.t7, Thr.made hsz rfl, s.i5, s.i6, s.i7, (fun h => by cases h), s.n5_6, s.n5_7, s.n6_7⟩⟩
    · have e9 := eqF (b := b15) hr9 rfl
      subst e9
      have g2 := eqT (j := 2) (b := b2) hr9 rfl (by kernel_rfl)
      subst g2
      have g11 := eqT (j := 11) (b := b11) hr9 rfl (by kernel_rfl)
      subst g11
      obtain rfl := s.d2 rfl
      obtain ⟨rfl, hR, u0, u1, u2, hbx, _⟩ := s.t5 rfl
      obtain ⟨⟨c0, c1, c2⟩, ⟨f0, f1, f2⟩, hlt5⟩ := hbx.facts
      refine wpOp_step rfl (fun K hK => ?_)
      simp only [Act.put, List.setIfInBounds_toArray, List.set_cons_zero, List.set_cons_succ]
      go_simp
      refine hK _ _ ?_
      have ht := touch_set3 w' R5 (.int .i64 k0) (.int .i64 t0) (.string ⟨v0.toArray⟩)
      exact ⟨b0, b1, true, b3, b4, b5, b6, b7, b8, b9, b10, true, b12, b13, b14, true, b16, b17, b18, x38, x39, (.agg #[.int .i64 k0, .int .i64 t0, .string ⟨v0.toArray⟩]), x41, x42, x43, x44, x45, x46, x47, x48, (.pointer (some ⟨R5, 0, none⟩)), x6, x7, x8, R5, R6, R7, R8, rfl, (by simp only [Act.put, List.setIfInBounds_toArray, List.set_cons_zero, List.set_cons_succ]), ⟨s.pm.touch HU.out ht hR, s.d0, s.d1, s.d2, s.d3, s.d4, s.d5, s.d6, s.d7, s.d8, s.d9, (fun h => by obtain ⟨nv, h1, h2⟩ := s.d10 h; exact ⟨nv, h1, h2.touch ht (own_ne hbx h2 (by decide))⟩), s.t5.stored, s.t6.touch ht (fun h => (s.n5_6 rfl h).symm), s.t7.touch ht (fun h => (s.n5_7 rfl h).symm), s.t8.touch ht (fun h => thr_ne s.t8 s.t5 (by decide) h rfl), (fun _ => ⟨rfl, rfl⟩), s.i6, s.i7, s.i8, s.n5_6, s.n5_7, s.n6_7⟩⟩
    · have e9 := eqF (b := b16) hr9 rfl
      subst e9
      have g5 := eqT (j := 5) (b := b5) hr9 rfl (by kernel_rfl)
      subst g5
      have g12 := eqT (j := 12) (b := b12) hr9 rfl (by kernel_rfl)
      subst g12
      obtain rfl := s.d5 rfl
      obtain ⟨rfl, hR, u0, u1, u2, hbx, _⟩ := s.t6 rfl
      obtain ⟨⟨c0, c1, c2⟩, ⟨f0, f1, f2⟩, hlt5⟩ := hbx.facts
      refine wpOp_step rfl (fun K hK => ?_)
      simp only [Act.put, List.setIfInBounds_toArray, List.set_cons_zero, List.set_cons_succ]
      go_simp
      refine hK _ _ ?_
      have ht := touch_set3 w' R6 (.int .i64 k1) (.int .i64 t1) (.string ⟨v1.toArray⟩)
      exact ⟨b0, b1, b2, b3, b4, true, b6, b7, b8, b9, b10, b11, true, b13, b14, b15, true, b17, b18, x38, x39, x40, x41, x42, (.agg #[.int .i64 k1, .int .i64 t1, .string ⟨v1.toArray⟩]), x44, x45, x46, x47, x48, x5, (.pointer (some ⟨R6, 0, none⟩)), x7, x8, R5, R6, R7, R8, rfl, (by simp only [Act.put, List.setIfInBounds_toArray, List.set_cons_zero, List.set_cons_succ]), ⟨s.pm.touch HU.out ht hR, s.d0, s.d1, s.d2, s.d3, s.d4, s.d5, s.d6, s.d7, s.d8, s.d9, (fun h => by obtain ⟨nv, h1, h2⟩ := s.d10 h; exact ⟨nv, h1, h2.touch ht (own_ne hbx h2 (by decide))⟩), s.t5.touch ht (fun h => s.n5_6 h rfl), s.t6.stored, s.t7.touch ht (fun h => (s.n6_7 rfl h).symm), s.t8.touch ht (fun h => thr_ne s.t8 s.t6 (by decide) h rfl), s.i5, (fun _ => ⟨rfl, rfl⟩), s.i7, s.i8, s.n5_6, s.n5_7, s.n6_7⟩⟩
    · have e9 := eqF (b := b17) hr9 rfl
      subst e9
      have g8 := eqT (j := 8) (b := b8) hr9 rfl (by kernel_rfl)
      subst g8
      have g13 := eqT (j := 13) (b := b13) hr9 rfl (by kernel_rfl)
      subst g13
      obtain rfl := s.d8 rfl
      obtain ⟨rfl, hR, u0, u1, u2, hbx, _⟩ := s.t7 rfl
      obtain ⟨⟨c0, c1, c2⟩, ⟨f0, f1, f2⟩, hlt5⟩ := hbx.facts
      refine wpOp_step rfl (fun K hK => ?_)
      simp only [Act.put, List.setIfInBounds_toArray, List.set_cons_zero, List.set_cons_succ]
      go_simp
      refine hK _ _ ?_
      have ht := touch_set3 w' R7 (.int .i64 k2) (.int .i64 t2) (.string ⟨v2.toArray⟩)
      exact ⟨b0, b1, b2, b3, b4, b5, b6, b7, true, b9, b10, b11, b12, true, b14, b15, b16, true, b18, x38, x39, x40, x41, x42, x43, x44, x45, (.agg #[.int .i64 k2, .int .i64 t2, .string ⟨v2.toArray⟩]), x47, x48, x5, x6, (.pointer (some ⟨R7, 0, none⟩)), x8, R5, R6, R7, R8, rfl, (by simp only [Act.put, List.setIfInBounds_toArray, List.set_cons_zero, List.set_cons_succ]), ⟨s.pm.touch HU.out ht hR, s.d0, s.d1, s.d2, s.d3, s.d4, s.d5, s.d6, s.d7, s.d8, s.d9, (fun h => by obtain ⟨nv, h1, h2⟩ := s.d10 h; exact ⟨nv, h1, h2.touch ht (own_ne hbx h2 (by decide))⟩), s.t5.touch ht (fun h => s.n5_7 h rfl), s.t6.touch ht (fun h => s.n6_7 h rfl), s.t7.stored, s.t8.touch ht (fun h => thr_ne s.t8 s.t7 (by decide) h rfl), s.i5, s.i6, (fun _ => ⟨rfl, rfl⟩), s.i8, s.n5_6, s.n5_7, s.n6_7⟩⟩
    · have e9 := eqF (b := b18) hr9 rfl
      subst e9
      have g10 := eqT (j := 10) (b := b10) hr9 rfl (by kernel_rfl)
      subst g10
      have g14 := eqT (j := 14) (b := b14) hr9 rfl (by kernel_rfl)
      subst g14
      obtain ⟨nv, rfl, hown⟩ := s.d10 rfl
      obtain ⟨va, vc, rfl, _⟩ := hown.form
      obtain ⟨rfl, hR, u0, u1, u2, hbx, _⟩ := s.t8 rfl
      obtain ⟨⟨c0, c1, c2⟩, ⟨f0, f1, f2⟩, hlt5⟩ := hbx.facts
      refine wpOp_step rfl (fun K hK => ?_)
      simp only [Act.put, List.setIfInBounds_toArray, List.set_cons_zero, List.set_cons_succ]
      go_simp
      refine hK _ _ ?_
      have ht := touch_set3 w' R8 (.int .i64 xt) (.string ⟨xa.toArray⟩) (.slice va tags.length vc)
      exact ⟨b0, b1, b2, b3, b4, b5, b6, b7, b8, b9, true, b11, b12, b13, true, b15, b16, b17, true, x38, x39, x40, x41, x42, x43, x44, x45, x46, x47, (.agg #[.int .i64 xt, .string ⟨xa.toArray⟩, .slice va tags.length vc]), x5, x6, x7, (.pointer (some ⟨R8, 0, none⟩)), R5, R6, R7, R8, rfl, (by simp only [Act.put, List.setIfInBounds_toArray, List.set_cons_zero, List.set_cons_succ]), ⟨s.pm.touch HU.out ht hR, s.d0, s.d1, s.d2, s.d3, s.d4, s.d5, s.d6, s.d7, s.d8, s.d9, (fun h => by obtain ⟨nv, h1, h2⟩ := s.d10 h; exact ⟨nv, h1, h2.touch ht (own_ne hbx h2 (by decide))⟩), s.t5.touch ht (fun h => thr_ne s.t5 s.t8 (by decide) h rfl), s.t6.touch ht (fun h => thr_ne s.t6 s.t8 (by decide) h rfl), s.t7.touch ht (fun h => thr_ne s.t7 s.t8 (by decide) h rfl), s.t8.stored, s.i5, s.i6, s.i7, (fun _ => ⟨rfl, rfl⟩), s.n5_6, s.n5_7, s.n6_7⟩⟩
  · rintro listed a' w' ⟨b0, b1, b2, b3, b4, b5, b6, b7, b8, b9, b10, b11, b12, b13, b14, b15, b16, b17, b18, x38, x39, x40, x41, x42, x43, x44, x45, x46, x47, x48, x5, x6, x7, x8, R5, R6, R7, R8, rfl, rfl, s⟩ hr9
    have e0 := eqE (i := 0) (b := b0) hr9 rfl (by kernel_rfl)
    subst e0
    have e1 := eqE (i := 1) (b := b1) hr9 rfl (by kernel_rfl)
    subst e1
    have e2 := eqE (i := 2) (b := b2) hr9 rfl (by kernel_rfl)
    subst e2
    have e3 := eqE (i := 3) (b := b3) hr9 rfl (by kernel_rfl)
    subst e3
    have e4 := eqE (i := 4) (b := b4) hr9 rfl (by kernel_rfl)
    subst e4
    have e5 := eqE (i := 5) (b := b5) hr9 rfl (by kernel_rfl)
    subst e5
    have e6 := eqE (i := 6) (b := b6) hr9 rfl (by kernel_rfl)
    subst e6
    have e7 := eqE (i := 7) (b := b7) hr9 rfl (by kernel_rfl)
    subst e7
    have e8 := eqE (i := 8) (b := b8) hr9 rfl (by kernel_rfl)
    subst e8
    have e9 := eqE (i := 9) (b := b9) hr9 rfl (by kernel_rfl)
    subst e9
    have e10 := eqE (i := 10) (b := b10) hr9 rfl (by kernel_rfl)
    subst e10
    have e11 := eqE (i := 11) (b := b11) hr9 rfl (by kernel_rfl)
    subst e11
    have e12 := eqE (i := 12) (b := b12) hr9 rfl (by kernel_rfl)
    subst e12
    have e13 := eqE (i := 13) (b := b13) hr9 rfl (by kernel_rfl)
    subst e13
    have e14 := eqE (i := 14) (b := b14) hr9 rfl (by kernel_rfl)
    subst e14
    have e15 := eqE (i := 15) (b := b15) hr9 rfl (by kernel_rfl)
    subst e15
    have e16 := eqE (i := 16) (b := b16) hr9 rfl (by kernel_rfl)
    subst e16
    have e17 := eqE (i := 17) (b := b17) hr9 rfl (by kernel_rfl)
    subst e17
    have e18 := eqE (i := 18) (b := b18) hr9 rfl (by kernel_rfl)
    subst e18
    obtain rfl := s.d0 rfl
    obtain rfl := s.d1 rfl
    obtain rfl := s.d2 rfl
    obtain rfl := s.d3 rfl
    obtain rfl := s.d4 rfl
    obtain rfl := s.d5 rfl
    obtain rfl := s.d6 rfl
    obtain rfl := s.d7 rfl
    obtain rfl := s.d8 rfl
    obtain rfl := s.d9 rfl
    obtain ⟨nv, rfl, hown⟩ := s.d10 rfl
    obtain ⟨va, vc, rfl, _⟩ := hown.form
    obtain ⟨rfl, hR5, u0, u1, u2, hbx5, hv⟩ := s.t5 rfl
    have hv := hv rfl
    injection hv with hv
    injection hv with hv
    simp only [List.cons.injEq, and_true] at hv
    obtain ⟨rfl, rfl, rfl⟩ := hv
    obtain ⟨rfl, hR6, u0, u1, u2, hbx6, hv⟩ := s.t6 rfl
    have hv := hv rfl
    injection hv with hv
    injection hv with hv
    simp only [List.cons.injEq, and_true] at hv
    obtain ⟨rfl, rfl, rfl⟩ := hv
    obtain ⟨rfl, hR7, u0, u1, u2, hbx7, hv⟩ := s.t7 rfl
    have hv := hv rfl
    injection hv with hv
    injection hv with hv
    simp only [List.cons.injEq, and_true] at hv
    obtain ⟨rfl, rfl, rfl⟩ := hv
    obtain ⟨rfl, hR8, u0, u1, u2, hbx8, hv⟩ := s.t8 rfl
    have hv := hv rfl
    injection hv with hv
    injection hv with hv
    simp only [List.cons.injEq, and_true] at hv
    obtain ⟨rfl, rfl, rfl⟩ := hv
    have HPM := Lib.hid s.pm
    have HX5 := Lib.hid hbx5
    have HX6 := Lib.hid hbx6
    have HX7 := Lib.hid hbx7
    have HX8 := Lib.hid hbx8
    have HOWN := Lib.hid hown
    clear s hr9 hown hbx5 hbx6 hbx7 hbx8
    obtain ⟨⟨c0, c1, c2⟩, _, hz5⟩ := HX5.out.facts
    obtain ⟨⟨e0, e1, e2⟩, _, hz6⟩ := HX6.out.facts
    obtain ⟨⟨f0, f1, f2⟩, _, hz7⟩ := HX7.out.facts
    obtain ⟨⟨g0, g1, g2⟩, _, hz8⟩ := HX8.out.facts
    simp only [Act.put, List.setIfInBounds_toArray, List.set_cons_zero, List.set_cons_succ]
    have hk1 := @wider_match ⟨k0, t0, v0⟩ ⟨k1, t1, v1⟩ ⟨xt, xa, tags⟩
    have hk2 := @wider_trans ⟨k0, t0, v0⟩ ⟨k1, t1, v1⟩ ⟨k2, t2, v2⟩
    obtain ⟨qab, hab⟩ : ∃ q, widerB ⟨k0, t0, v0⟩ ⟨k1, t1, v1⟩ = q := ⟨_, rfl⟩
    obtain ⟨qbc, hbc⟩ : ∃ q, widerB ⟨k1, t1, v1⟩ ⟨k2, t2, v2⟩ = q := ⟨_, rfl⟩
    obtain ⟨qac, hac⟩ : ∃ q, widerB ⟨k0, t0, v0⟩ ⟨k2, t2, v2⟩ = q := ⟨_, rfl⟩
    obtain ⟨qma, hma⟩ : ∃ q, matchB ⟨k0, t0, v0⟩ ⟨xt, xa, tags⟩ = q := ⟨_, rfl⟩
    obtain ⟨qmb, hmb⟩ : ∃ q, matchB ⟨k1, t1, v1⟩ ⟨xt, xa, tags⟩ = q := ⟨_, rfl⟩
    rw [hab, hmb, hma] at hk1
    rw [hab, hbc, hac] at hk2
    have HAB := Lib.hid hab
    have HBC := Lib.hid hbc
    have HAC := Lib.hid hac
    have HMA := Lib.hid hma
    have HMB := Lib.hid hmb
    clear hab hbc hac hma hmb
    cases qab with
    | false =>
      clear hk1 hk2
      go_wp2_with (first | (go_at_call 12; with_reducible refine (wider_any ⟨k0, t0, v0⟩ ⟨k1, t1, v1⟩ _ (HRA.out _ HPM.out.bel) hm0 hm1).mono ?_; rintro e w9 ⟨rfl, hb9⟩; rw [HAB.out]; have HPM := Lib.hid (PC.keep hb9 rfl HPM.out); have HX5 := Lib.hid (HX5.out.older hb9); have HX6 := Lib.hid (HX6.out.older hb9); have HX7 := Lib.hid (HX7.out.older hb9); have HX8 := Lib.hid (HX8.out.older hb9); have HOWN := Lib.hid (HOWN.out.older hb9); obtain ⟨⟨c0, c1, c2⟩, _, hz5⟩ := HX5.out.facts; obtain ⟨⟨e0, e1, e2⟩, _, hz6⟩ := HX6.out.facts; obtain ⟨⟨f0, f1, f2⟩, _, hz7⟩ := HX7.out.facts; obtain ⟨⟨g0, g1, g2⟩, _, hz8⟩ := HX8.out.facts) | (go_at_call 12; with_reducible refine (wider_any ⟨k1, t1, v1⟩ ⟨k2, t2, v2⟩ _ (HRA.out _ HPM.out.bel) hm1 hm2).mono ?_; rintro e w9 ⟨rfl, hb9⟩; rw [HBC.out]; have HPM := Lib.hid (PC.keep hb9 rfl HPM.out); have HX5 := Lib.hid (HX5.out.older hb9); have HX6 := Lib.hid (HX6.out.older hb9); have HX7 := Lib.hid (HX7.out.older hb9); have HX8 := Lib.hid (HX8.out.older hb9); have HOWN := Lib.hid (HOWN.out.older hb9); obtain ⟨⟨c0, c1, c2⟩, _, hz5⟩ := HX5.out.facts; obtain ⟨⟨e0, e1, e2⟩, _, hz6⟩ := HX6.out.facts; obtain ⟨⟨f0, f1, f2⟩, _, hz7⟩ := HX7.out.facts; obtain ⟨⟨g0, g1, g2⟩, _, hz8⟩ := HX8.out.facts) | (go_at_call 12; with_reducible refine (wider_any ⟨k0, t0, v0⟩ ⟨k2, t2, v2⟩ _ (HRA.out _ HPM.out.bel) hm0 hm2).mono ?_; rintro e w9 ⟨rfl, hb9⟩; rw [HAC.out]; have HPM := Lib.hid (PC.keep hb9 rfl HPM.out); have HX5 := Lib.hid (HX5.out.older hb9); have HX6 := Lib.hid (HX6.out.older hb9); have HX7 := Lib.hid (HX7.out.older hb9); have HX8 := Lib.hid (HX8.out.older hb9); have HOWN := Lib.hid (HOWN.out.older hb9); obtain ⟨⟨c0, c1, c2⟩, _, hz5⟩ := HX5.out.facts; obtain ⟨⟨e0, e1, e2⟩, _, hz6⟩ := HX6.out.facts; obtain ⟨⟨f0, f1, f2⟩, _, hz7⟩ := HX7.out.facts; obtain ⟨⟨g0, g1, g2⟩, _, hz8⟩ := HX8.out.facts) | (go_at_call 11; with_reducible refine (match_any ⟨k1, t1, v1⟩ ⟨xt, xa, tags⟩ _ _ (HRA.out _ HPM.out.bel) hm1 hm3 (strsV_own HOWN.out) hul).mono ?_; rintro e w9 ⟨rfl, hb9⟩; rw [HMB.out]; have HPM := Lib.hid (PC.keep hb9 rfl HPM.out); have HX5 := Lib.hid (HX5.out.older hb9); have HX6 := Lib.hid (HX6.out.older hb9); have HX7 := Lib.hid (HX7.out.older hb9); have HX8 := Lib.hid (HX8.out.older hb9); have HOWN := Lib.hid (HOWN.out.older hb9); obtain ⟨⟨c0, c1, c2⟩, _, hz5⟩ := HX5.out.facts; obtain ⟨⟨e0, e1, e2⟩, _, hz6⟩ := HX6.out.facts; obtain ⟨⟨f0, f1, f2⟩, _, hz7⟩ := HX7.out.facts; obtain ⟨⟨g0, g1, g2⟩, _, hz8⟩ := HX8.out.facts) | (go_at_call 11; with_reducible refine (match_any ⟨k0, t0, v0⟩ ⟨xt, xa, tags⟩ _ _ (HRA.out _ HPM.out.bel) hm0 hm3 (strsV_own HOWN.out) hul).mono ?_; rintro e w9 ⟨rfl, hb9⟩; rw [HMA.out]; have HPM := Lib.hid (PC.keep hb9 rfl HPM.out); have HX5 := Lib.hid (HX5.out.older hb9); have HX6 := Lib.hid (HX6.out.older hb9); have HX7 := Lib.hid (HX7.out.older hb9); have HX8 := Lib.hid (HX8.out.older hb9); have HOWN := Lib.hid (HOWN.out.older hb9); obtain ⟨⟨c0, c1, c2⟩, _, hz5⟩ := HX5.out.facts; obtain ⟨⟨e0, e1, e2⟩, _, hz6⟩ := HX6.out.facts; obtain ⟨⟨f0, f1, f2⟩, _, hz7⟩ := HX7.out.facts; obtain ⟨⟨g0, g1, g2⟩, _, hz8⟩ := HX8.out.facts))
      go_ret
      exact ⟨rfl, HPM.out.bel⟩
    | true =>
      cases qmb with
      | false =>
        cases qbc with
        | false =>
          clear hk1 hk2
          go_wp2_with (first | (go_at_call 12; with_reducible refine (wider_any ⟨k0, t0, v0⟩ ⟨k1, t1, v1⟩ _ (HRA.out _ HPM.out.bel) hm0 hm1).mono ?_; rintro e w9 ⟨rfl, hb9⟩; rw [HAB.out]; have HPM := Lib.hid (PC.keep hb9 rfl HPM.out); have HX5 := Lib.hid (HX5.out.older hb9); have HX6 := Lib.hid (HX6.out.older hb9); have HX7 := Lib.hid (HX7.out.older hb9); have HX8 := Lib.hid (HX8.out.older hb9); have HOWN := Lib.hid (HOWN.out.older hb9); obtain ⟨⟨c0, c1, c2⟩, _, hz5⟩ := HX5.out.facts; obtain ⟨⟨e0, e1, e2⟩, _, hz6⟩ := HX6.out.facts; obtain ⟨⟨f0, f1, f2⟩, _, hz7⟩ := HX7.out.facts; obtain ⟨⟨g0, g1, g2⟩, _, hz8⟩ := HX8.out.facts) | (go_at_call 12; with_reducible refine (wider_any ⟨k1, t1, v1⟩ ⟨k2, t2, v2⟩ _ (HRA.out _ HPM.out.bel) hm1 hm2).mono ?_; rintro e w9 ⟨rfl, hb9⟩; rw [HBC.out]; have HPM := Lib.hid (PC.keep hb9 rfl HPM.out); have HX5 := Lib.hid (HX5.out.older hb9); have HX6 := Lib.hid (HX6.out.older hb9); have HX7 := Lib.hid (HX7.out.older hb9); have HX8 := Lib.hid (HX8.out.older hb9); have HOWN := Lib.hid (HOWN.out.older hb9); obtain ⟨⟨c0, c1, c2⟩, _, hz5⟩ := HX5.out.facts; obtain ⟨⟨e0, e1, e2⟩, _, hz6⟩ := HX6.out.facts; obtain ⟨⟨f0, f1, f2⟩, _, hz7⟩ := HX7.out.facts; obtain ⟨⟨g0, g1, g2⟩, _, hz8⟩ := HX8.out.facts) | (go_at_call 12; with_reducible refine (wider_any ⟨k0, t0, v0⟩ ⟨k2, t2, v2⟩ _ (HRA.out _ HPM.out.bel) hm0 hm2).mono ?_; rintro e w9 ⟨rfl, hb9⟩; rw [HAC.out]; have HPM := Lib.hid (PC.keep hb9 rfl HPM.out); have HX5 := Lib.hid (HX5.out.older hb9); have HX6 := Lib.hid (HX6.out.older hb9); have HX7 := Lib.hid (HX7.out.older hb9); have HX8 := Lib.hid (HX8.out.older hb9); have HOWN := Lib.hid (HOWN.out.older hb9); obtain ⟨⟨c0, c1, c2⟩, _, hz5⟩ := HX5.out.facts; obtain ⟨⟨e0, e1, e2⟩, _, hz6⟩ := HX6.out.facts; obtain ⟨⟨f0, f1, f2⟩, _, hz7⟩ := HX7.out.facts; obtain ⟨⟨g0, g1, g2⟩, _, hz8⟩ := HX8.out.facts) | (go_at_call 11; with_reducible refine (match_any ⟨k1, t1, v1⟩ ⟨xt, xa, tags⟩ _ _ (HRA.out _ HPM.out.bel) hm1 hm3 (strsV_own HOWN.out) hul).mono ?_; rintro e w9 ⟨rfl, hb9⟩; rw [HMB.out]; have HPM := Lib.hid (PC.keep hb9 rfl HPM.out); have HX5 := Lib.hid (HX5.out.older hb9); have HX6 := Lib.hid (HX6.out.older hb9); have HX7 := Lib.hid (HX7.out.older hb9); have HX8 := Lib.hid (HX8.out.older hb9); have HOWN := Lib.hid (HOWN.out.older hb9); obtain ⟨⟨c0, c1, c2⟩, _, hz5⟩ := HX5.out.facts; obtain ⟨⟨e0, e1, e2⟩, _, hz6⟩ := HX6.out.facts; obtain ⟨⟨f0, f1, f2⟩, _, hz7⟩ := HX7.out.facts; obtain ⟨⟨g0, g1, g2⟩, _, hz8⟩ := HX8.out.facts) | (go_at_call 11; with_reducible refine (match_any ⟨k0, t0, v0⟩ ⟨xt, xa, tags⟩ _ _ (HRA.out _ HPM.out.bel) hm0 hm3 (strsV_own HOWN.out) hul).mono ?_; rintro e w9 ⟨rfl, hb9⟩; rw [HMA.out]; have HPM := Lib.hid (PC.keep hb9 rfl HPM.out); have HX5 := Lib.hid (HX5.out.older hb9); have HX6 := Lib.hid (HX6.out.older hb9); have HX7 := Lib.hid (HX7.out.older hb9); have HX8 := Lib.hid (HX8.out.older hb9); have HOWN := Lib.hid (HOWN.out.older hb9); obtain ⟨⟨c0, c1, c2⟩, _, hz5⟩ := HX5.out.facts; obtain ⟨⟨e0, e1, e2⟩, _, hz6⟩ := HX6.out.facts; obtain ⟨⟨f0, f1, f2⟩, _, hz7⟩ := HX7.out.facts; obtain ⟨⟨g0, g1, g2⟩, _, hz8⟩ := HX8.out.facts))
          go_ret
          exact ⟨rfl, HPM.out.bel⟩
        | true =>
          obtain rfl := hk2 rfl rfl
          clear hk1 hk2
          go_wp2_with (first | (go_at_call 12; with_reducible refine (wider_any ⟨k0, t0, v0⟩ ⟨k1, t1, v1⟩ _ (HRA.out _ HPM.out.bel) hm0 hm1).mono ?_; rintro e w9 ⟨rfl, hb9⟩; rw [HAB.out]; have HPM := Lib.hid (PC.keep hb9 rfl HPM.out); have HX5 := Lib.hid (HX5.out.older hb9); have HX6 := Lib.hid (HX6.out.older hb9); have HX7 := Lib.hid (HX7.out.older hb9); have HX8 := Lib.hid (HX8.out.older hb9); have HOWN := Lib.hid (HOWN.out.older hb9); obtain ⟨⟨c0, c1, c2⟩, _, hz5⟩ := HX5.out.facts; obtain ⟨⟨e0, e1, e2⟩, _, hz6⟩ := HX6.out.facts; obtain ⟨⟨f0, f1, f2⟩, _, hz7⟩ := HX7.out.facts; obtain ⟨⟨g0, g1, g2⟩, _, hz8⟩ := HX8.out.facts) | (go_at_call 12; with_reducible refine (wider_any ⟨k1, t1, v1⟩ ⟨k2, t2, v2⟩ _ (HRA.out _ HPM.out.bel) hm1 hm2).mono ?_; rintro e w9 ⟨rfl, hb9⟩; rw [HBC.out]; have HPM := Lib.hid (PC.keep hb9 rfl HPM.out); have HX5 := Lib.hid (HX5.out.older hb9); have HX6 := Lib.hid (HX6.out.older hb9); have HX7 := Lib.hid (HX7.out.older hb9); have HX8 := Lib.hid (HX8.out.older hb9); have HOWN := Lib.hid (HOWN.out.older hb9); obtain ⟨⟨c0, c1, c2⟩, _, hz5⟩ := HX5.out.facts; obtain ⟨⟨e0, e1, e2⟩, _, hz6⟩ := HX6.out.facts; obtain ⟨⟨f0, f1, f2⟩, _, hz7⟩ := HX7.out.facts; obtain ⟨⟨g0, g1, g2⟩, _, hz8⟩ := HX8.out.facts) | (go_at_call 12; with_reducible refine (wider_any ⟨k0, t0, v0⟩ ⟨k2, t2, v2⟩ _ (HRA.out _ HPM.out.bel) hm0 hm2).mono ?_; rintro e w9 ⟨rfl, hb9⟩; rw [HAC.out]; have HPM := Lib.hid (PC.keep hb9 rfl HPM.out); have HX5 := Lib.hid (HX5.out.older hb9); have HX6 := Lib.hid (HX6.out.older hb9); have HX7 := Lib.hid (HX7.out.older hb9); have HX8 := Lib.hid (HX8.out.older hb9); have HOWN := Lib.hid (HOWN.out.older hb9); obtain ⟨⟨c0, c1, c2⟩, _, hz5⟩ := HX5.out.facts; obtain ⟨⟨e0, e1, e2⟩, _, hz6⟩ := HX6.out.facts; obtain ⟨⟨f0, f1, f2⟩, _, hz7⟩ := HX7.out.facts; obtain ⟨⟨g0, g1, g2⟩, _, hz8⟩ := HX8.out.facts) | (go_at_call 11; with_reducible refine (match_any ⟨k1, t1, v1⟩ ⟨xt, xa, tags⟩ _ _ (HRA.out _ HPM.out.bel) hm1 hm3 (strsV_own HOWN.out) hul).mono ?_; rintro e w9 ⟨rfl, hb9⟩; rw [HMB.out]; have HPM := Lib.hid (PC.keep hb9 rfl HPM.out); have HX5 := Lib.hid (HX5.out.older hb9); have HX6 := Lib.hid (HX6.out.older hb9); have HX7 := Lib.hid (HX7.out.older hb9); have HX8 := Lib.hid (HX8.out.older hb9); have HOWN := Lib.hid (HOWN.out.older hb9); obtain ⟨⟨c0, c1, c2⟩, _, hz5⟩ := HX5.out.facts; obtain ⟨⟨e0, e1, e2⟩, _, hz6⟩ := HX6.out.facts; obtain ⟨⟨f0, f1, f2⟩, _, hz7⟩ := HX7.out.facts; obtain ⟨⟨g0, g1, g2⟩, _, hz8⟩ := HX8.out.facts) | (go_at_call 11; with_reducible refine (match_any ⟨k0, t0, v0⟩ ⟨xt, xa, tags⟩ _ _ (HRA.out _ HPM.out.bel) hm0 hm3 (strsV_own HOWN.out) hul).mono ?_; rintro e w9 ⟨rfl, hb9⟩; rw [HMA.out]; have HPM := Lib.hid (PC.keep hb9 rfl HPM.out); have HX5 := Lib.hid (HX5.out.older hb9); have HX6 := Lib.hid (HX6.out.older hb9); have HX7 := Lib.hid (HX7.out.older hb9); have HX8 := Lib.hid (HX8.out.older hb9); have HOWN := Lib.hid (HOWN.out.older hb9); obtain ⟨⟨c0, c1, c2⟩, _, hz5⟩ := HX5.out.facts; obtain ⟨⟨e0, e1, e2⟩, _, hz6⟩ := HX6.out.facts; obtain ⟨⟨f0, f1, f2⟩, _, hz7⟩ := HX7.out.facts; obtain ⟨⟨g0, g1, g2⟩, _, hz8⟩ := HX8.out.facts))
          go_ret
          exact ⟨rfl, HPM.out.bel⟩
      | true =>
        obtain rfl := hk1 rfl rfl
        cases qbc with
        | false =>
          clear hk1 hk2
          go_wp2_with (first | (go_at_call 12; with_reducible refine (wider_any ⟨k0, t0, v0⟩ ⟨k1, t1, v1⟩ _ (HRA.out _ HPM.out.bel) hm0 hm1).mono ?_; rintro e w9 ⟨rfl, hb9⟩; rw [HAB.out]; have HPM := Lib.hid (PC.keep hb9 rfl HPM.out); have HX5 := Lib.hid (HX5.out.older hb9); have HX6 := Lib.hid (HX6.out.older hb9); have HX7 := Lib.hid (HX7.out.older hb9); have HX8 := Lib.hid (HX8.out.older hb9); have HOWN := Lib.hid (HOWN.out.older hb9); obtain ⟨⟨c0, c1, c2⟩, _, hz5⟩ := HX5.out.facts; obtain ⟨⟨e0, e1, e2⟩, _, hz6⟩ := HX6.out.facts; obtain ⟨⟨f0, f1, f2⟩, _, hz7⟩ := HX7.out.facts; obtain ⟨⟨g0, g1, g2⟩, _, hz8⟩ := HX8.out.facts) | (go_at_call 12; with_reducible refine (wider_any ⟨k1, t1, v1⟩ ⟨k2, t2, v2⟩ _ (HRA.out _ HPM.out.bel) hm1 hm2).mono ?_; rintro e w9 ⟨rfl, hb9⟩; rw [HBC.out]; have HPM := Lib.hid (PC.keep hb9 rfl HPM.out); have HX5 := Lib.hid (HX5.out.older hb9); have HX6 := Lib.hid (HX6.out.older hb9); have HX7 := Lib.hid (HX7.out.older hb9); have HX8 := Lib.hid (HX8.out.older hb9); have HOWN := Lib.hid (HOWN.out.older hb9); obtain ⟨⟨c0, c1, c2⟩, _, hz5⟩ := HX5.out.facts; obtain ⟨⟨e0, e1, e2⟩, _, hz6⟩ := HX6.out.facts; obtain ⟨⟨f0, f1, f2⟩, _, hz7⟩ := HX7.out.facts; obtain ⟨⟨g0, g1, g2⟩, _, hz8⟩ := HX8.out.facts) | (go_at_call 12; with_reducible refine (wider_any ⟨k0, t0, v0⟩ ⟨k2, t2, v2⟩ _ (HRA.out _ HPM.out.bel) hm0 hm2).mono ?_; rintro e w9 ⟨rfl, hb9⟩; rw [HAC.out]; have HPM := Lib.hid (PC.keep hb9 rfl HPM.out); have HX5 := Lib.hid (HX5.out.older hb9); have HX6 := Lib.hid (HX6.out.older hb9); have HX7 := Lib.hid (HX7.out.older hb9); have HX8 := Lib.hid (HX8.out.older hb9); have HOWN := Lib.hid (HOWN.out.older hb9); obtain ⟨⟨c0, c1, c2⟩, _, hz5⟩ := HX5.out.facts; obtain ⟨⟨e0, e1, e2⟩, _, hz6⟩ := HX6.out.facts; obtain ⟨⟨f0, f1, f2⟩, _, hz7⟩ := HX7.out.facts; obtain ⟨⟨g0, g1, g2⟩, _, hz8⟩ := HX8.out.facts) | (go_at_call 11; with_reducible refine (match_any ⟨k1, t1, v1⟩ ⟨xt, xa, tags⟩ _ _ (HRA.out _ HPM.out.bel) hm1 hm3 (strsV_own HOWN.out) hul).mono ?_; rintro e w9 ⟨rfl, hb9⟩; rw [HMB.out]; have HPM := Lib.hid (PC.keep hb9 rfl HPM.out); have HX5 := Lib.hid (HX5.out.older hb9); have HX6 := Lib.hid (HX6.out.older hb9); have HX7 := Lib.hid (HX7.out.older hb9); have HX8 := Lib.hid (HX8.out.older hb9); have HOWN := Lib.hid (HOWN.out.older hb9); obtain ⟨⟨c0, c1, c2⟩, _, hz5⟩ := HX5.out.facts; obtain ⟨⟨e0, e1, e2⟩, _, hz6⟩ := HX6.out.facts; obtain ⟨⟨f0, f1, f2⟩, _, hz7⟩ := HX7.out.facts; obtain ⟨⟨g0, g1, g2⟩, _, hz8⟩ := HX8.out.facts) | (go_at_call 11; with_reducible refine (match_any ⟨k0, t0, v0⟩ ⟨xt, xa, tags⟩ _ _ (HRA.out _ HPM.out.bel) hm0 hm3 (strsV_own HOWN.out) hul).mono ?_; rintro e w9 ⟨rfl, hb9⟩; rw [HMA.out]; have HPM := Lib.hid (PC.keep hb9 rfl HPM.out); have HX5 := Lib.hid (HX5.out.older hb9); have HX6 := Lib.hid (HX6.out.older hb9); have HX7 := Lib.hid (HX7.out.older hb9); have HX8 := Lib.hid (HX8.out.older hb9); have HOWN := Lib.hid (HOWN.out.older hb9); obtain ⟨⟨c0, c1, c2⟩, _, hz5⟩ := HX5.out.facts; obtain ⟨⟨e0, e1, e2⟩, _, hz6⟩ := HX6.out.facts; obtain ⟨⟨f0, f1, f2⟩, _, hz7⟩ := HX7.out.facts; obtain ⟨⟨g0, g1, g2⟩, _, hz8⟩ := HX8.out.facts))
          go_ret
          exact ⟨rfl, HPM.out.bel⟩
        | true =>
          obtain rfl := hk2 rfl rfl
          clear hk1 hk2
          go_wp2_with (first | (go_at_call 12; with_reducible refine (wider_any ⟨k0, t0, v0⟩ ⟨k1, t1, v1⟩ _ (HRA.out _ HPM.out.bel) hm0 hm1).mono ?_; rintro e w9 ⟨rfl, hb9⟩; rw [HAB.out]; have HPM := Lib.hid (PC.keep hb9 rfl HPM.out); have HX5 := Lib.hid (HX5.out.older hb9); have HX6 := Lib.hid (HX6.out.older hb9); have HX7 := Lib.hid (HX7.out.older hb9); have HX8 := Lib.hid (HX8.out.older hb9); have HOWN := Lib.hid (HOWN.out.older hb9); obtain ⟨⟨c0, c1, c2⟩, _, hz5⟩ := HX5.out.facts; obtain ⟨⟨e0, e1, e2⟩, _, hz6⟩ := HX6.out.facts; obtain ⟨⟨f0, f1, f2⟩, _, hz7⟩ := HX7.out.facts; obtain ⟨⟨g0, g1, g2⟩, _, hz8⟩ := HX8.out.facts) | (go_at_call 12; with_reducible refine (wider_any ⟨k1, t1, v1⟩ ⟨k2, t2, v2⟩ _ (HRA.out _ HPM.out.bel) hm1 hm2).mono ?_; rintro e w9 ⟨rfl, hb9⟩; rw [HBC.out]; have HPM := Lib.hid (PC.keep hb9 rfl HPM.out); have HX5 := Lib.hid (HX5.out.older hb9); have HX6 := Lib.hid (HX6.out.older hb9); have HX7 := Lib.hid (HX7.out.older hb9); have HX8 := Lib.hid (HX8.out.older hb9); have HOWN := Lib.hid (HOWN.out.older hb9); obtain ⟨⟨c0, c1, c2⟩, _, hz5⟩ := HX5.out.facts; obtain ⟨⟨e0, e1, e2⟩, _, hz6⟩ := HX6.out.facts; obtain ⟨⟨f0, f1, f2⟩, _, hz7⟩ := HX7.out.facts; obtain ⟨⟨g0, g1, g2⟩, _, hz8⟩ := HX8.out.facts) | (go_at_call 12; with_reducible refine (wider_any ⟨k0, t0, v0⟩ ⟨k2, t2, v2⟩ _ (HRA.out _ HPM.out.bel) hm0 hm2).mono ?_; rintro e w9 ⟨rfl, hb9⟩; rw [HAC.out]; have HPM := Lib.hid (PC.keep hb9 rfl HPM.out); have HX5 := Lib.hid (HX5.out.older hb9); have HX6 := Lib.hid (HX6.out.older hb9); have HX7 := Lib.hid (HX7.out.older hb9); have HX8 := Lib.hid (HX8.out.older hb9); have HOWN := Lib.hid (HOWN.out.older hb9); obtain ⟨⟨c0, c1, c2⟩, _, hz5⟩ := HX5.out.facts; obtain ⟨⟨e0, e1, e2⟩, _, hz6⟩ := HX6.out.facts; obtain ⟨⟨f0, f1, f2⟩, _, hz7⟩ := HX7.out.facts; obtain ⟨⟨g0, g1, g2⟩, _, hz8⟩ := HX8.out.facts) | (go_at_call 11; with_reducible refine (match_any ⟨k1, t1, v1⟩ ⟨xt, xa, tags⟩ _ _ (HRA.out _ HPM.out.bel) hm1 hm3 (strsV_own HOWN.out) hul).mono ?_; rintro e w9 ⟨rfl, hb9⟩; rw [HMB.out]; have HPM := Lib.hid (PC.keep hb9 rfl HPM.out); have HX5 := Lib.hid (HX5.out.older hb9); have HX6 := Lib.hid (HX6.out.older hb9); have HX7 := Lib.hid (HX7.out.older hb9); have HX8 := Lib.hid (HX8.out.older hb9); have HOWN := Lib.hid (HOWN.out.older hb9); obtain ⟨⟨c0, c1, c2⟩, _, hz5⟩ := HX5.out.facts; obtain ⟨⟨e0, e1, e2⟩, _, hz6⟩ := HX6.out.facts; obtain ⟨⟨f0, f1, f2⟩, _, hz7⟩ := HX7.out.facts; obtain ⟨⟨g0, g1, g2⟩, _, hz8⟩ := HX8.out.facts) | (go_at_call 11; with_reducible refine (match_any ⟨k0, t0, v0⟩ ⟨xt, xa, tags⟩ _ _ (HRA.out _ HPM.out.bel) hm0 hm3 (strsV_own HOWN.out) hul).mono ?_; rintro e w9 ⟨rfl, hb9⟩; rw [HMA.out]; have HPM := Lib.hid (PC.keep hb9 rfl HPM.out); have HX5 := Lib.hid (HX5.out.older hb9); have HX6 := Lib.hid (HX6.out.older hb9); have HX7 := Lib.hid (HX7.out.older hb9); have HX8 := Lib.hid (HX8.out.older hb9); have HOWN := Lib.hid (HOWN.out.older hb9); obtain ⟨⟨c0, c1, c2⟩, _, hz5⟩ := HX5.out.facts; obtain ⟨⟨e0, e1, e2⟩, _, hz6⟩ := HX6.out.facts; obtain ⟨⟨f0, f1, f2⟩, _, hz7⟩ := HX7.out.facts; obtain ⟨⟨g0, g1, g2⟩, _, hz8⟩ := HX8.out.facts))
          go_ret
          exact ⟨rfl, HPM.out.bel⟩

theorem walk (k0 t0 : Int) (v0 : Bs) (k1 t1 : Int) (v1 : Bs) (k2 t2 : Int) (v2 : Bs) (xt : Int) (xa : Bs) (tags : List Bs) (u : Value) (w : World) (hr : Ready w) (hw : WordsAt w) (hu : StrsV w u tags) (hul : tags.length ≤ 9223372036854775807) :
    Calls Tryd.prog 4 #[.agg #[.int .i64 k0, .int .i64 t0, .string ⟨v0.toArray⟩, .int .i64 k1, .int .i64 t1, .string ⟨v1.toArray⟩, .int .i64 k2, .int .i64 t2, .string ⟨v2.toArray⟩], itV xt xa u] w fun e w' => e = .returned (.bool true) ∧ Below w.heap.size w w' := by
  obtain ⟨ua, uc, rfl⟩ := hu.form
  by_cases hl0 : v0.length ≤ 1500
  · by_cases hl1 : v1.length ≤ 1500
    · by_cases hl2 : v2.length ≤ 1500
      · cases hl : fitsB xa tags with
        | true => exact walk_main k0 t0 v0 k1 t1 v1 k2 t2 v2 xt xa ua uc tags w hr hw hu hul hl0 hl1 hl2 hl
        | false => exact walk_l3 k0 t0 v0 k1 t1 v1 k2 t2 v2 xt xa ua uc tags w hr hw hu hul hl0 hl1 hl2 hl
      · exact walk_l2 k0 t0 v0 k1 t1 v1 k2 t2 v2 xt xa ua uc tags w hr hw hu hul hl0 hl1 hl2
    · exact walk_l1 k0 t0 v0 k1 t1 v1 k2 t2 v2 xt xa ua uc tags w hr hw hu hul hl0 hl1
  · exact walk_l0 k0 t0 v0 k1 t1 v1 k2 t2 v2 xt xa ua uc tags w hr hw hu hul hl0

/-- What the walk gives, for every argument. -/
theorem contract (H : Type) (enc : TypeId × Value → H) (W : World) (base : Nat) (args : Array Value) (ds gs : List (DataW H)) (before : List MemPlace)
    (hval : ∀ (j : Nat) t v, Tryd.f4.params[j]? = some t → args[j]? = some v → Value.okWide Tryd.prog W .any base t v)
    (hW : DataW.Whole enc Tryd.prog Tryd.f4.params.toList Rows.purgeCoversSpec.vars false W args.toList ds gs before) (hsz : (DataW.weightsEach Tryd.prog Tryd.f4.params.toList (ds ++ gs)).all (· ≤ reachBytes) = true) (hr : Ready W) (hw : A1.WordsAt W) :
    Calls Tryd.prog 4 args W fun e W' => ∃ v, e = .returned v ∧ Rows.purgeCoversSpec.post enc Tryd.prog Tryd.f4 false true false false W args v W' := by
  have hW' := hW
  have hlt := fun p hp => hW.lt p hp
  obtain ⟨p, q, hA0, hV, rfl, hfz, hnd⟩ := hW
  have hA : DataW.TrodAll enc Tryd.prog W 0 (fun _ => true) true Tryd.f4.params.toList args.toList ds p := hA0
  have hA1 := hA
  obtain ⟨rfl, rfl⟩ := trodVars_none hV
  rw [Tryd.params4] at hA hval
  obtain ⟨v0, vs0, d0, ds0, p0, q0, hargs, rfl, rfl, h0, r0⟩ := trodAll_cons hA
  obtain ⟨v1, vs1, d1, ds1, p1, q1, rfl, rfl, rfl, h1, r1⟩ := trodAll_cons r0
  obtain ⟨rfl, rfl, rfl⟩ := trodAll_nil r1
  obtain rfl : args = #[v0, v1] := by cases args; simp_all
  have fin : ∀ W', Below W.heap.size W W' → Rows.purgeCoversSpec.post enc Tryd.prog Tryd.f4 false true false false W #[v0, v1] (.bool true) W' := fun W' hb => by
    simp only [List.append_nil] at hA1 hW' hlt
    exact ⟨_, _, _, [], _, [], hW', trodAll_cons_mk (shut_bool Tryd.underlying4 _) trodAll_mk0, Fr.trodAll_below (by kernel_rfl) _ (by kernel_rfl) hA1 hb hlt, rfl, hb.frame _, fun h => by cases h⟩
  clear hW' hA0 hA1 hlt
  rw [Tryd.params4, List.append_nil] at hsz
  obtain ⟨ka0, ta0, va0, ka1, ta1, va1, ka2, ta2, va2, rfl⟩ := Op.open_pg3 (hval 0 39 v0 rfl rfl) h0
  obtain ⟨c0, c1, u1, y0, y1, y2, m, rfl, rfl, rfl, hy0, hy1, hy2⟩ := Go.Joins.open_agg3 Tryd.underlying26 (by kernel_rfl) (show Tryd.prog.cellsOf 26 = 3 by kernel_rfl) (hval 1 26 v1 rfl rfl) h1
  obtain ⟨n1, e0, rfl, _⟩ := DataW.trod_int Tryd.underlying3 hy0
  obtain ⟨s1, e1, rfl, _⟩ := DataW.trod_string Tryd.underlying9 hy1
  obtain ⟨g1, hg1, hgl1⟩ := Op.strs_trod hy2
  simp only [List.cons.injEq, and_true] at e0 e1
  subst e0 e1
  obtain ⟨⟨l1⟩⟩ := s1
  refine  (walk ka0 ta0 va0 ka1 ta1 va1 ka2 ta2 va2 n1 l1 g1 u1 W hr hw hg1 hgl1).mono fun e W' ⟨he, hb⟩ => ?_
  subst he
  exact ⟨_, rfl, fin W' hb⟩

theorem laid_met (os : Os) : laidMet Tryd.prog Rows.purgeCoversRow.laid ((Fr.laidW Rows.purgeCoversRow.laid os).forCall (fun _ _ => 0) ⟨#[], #[.agg #[.int .i64 0, .int .i64 0, .string ⟨#[]⟩, .int .i64 0, .int .i64 0, .string ⟨#[]⟩, .int .i64 0, .int .i64 0, .string ⟨#[]⟩], .agg #[.int .i64 0, .string ⟨#[]⟩, .slice none 0 0]], []⟩).memory :=
  laidMet_of_run' 8 (by kernel_rfl) (by kernel_rfl)
theorem reads (os : Os) {H : Type} (enc : TypeId × Value → H) : ∃ places, DataW.whole enc Tryd.prog ((Fr.laidW Rows.purgeCoversRow.laid os).forCall (fun _ _ => 0) ⟨#[], #[.agg #[.int .i64 0, .int .i64 0, .string ⟨#[]⟩, .int .i64 0, .int .i64 0, .string ⟨#[]⟩, .int .i64 0, .int .i64 0, .string ⟨#[]⟩], .agg #[.int .i64 0, .string ⟨#[]⟩, .slice none 0 0]], []⟩).memory Tryd.f4.params.toList Rows.purgeCoversSpec.vars false (#[.agg #[.int .i64 0, .int .i64 0, .string ⟨#[]⟩, .int .i64 0, .int .i64 0, .string ⟨#[]⟩, .int .i64 0, .int .i64 0, .string ⟨#[]⟩], .agg #[.int .i64 0, .string ⟨#[]⟩, .slice none 0 0]] : Array Value).toList 8 = some ([.agg [.agg [.lit (.int .i64 0), .lit (.int .i64 0), .lit (.string [])], .agg [.lit (.int .i64 0), .lit (.int .i64 0), .lit (.string [])], .agg [.lit (.int .i64 0), .lit (.int .i64 0), .lit (.string [])]], .agg [.lit (.int .i64 0), .lit (.string []), .nil]], [], places) :=
  ⟨[], by kernel_rfl⟩

theorem lifted (os : Os) (started : os.Started) (H : Type) (enc : TypeId × Value → H) (F : Stop.Interp) :
    ReturnsInHanded {} Tryd.checked os 4 .any ((OpenSpec.ofChange Rows.purgeCoversSpec).preRow enc Tryd.prog Tryd.f4 Rows.purgeCoversRow.domain false Rows.purgeCoversRow.laid) (((OpenSpec.ofChange Rows.purgeCoversSpec).at F).post enc Tryd.prog Tryd.f4 false true false false) := by
  obtain ⟨places, hx⟩ := reads os enc
  refine returnsInHanded_of_row (C := Tryd.checked) (s := OpenSpec.ofChange Rows.purgeCoversSpec) Fr.own started (by kernel_rfl) Tryd.func4
    (witness_row_at (enc := enc) (C := Tryd.checked) false (Fr.laidW Rows.purgeCoversRow.laid os) #[.agg #[.int .i64 0, .int .i64 0, .string ⟨#[]⟩, .int .i64 0, .int .i64 0, .string ⟨#[]⟩, .int .i64 0, .int .i64 0, .string ⟨#[]⟩], .agg #[.int .i64 0, .string ⟨#[]⟩, .slice none 0 0]] rfl (by kernel_rfl) (by kernel_rfl) (by kernel_rfl)
      (OpenSpec.preRow_of_cond 8 hx (by kernel_rfl) (fun k hk => by cases hk) (by kernel_rfl) (laid_met os))) ?_
  intro W base args ds gs before hval hW _ hcond hsz hlaid hsh _
  exact contract H enc W base args ds gs before hval hW (by have h9 : (DataW.weightsEach Tryd.prog (Tryd.f4.params.toList ++ []) (ds ++ gs)).all (· ≤ reachBytes) = true := hsz; rw [List.append_nil] at h9; exact h9) (Fr.ready hsh) (Fr.words_laid hlaid (by kernel_rfl) (by repeat first | exact List.mem_cons_self .. | apply List.mem_cons_of_mem))

theorem k_0 : Rows.purgeCoversRow.wf (OpenSpec.ofChange (OpenSpec.ofChange Rows.purgeCoversSpec).bare) = true := by kernel_rfl
theorem k_1 : laidOutB Tryd.prog = true := Fr.sf_laidOut
theorem k_2 : mapsRowed Tryd.prog = true := Fr.sf_mapsRowed
theorem k_3 : Tryd.f4.params.all (Tryd.prog.readableRec ·) = true := by kernel_rfl
theorem k_4 : namedTie Tryd.prog Rows.purgeCoversRow.named (OpenSpec.ofChange Rows.purgeCoversSpec).bare.vars = true := by kernel_rfl
theorem k_5 : (Rows.purgeCoversRow.stops == []) = true := by kernel_rfl
theorem k_6 : (Tryd.prog.stops == []) = true := Fr.sf_stops
theorem k_7 : (Rows.purgeCoversRow.knobs == []) = true := by kernel_rfl
theorem k_8 : (Tryd.prog.stopKnobs == []) = true := Fr.sf_stopKnobs
theorem k_9 : (Rows.purgeCoversRow.inPlace == Tryd.prog.inPlace 4) = true := by kernel_rfl
theorem k_10 : (Rows.purgeCoversRow.unfollowed == Tryd.prog.unfollowed 4) = true := by kernel_rfl
theorem k_11 : (Rows.purgeCoversRow.recurses == Tryd.prog.recurses 4) = true := by kernel_rfl
theorem k_12 : (Rows.purgeCoversRow.named == Tryd.prog.varsNamed 4) = true := by kernel_rfl
theorem k_13 : (Rows.purgeCoversRow.maps == (Tryd.f4.params.toList ++ (OpenSpec.ofChange Rows.purgeCoversSpec).bare.plain.varTypes Tryd.prog).any (Tryd.prog.mapsRec ·)) = true := by kernel_rfl
theorem k_14 : (Rows.purgeCoversRow.ifaces == (Tryd.f4.params.toList ++ (OpenSpec.ofChange Rows.purgeCoversSpec).bare.plain.varTypes Tryd.prog).any (Tryd.prog.ifacesRec ·)) = true := by kernel_rfl
theorem k_15 : (Rows.purgeCoversRow.mapsOut == Tryd.prog.mapsAmong Tryd.f4.resultTypes.toList) = true := by kernel_rfl
theorem k_16 : (Rows.purgeCoversRow.loops == (Tryd.f4.params.toList ++ (OpenSpec.ofChange Rows.purgeCoversSpec).bare.plain.varTypes Tryd.prog).any (Tryd.prog.loopsFrom ·)) = true := by kernel_rfl
theorem k_17 : (Rows.purgeCoversRow.wideKeys == (Tryd.f4.params.toList ++ (OpenSpec.ofChange Rows.purgeCoversSpec).bare.plain.varTypes Tryd.prog ++ Tryd.f4.resultTypes.toList).any (Tryd.prog.wideKeysFrom ·)) = true := by kernel_rfl
theorem k_18 : (OpenSpec.ofChange Rows.purgeCoversSpec).bare.vars.all (Tryd.prog.varReadable ·) = true := by kernel_rfl
theorem k_19 : Tryd.f4.resultTypes.all (fun t => Tryd.prog.readableRec t && decide (t < Tryd.prog.types.size)) = true := by kernel_rfl
theorem k_20 : (Rows.purgeCoversRow.ifacesOut == Tryd.f4.resultTypes.toList.any (Tryd.prog.ifacesRec ·)) = true := by kernel_rfl
theorem k_21 : (Rows.purgeCoversRow.loopsOut == Tryd.f4.resultTypes.toList.any (Tryd.prog.loopsFrom ·)) = true := by kernel_rfl
theorem k_22 : (Rows.purgeCoversRow.plainKeys == Tryd.prog.plainKeys) = true := Fr.sf_plainKeys
theorem k_23 : Rows.purgeCoversRow.shortTexts.isNone = true := by kernel_rfl
theorem k_24 : Tryd.prog.stopsHeard = true := Fr.sf_heard
theorem k_25 : Tryd.prog.mayEnter = true := Fr.sf_mayEnter
theorem k_26 : (Rows.purgeCoversRow.lifted == Tryd.prog.liftsFinal) = true := Fr.sf_lifted
theorem k_27 : (Tryd.prog.make == some Rows.purgeCoversRow.make) = true := Fr.sf_make
theorem k_28 : (Rows.purgeCoversRow.kinds == (if Rows.purgeCoversRow.domain.isEmpty then [] else Tryd.f4.params.toList.map fun t => match Tryd.prog.underlying t with | some (.int k) => some k | _ => none)) = true := by kernel_rfl
theorem k_29 : (Rows.purgeCoversRow.pinned == Rows.purgeCoversRow.pinnedBy) = true := by kernel_rfl
theorem k_30 : (Rows.purgeCoversRow.veiled == (Tryd.f4.params.toList ++ (OpenSpec.ofChange Rows.purgeCoversSpec).bare.plain.varTypes Tryd.prog ++ Tryd.f4.resultTypes.toList).any (Tryd.prog.veiledRec ·)) = true := by kernel_rfl
theorem k_31 : Rows.purgeCoversRow.veiledFits Tryd.prog Tryd.f4.params.toList (Tryd.f4.params.toList ++ (OpenSpec.ofChange Rows.purgeCoversSpec).bare.plain.varTypes Tryd.prog ++ Tryd.f4.resultTypes.toList) = true := by kernel_rfl
theorem closed : joinedFacts Tryd.prog 4 Tryd.f4 (OpenSpec.ofChange Rows.purgeCoversSpec).bare Rows.purgeCoversRow = true := Op.andT (Op.andT (Op.andT (Op.andT (Op.andT (Op.andT (Op.andT (Op.andT (Op.andT (Op.andT (Op.andT (Op.andT (Op.andT (Op.andT (Op.andT (Op.andT (Op.andT (Op.andT (Op.andT (Op.andT (Op.andT (Op.andT (Op.andT (Op.andT (Op.andT (Op.andT (Op.andT (Op.andT (Op.andT (Op.andT (Op.andT (k_0) k_1) k_2) k_3) k_4) k_5) k_6) k_7) k_8) k_9) k_10) k_11) k_12) k_13) k_14) k_15) k_16) k_17) k_18) k_19) k_20) k_21) k_22) k_23) k_24) k_25) k_26) k_27) k_28) k_29) k_30) k_31

theorem said : Rows.PurgeCoversSaid :=
  OpenClaim.holds_of_cond 4 Tryd.f4 rfl rfl rfl rfl rfl rfl rfl ⟨rfl, rfl, rfl, rfl, rfl⟩ rfl rfl rfl rfl rfl (by kernel_rfl) Tryd.func4 closed
    (of_decide_eq_true (by kernel_rfl)) (by unfold Func.isWrapper; first | (rw [if_pos (by decide +kernel)]; kernel_rfl) | (rw [if_neg (by decide +kernel)]; exact ⟨rfl, rfl⟩))
    (fun os started H enc _ F => by rw [OpenClaim.pre_eq_preRow]; exact lifted os started H enc F)

theorem plain (b : Bool) (hb : b = Tryd.pinned.checked.prog.looks []) (f : FuncId) (fn : Func) (hf : Tryd.pinned.checked.prog.funcNamed "quayside/quaysidelaw36.PurgeCovers" = some f) (hfn : Tryd.pinned.checked.prog.funcs[f]? = some fn) :
    b = Tryd.pinned.checked.prog.looks [] ∧ ∀ (j : Nat) t, fn.params[j]? = some t → Tryd.pinned.checked.prog.wantsStandIn t = false := by
  obtain rfl : f = 4 := Option.some.inj ((show Tryd.prog.funcNamed "quayside/quaysidelaw36.PurgeCovers" = some 4 by kernel_rfl).symm.trans hf) |>.symm
  obtain rfl : fn = Tryd.f4 := (Option.some.inj (Tryd.func4.symm.trans hfn)).symm
  refine ⟨hb, fun j t ht => ?_⟩
  rw [Tryd.params4] at ht
  have hm : t ∈ [39, 26] := by simpa using Array.mem_of_getElem? ht
  have hall : ([39, 26].all fun u => !Tryd.prog.wantsStandIn u) = true := by kernel_rfl
  exact (show Tryd.prog.wantsStandIn t = false by simpa using List.all_eq_true.1 hall t hm)

theorem proved : Rows.PurgeCoversCardSaid :=
  Claim7.holds_tied_plain_at .later [] _ _ _ _ said (fun _ h => by cases h) (by kernel_rfl) (fun _ h => by cases h) purgeCovers_row_tie rfl ⟨rfl, rfl⟩ (by kernel_rfl) rfl (plain _ (by kernel_rfl)) (by kernel_rfl)
#print axioms proved
end Go.Proofs.YtbnjajpencahfaaDoor.lawPurgeCovers
