/- PROVED: PurgeWider returns true for every input and leaves its arguments as they were. No condition beyond the statement's own (the listed variables read as the program's text lays them, which the card ties). -/
import Derived.Test.YtofancbnaeabhaaGreatDoorFrame
import Derived.Test.YtofancbnaeabhaaGreatDoorFrameW
import Derived.Test.YtofancbnaeabhaaGreatDoorClosed
import Derived.Test.YtofancbnaeabhaaGreatDoorPurg9
import Derived.Test.YtofancbnaeabhaaGreatDoorPurg7
import Derived.Test.YtofancbnaeabhaaGreatDoorOpen
import Derived.Deep.RegionHeld3
namespace Go.Proofs.YtofancbnaeabhaaGreatDoor.lawPurgeWider
open Go.ChangeShapes Go.WideShapes Go.ChangeAt Go.RowKit Pl Ad A1
open Go.ChangeMaps (open_string shut_string)
attribute [local go_sem] ba_get conv_one conv_one_drewN ba_append ba_extract
set_option maxRecDepth 100000
set_option maxHeartbeats 4000000
set_option linter.unusedVariables false


/-- The variables of two purges, and the world below as it was. -/
structure PB (w : World) (ak at' : Int) (av : Bs) (bk bt : Int) (bv : Bs) (w' : World) : Prop where
  bel : Below w.heap.size w w'
  box : Box3 w' w.heap.size 70 (.int .i64 ak) (.int .i64 at') (.string ⟨av.toArray⟩)
  box2 : Box3 w' (w.heap.size + 1) 70 (.int .i64 bk) (.int .i64 bt) (.string ⟨bv.toArray⟩)
theorem PB.keep {w : World} {ak at' : Int} {av : Bs} {bk bt : Int} {bv : Bs} {w1 w2 : World} {N : Nat} (hb : Below N w1 w2) (hN : N = w1.heap.size) (s : PB w ak at' av bk bt bv w1) : PB w ak at' av bk bt bv w2 := by
  subst hN
  exact ⟨s.bel.trans (hb.mono s.bel.size), s.box.older hb, s.box2.older hb⟩
theorem PB.drew {w : World} {ak at' : Int} {av : Bs} {bk bt : Int} {bv : Bs} {w1 : World} (s : PB w ak at' av bk bt bv w1) : PB w ak at' av bk bt bv w1.drew := ⟨s.bel.drew, s.box, s.box2⟩
theorem PB.newer {w : World} {ak at' : Int} {av : Bs} {bk bt : Int} {bv : Bs} {w1 : World} (s : PB w ak at' av bk bt bv w1) (o : Obj) : PB w ak at' av bk bt bv (w1.alloc o) := s.keep ((Below.refl _ _).alloc (Nat.le_refl _) o) rfl
theorem PB.of {w : World} {ak at' : Int} {av : Bs} {bk bt : Int} {bv : Bs} {w' : World} (s : w'.cell? ⟨w.heap.size, 0, none⟩ = some (.int .i64 ak) ∧ w'.cell? ⟨w.heap.size, 1, none⟩ = some (.int .i64 at') ∧ w'.cell? ⟨w.heap.size, 2, none⟩ = some (.string ⟨av.toArray⟩) ∧ w'.cell? ⟨w.heap.size + 1, 0, none⟩ = some (.int .i64 bk) ∧ w'.cell? ⟨w.heap.size + 1, 1, none⟩ = some (.int .i64 bt) ∧ w'.cell? ⟨w.heap.size + 1, 2, none⟩ = some (.string ⟨bv.toArray⟩) ∧ PB w ak at' av bk bt bv w') : PB w ak at' av bk bt bv w' := s.2.2.2.2.2.2
theorem PB.all {w : World} {ak at' : Int} {av : Bs} {bk bt : Int} {bv : Bs} {w' : World} (s : PB w ak at' av bk bt bv w') : w'.cell? ⟨w.heap.size, 0, none⟩ = some (.int .i64 ak) ∧ w'.cell? ⟨w.heap.size, 1, none⟩ = some (.int .i64 at') ∧ w'.cell? ⟨w.heap.size, 2, none⟩ = some (.string ⟨av.toArray⟩) ∧ w'.cell? ⟨w.heap.size + 1, 0, none⟩ = some (.int .i64 bk) ∧ w'.cell? ⟨w.heap.size + 1, 1, none⟩ = some (.int .i64 bt) ∧ w'.cell? ⟨w.heap.size + 1, 2, none⟩ = some (.string ⟨bv.toArray⟩) ∧ PB w ak at' av bk bt bv w' := ⟨s.box.facts.1.1, s.box.facts.1.2.1, s.box.facts.1.2.2, s.box2.facts.1.1, s.box2.facts.1.2.1, s.box2.facts.1.2.2, s⟩
theorem pb_new (w : World) (ak at' : Int) (av : Bs) (bk bt : Int) (bv : Bs) : PB w ak at' av bk bt bv ((w.alloc (.cells #[.int .i64 ak, .int .i64 at', .string ⟨av.toArray⟩] 70)).alloc (.cells #[.int .i64 bk, .int .i64 bt, .string ⟨bv.toArray⟩] 70)) := by
  have h2 := box3_new (w.alloc (.cells #[.int .i64 ak, .int .i64 at', .string ⟨av.toArray⟩] 70)) 70 (.int .i64 bk) (.int .i64 bt) (.string ⟨bv.toArray⟩)
  rw [show (w.alloc (.cells #[.int .i64 ak, .int .i64 at', .string ⟨av.toArray⟩] 70)).heap.size = w.heap.size + 1 by simp] at h2
  exact ⟨((Below.refl _ _).alloc (Nat.le_refl _) _).alloc (by simp) _, (box3_new w 70 _ _ _).alloc _, h2⟩

theorem walk_large1 (ak at' : Int) (av : Bs) (bk bt : Int) (bv : Bs) (w : World) (hr : Ready w) (hw : WordsAt w) (hl : ¬ av.length ≤ 1500) :
    Calls Tryz.prog 6 #[.agg #[.int .i64 ak, .int .i64 at', .string ⟨av.toArray⟩], .agg #[.int .i64 bk, .int .i64 bt, .string ⟨bv.toArray⟩]] w fun e w' => e = .returned (.bool true) ∧ Below w.heap.size w w' := by
  have hp : PB w ak at' av bk bt bv ((w.alloc (.cells #[.int .i64 ak, .int .i64 at', .string ⟨av.toArray⟩] 70)).alloc (.cells #[.int .i64 bk, .int .i64 bt, .string ⟨bv.toArray⟩] 70)) := pb_new w ak at' av bk bt bv
  have HP := Lib.hid hp
  have HR := Lib.hid (hr.below hp.bel)
  have HW := Lib.hid (hw.below hp.bel)
  have HLa := Lib.hid (decide_eq_false hl)
  clear hl
  go_enter Tryz.func6, Tryz.ntmps6
  go_wp2_with fail
  refine (awake36_any _ HR.out HW.out).mono ?_
  rintro e w1 ⟨rfl, hb1⟩
  have hP1 := PB.keep hb1 rfl HP.out
  have HP1 := Lib.hid hP1
  obtain ⟨⟨c0, c1, c2⟩, _⟩ := hP1.box.facts
  obtain ⟨⟨d0, d1, d2⟩, _⟩ := hP1.box2.facts
  clear hb1 hP1
  go_wp2_with (first | (go_at_call 31; refine (small_any av _).mono ?_; rintro e w2 ⟨rfl, rfl⟩; rw [HLa.out]) | (go_at_call 30; refine (awake36_any _ (hr.below HP1.out.bel) (hw.below HP1.out.bel)).mono ?_; rintro e w2 ⟨rfl, hb2⟩))
  go_ret
  exact ⟨rfl, HP1.out.bel.trans (hb2.mono HP1.out.bel.size)⟩

theorem walk_large2 (ak at' : Int) (av : Bs) (bk bt : Int) (bv : Bs) (w : World) (hr : Ready w) (hw : WordsAt w) (hla : av.length ≤ 1500) (hl : ¬ bv.length ≤ 1500) :
    Calls Tryz.prog 6 #[.agg #[.int .i64 ak, .int .i64 at', .string ⟨av.toArray⟩], .agg #[.int .i64 bk, .int .i64 bt, .string ⟨bv.toArray⟩]] w fun e w' => e = .returned (.bool true) ∧ Below w.heap.size w w' := by
  have hp : PB w ak at' av bk bt bv ((w.alloc (.cells #[.int .i64 ak, .int .i64 at', .string ⟨av.toArray⟩] 70)).alloc (.cells #[.int .i64 bk, .int .i64 bt, .string ⟨bv.toArray⟩] 70)) := pb_new w ak at' av bk bt bv
  have HP := Lib.hid hp
  have HR := Lib.hid (hr.below hp.bel)
  have HW := Lib.hid (hw.below hp.bel)
  have HLa := Lib.hid (decide_eq_true hla)
  have HLb := Lib.hid (decide_eq_false hl)
  clear hl hla
  go_enter Tryz.func6, Tryz.ntmps6
  go_wp2_with fail
  refine (awake36_any _ HR.out HW.out).mono ?_
  rintro e w1 ⟨rfl, hb1⟩
  have hP1 := PB.keep hb1 rfl HP.out
  have HP1 := Lib.hid hP1
  obtain ⟨⟨c0, c1, c2⟩, _⟩ := hP1.box.facts
  obtain ⟨⟨d0, d1, d2⟩, _⟩ := hP1.box2.facts
  clear hb1 hP1
  go_wp2_with (first | (go_at_call 31; refine (small_any av _).mono ?_; rintro e w2 ⟨rfl, rfl⟩; rw [HLa.out]) | (go_at_call 31; refine (small_any bv _).mono ?_; rintro e w2 ⟨rfl, rfl⟩; rw [HLb.out]) | (go_at_call 30; refine (awake36_any _ (hr.below HP1.out.bel) (hw.below HP1.out.bel)).mono ?_; rintro e w2 ⟨rfl, hb2⟩))
  go_ret
  exact ⟨rfl, HP1.out.bel.trans (hb2.mono HP1.out.bel.size)⟩

theorem walk_ok (ak at' : Int) (av : Bs) (bk bt : Int) (bv : Bs) (w : World) (hr : Ready w) (hw : WordsAt w) (hla : av.length ≤ 1500) (hlb : bv.length ≤ 1500) (hc : checkN ⟨ak, at', av⟩ = 0) :
    Calls Tryz.prog 6 #[.agg #[.int .i64 ak, .int .i64 at', .string ⟨av.toArray⟩], .agg #[.int .i64 bk, .int .i64 bt, .string ⟨bv.toArray⟩]] w fun e w' => e = .returned (.bool true) ∧ Below w.heap.size w w' := by
  have hp : PB w ak at' av bk bt bv ((w.alloc (.cells #[.int .i64 ak, .int .i64 at', .string ⟨av.toArray⟩] 70)).alloc (.cells #[.int .i64 bk, .int .i64 bt, .string ⟨bv.toArray⟩] 70)) := pb_new w ak at' av bk bt bv
  have HP := Lib.hid hp
  have HR := Lib.hid (hr.below hp.bel)
  have HW := Lib.hid (hw.below hp.bel)
  have HLa := Lib.hid (decide_eq_true hla)
  have HLb := Lib.hid (decide_eq_true hlb)
  have HRA : Hid (∀ w', Below w.heap.size w w' → Ready w') := Lib.hid fun w' hb => hr.below hb
  have HS := Lib.hid (show widerB ⟨ak, at', av⟩ ⟨ak, at', av⟩ = true by rw [wider_self]; exact decide_eq_true hc)
  have HC := Lib.hid (chkV_ok hc)
  have hl1 : av.length ≤ 134217728 := by omega
  have hl2 : bv.length ≤ 134217728 := by omega
  clear hp hc
  go_enter Tryz.func6, Tryz.ntmps6
  go_wp2_with fail
  refine (awake36_any _ HR.out HW.out).mono ?_
  rintro e w1 ⟨rfl, hb1⟩
  have hP1 := PB.keep hb1 rfl HP.out
  have HP1 := Lib.hid hP1
  obtain ⟨⟨c0, c1, c2⟩, _⟩ := hP1.box.facts
  obtain ⟨⟨d0, d1, d2⟩, _⟩ := hP1.box2.facts
  clear hb1 hP1
  go_wp2_with (first | (go_at_call 31; refine (small_any av _).mono ?_; rintro e w2 ⟨rfl, rfl⟩; rw [HLa.out]) | (go_at_call 31; refine (small_any bv _).mono ?_; rintro e w2 ⟨rfl, rfl⟩; rw [HLb.out]))
  have hP1 := HP1.out
  clear c0 c1 c2 d0 d1 d2 HP1
  go_region_held3 (fun w' => w'.cell? ⟨w.heap.size, 0, none⟩ = some (.int .i64 ak) ∧ w'.cell? ⟨w.heap.size, 1, none⟩ = some (.int .i64 at') ∧ w'.cell? ⟨w.heap.size, 2, none⟩ = some (.string ⟨av.toArray⟩) ∧ w'.cell? ⟨w.heap.size + 1, 0, none⟩ = some (.int .i64 bk) ∧ w'.cell? ⟨w.heap.size + 1, 1, none⟩ = some (.int .i64 bt) ∧ w'.cell? ⟨w.heap.size + 1, 2, none⟩ = some (.string ⟨bv.toArray⟩) ∧ PB w ak at' av bk bt bv w') ((refine PB.all ?_; (repeat (first | assumption | (refine PB.of ?_; assumption) | (with_reducible refine PB.drew ?_) | (with_reducible refine PB.newer ?_ _) | (with_reducible refine PB.keep hb9 rfl ?_)))))
    ((first
      | (go_at_call 33; with_reducible refine (of36_any ⟨ak, at', av⟩ _).mono ?_; rintro e w9 ⟨rfl, hb9⟩)
      | (go_at_call 33; with_reducible refine (of36_any ⟨bk, bt, bv⟩ _).mono ?_; rintro e w9 ⟨rfl, hb9⟩)
      | (go_at_call 32; with_reducible refine (wider_any ⟨ak, at', av⟩ ⟨bk, bt, bv⟩ _ ?_ hl1 hl2).mono ?_; exact HRA.out _ (PB.bel (ak := ak) (at' := at') (av := av) (bk := bk) (bt := bt) (bv := bv) (by (repeat (first | assumption | (refine PB.of ?_; assumption) | (with_reducible refine PB.drew ?_) | (with_reducible refine PB.newer ?_ _) | (with_reducible refine PB.keep hb9 rfl ?_))))); rintro e w9 ⟨rfl, hb9⟩)
      | (go_at_call 32; with_reducible refine (wider_any ⟨ak, at', av⟩ ⟨ak, at', av⟩ _ ?_ hl1 hl1).mono ?_; exact HRA.out _ (PB.bel (ak := ak) (at' := at') (av := av) (bk := bk) (bt := bt) (bv := bv) (by (repeat (first | assumption | (refine PB.of ?_; assumption) | (with_reducible refine PB.drew ?_) | (with_reducible refine PB.newer ?_ _) | (with_reducible refine PB.keep hb9 rfl ?_))))); rintro e w9 ⟨rfl, hb9⟩; rw [HS.out])
      | (go_at_call 34; with_reducible refine (refWider_any ⟨ak, at', av⟩ ⟨bk, bt, bv⟩ _ hl1 hl2).mono ?_; rintro e w9 ⟨rfl, hb9⟩)
      | (go_at_call 35; with_reducible refine (check_any ⟨ak, at', av⟩ _ ?_ hl1).mono ?_; exact HRA.out _ (PB.bel (ak := ak) (at' := at') (av := av) (bk := bk) (bt := bt) (bv := bv) (by (repeat (first | assumption | (refine PB.of ?_; assumption) | (with_reducible refine PB.drew ?_) | (with_reducible refine PB.newer ?_ _) | (with_reducible refine PB.keep hb9 rfl ?_))))); rintro e w9 ⟨rfl, hb9⟩; rw [HC.out])))
  all_goals
    go_wp2_with fail
    go_ret
    refine ⟨ret_bool' (by simp), PB.bel (ak := ak) (at' := at') (av := av) (bk := bk) (bt := bt) (bv := bv) ?_⟩
    (repeat (first | assumption | (refine PB.of ?_; assumption) | (with_reducible refine PB.drew ?_) | (with_reducible refine PB.newer ?_ _) | (with_reducible refine PB.keep hb9 rfl ?_)))

theorem walk_bad (ak at' : Int) (av : Bs) (bk bt : Int) (bv : Bs) (w : World) (hr : Ready w) (hw : WordsAt w) (hla : av.length ≤ 1500) (hlb : bv.length ≤ 1500) (hc : ¬ checkN ⟨ak, at', av⟩ = 0) :
    Calls Tryz.prog 6 #[.agg #[.int .i64 ak, .int .i64 at', .string ⟨av.toArray⟩], .agg #[.int .i64 bk, .int .i64 bt, .string ⟨bv.toArray⟩]] w fun e w' => e = .returned (.bool true) ∧ Below w.heap.size w w' := by
  have hp : PB w ak at' av bk bt bv ((w.alloc (.cells #[.int .i64 ak, .int .i64 at', .string ⟨av.toArray⟩] 70)).alloc (.cells #[.int .i64 bk, .int .i64 bt, .string ⟨bv.toArray⟩] 70)) := pb_new w ak at' av bk bt bv
  have HP := Lib.hid hp
  have HR := Lib.hid (hr.below hp.bel)
  have HW := Lib.hid (hw.below hp.bel)
  have HLa := Lib.hid (decide_eq_true hla)
  have HLb := Lib.hid (decide_eq_true hlb)
  have HRA : Hid (∀ w', Below w.heap.size w w' → Ready w') := Lib.hid fun w' hb => hr.below hb
  have HS := Lib.hid (show widerB ⟨ak, at', av⟩ ⟨ak, at', av⟩ = false by rw [wider_self]; exact decide_eq_false hc)
  have HC := Lib.hid (chkV_err (p := ⟨ak, at', av⟩) rfl hc)
  have hl1 : av.length ≤ 134217728 := by omega
  have hl2 : bv.length ≤ 134217728 := by omega
  clear hp hc
  go_enter Tryz.func6, Tryz.ntmps6
  go_wp2_with fail
  refine (awake36_any _ HR.out HW.out).mono ?_
  rintro e w1 ⟨rfl, hb1⟩
  have hP1 := PB.keep hb1 rfl HP.out
  have HP1 := Lib.hid hP1
  obtain ⟨⟨c0, c1, c2⟩, _⟩ := hP1.box.facts
  obtain ⟨⟨d0, d1, d2⟩, _⟩ := hP1.box2.facts
  clear hb1 hP1
  go_wp2_with (first | (go_at_call 31; refine (small_any av _).mono ?_; rintro e w2 ⟨rfl, rfl⟩; rw [HLa.out]) | (go_at_call 31; refine (small_any bv _).mono ?_; rintro e w2 ⟨rfl, rfl⟩; rw [HLb.out]))
  have hP1 := HP1.out
  clear c0 c1 c2 d0 d1 d2 HP1
  go_region_held3 (fun w' => w'.cell? ⟨w.heap.size, 0, none⟩ = some (.int .i64 ak) ∧ w'.cell? ⟨w.heap.size, 1, none⟩ = some (.int .i64 at') ∧ w'.cell? ⟨w.heap.size, 2, none⟩ = some (.string ⟨av.toArray⟩) ∧ w'.cell? ⟨w.heap.size + 1, 0, none⟩ = some (.int .i64 bk) ∧ w'.cell? ⟨w.heap.size + 1, 1, none⟩ = some (.int .i64 bt) ∧ w'.cell? ⟨w.heap.size + 1, 2, none⟩ = some (.string ⟨bv.toArray⟩) ∧ PB w ak at' av bk bt bv w') ((refine PB.all ?_; (repeat (first | assumption | (refine PB.of ?_; assumption) | (with_reducible refine PB.drew ?_) | (with_reducible refine PB.newer ?_ _) | (with_reducible refine PB.keep hb9 rfl ?_)))))
    ((first
      | (go_at_call 33; with_reducible refine (of36_any ⟨ak, at', av⟩ _).mono ?_; rintro e w9 ⟨rfl, hb9⟩)
      | (go_at_call 33; with_reducible refine (of36_any ⟨bk, bt, bv⟩ _).mono ?_; rintro e w9 ⟨rfl, hb9⟩)
      | (go_at_call 32; with_reducible refine (wider_any ⟨ak, at', av⟩ ⟨bk, bt, bv⟩ _ ?_ hl1 hl2).mono ?_; exact HRA.out _ (PB.bel (ak := ak) (at' := at') (av := av) (bk := bk) (bt := bt) (bv := bv) (by (repeat (first | assumption | (refine PB.of ?_; assumption) | (with_reducible refine PB.drew ?_) | (with_reducible refine PB.newer ?_ _) | (with_reducible refine PB.keep hb9 rfl ?_))))); rintro e w9 ⟨rfl, hb9⟩)
      | (go_at_call 32; with_reducible refine (wider_any ⟨ak, at', av⟩ ⟨ak, at', av⟩ _ ?_ hl1 hl1).mono ?_; exact HRA.out _ (PB.bel (ak := ak) (at' := at') (av := av) (bk := bk) (bt := bt) (bv := bv) (by (repeat (first | assumption | (refine PB.of ?_; assumption) | (with_reducible refine PB.drew ?_) | (with_reducible refine PB.newer ?_ _) | (with_reducible refine PB.keep hb9 rfl ?_))))); rintro e w9 ⟨rfl, hb9⟩; rw [HS.out])
      | (go_at_call 34; with_reducible refine (refWider_any ⟨ak, at', av⟩ ⟨bk, bt, bv⟩ _ hl1 hl2).mono ?_; rintro e w9 ⟨rfl, hb9⟩)
      | (go_at_call 35; with_reducible refine (check_any ⟨ak, at', av⟩ _ ?_ hl1).mono ?_; exact HRA.out _ (PB.bel (ak := ak) (at' := at') (av := av) (bk := bk) (bt := bt) (bv := bv) (by (repeat (first | assumption | (refine PB.of ?_; assumption) | (with_reducible refine PB.drew ?_) | (with_reducible refine PB.newer ?_ _) | (with_reducible refine PB.keep hb9 rfl ?_))))); rintro e w9 ⟨rfl, hb9⟩; rw [HC.out])))
  all_goals
    go_wp2_with fail
    go_ret
    refine ⟨ret_bool' (by simp), PB.bel (ak := ak) (at' := at') (av := av) (bk := bk) (bt := bt) (bv := bv) ?_⟩
    (repeat (first | assumption | (refine PB.of ?_; assumption) | (with_reducible refine PB.drew ?_) | (with_reducible refine PB.newer ?_ _) | (with_reducible refine PB.keep hb9 rfl ?_)))

theorem walk (a b : Pg) (w : World) (hr : Ready w) (hw : WordsAt w) (h1 : a.value.length ≤ 140737488351232) (h2 : b.value.length ≤ 140737488351232) :
    Calls Tryz.prog 6 #[pgV a, pgV b] w fun e w' => e = .returned (.bool true) ∧ Below w.heap.size w w' := by
  obtain ⟨ak, at', av⟩ := a
  obtain ⟨bk, bt, bv⟩ := b
  simp only at h1 h2
  by_cases hla : av.length ≤ 1500
  · by_cases hlb : bv.length ≤ 1500
    · by_cases hc : checkN ⟨ak, at', av⟩ = 0
      · exact walk_ok ak at' av bk bt bv w hr hw hla hlb hc
      · exact walk_bad ak at' av bk bt bv w hr hw hla hlb hc
    · exact walk_large2 ak at' av bk bt bv w hr hw hla hlb
  · exact walk_large1 ak at' av bk bt bv w hr hw hla

/-- What the walk gives, for every argument. -/
theorem contract (H : Type) (enc : TypeId × Value → H) (W : World) (base : Nat) (args : Array Value) (ds gs : List (DataW H)) (before : List MemPlace)
    (hval : ∀ (j : Nat) t v, Tryz.f6.params[j]? = some t → args[j]? = some v → Value.okWide Tryz.prog W .any base t v)
    (hW : DataW.Whole enc Tryz.prog Tryz.f6.params.toList Rows.purgeWiderSpec.vars false W args.toList ds gs before) (hsz : (DataW.weightsEach Tryz.prog Tryz.f6.params.toList (ds ++ gs)).all (· ≤ reachBytes) = true) (hr : Ready W) (hw : A1.WordsAt W) :
    Calls Tryz.prog 6 args W fun e W' => ∃ v, e = .returned v ∧ Rows.purgeWiderSpec.post enc Tryz.prog Tryz.f6 false true false false W args v W' := by
  have hW' := hW
  have hlt := fun p hp => hW.lt p hp
  obtain ⟨p, q, hA0, hV, rfl, hfz, hnd⟩ := hW
  have hA : DataW.TrodAll enc Tryz.prog W 0 (fun _ => true) true Tryz.f6.params.toList args.toList ds p := hA0
  have hA1 := hA
  obtain ⟨rfl, rfl⟩ := trodVars_none hV
  rw [Tryz.params6] at hA hval
  obtain ⟨v0, vs0, d0, ds0, p0, q0, hargs, rfl, rfl, h0, r0⟩ := trodAll_cons hA
  obtain ⟨v1, vs1, d1, ds1, p1, q1, rfl, rfl, rfl, h1, r1⟩ := trodAll_cons r0
  obtain ⟨rfl, rfl, rfl⟩ := trodAll_nil r1
  obtain rfl : args = #[v0, v1] := by cases args; simp_all
  have fin : ∀ W', Below W.heap.size W W' → Rows.purgeWiderSpec.post enc Tryz.prog Tryz.f6 false true false false W #[v0, v1] (.bool true) W' := fun W' hb => by
    simp only [List.append_nil] at hA1 hW' hlt
    exact ⟨_, _, _, [], _, [], hW', trodAll_cons_mk (shut_bool Tryz.underlying4 _) trodAll_mk0, Fr.trodAll_below (by kernel_rfl) _ (by kernel_rfl) hA1 hb hlt, rfl, hb.frame _, fun h => by cases h⟩
  clear hW' hA0 hA1 hlt
  rw [Tryz.params6, List.append_nil] at hsz
  obtain ⟨c0, c1, c2, y0, y1, y2, m, rfl, rfl, rfl, hy0, hy1, hy2⟩ := Go.Joins.open_agg3 Tryz.underlying70 (by kernel_rfl) (show Tryz.prog.cellsOf 70 = 3 by kernel_rfl) (hval 0 70 v0 rfl rfl) h0
  obtain ⟨n0, e0, rfl, _⟩ := DataW.trod_int Tryz.underlying3 hy0
  obtain ⟨t0, e1, rfl, _⟩ := DataW.trod_int Tryz.underlying3 hy1
  obtain ⟨s0, e2, rfl, _⟩ := DataW.trod_string Tryz.underlying9 hy2
  simp only [List.cons.injEq, and_true] at e0 e1 e2
  subst e0 e1 e2
  obtain ⟨⟨l0⟩⟩ := s0
  have z0 : l0.length ≤ 140737488351232 := Op.sized_pg hsz (j := 0) rfl rfl Tryz.underlying70
  obtain ⟨c0, c1, c2, y0, y1, y2, m, rfl, rfl, rfl, hy0, hy1, hy2⟩ := Go.Joins.open_agg3 Tryz.underlying70 (by kernel_rfl) (show Tryz.prog.cellsOf 70 = 3 by kernel_rfl) (hval 1 70 v1 rfl rfl) h1
  obtain ⟨n1, e0, rfl, _⟩ := DataW.trod_int Tryz.underlying3 hy0
  obtain ⟨t1, e1, rfl, _⟩ := DataW.trod_int Tryz.underlying3 hy1
  obtain ⟨s1, e2, rfl, _⟩ := DataW.trod_string Tryz.underlying9 hy2
  simp only [List.cons.injEq, and_true] at e0 e1 e2
  subst e0 e1 e2
  obtain ⟨⟨l1⟩⟩ := s1
  have z1 : l1.length ≤ 140737488351232 := Op.sized_pg hsz (j := 1) rfl rfl Tryz.underlying70
  refine  (walk ⟨n0, t0, l0⟩ ⟨n1, t1, l1⟩ W hr hw z0 z1).mono fun e W' ⟨he, hb⟩ => ?_
  subst he
  exact ⟨_, rfl, fin W' hb⟩

theorem laid_met (os : Os) : laidMet Tryz.prog Rows.purgeWiderRow.laid ((Fr.laidW Rows.purgeWiderRow.laid os).forCall (fun _ _ => 0) ⟨#[], #[.agg #[.int .i64 0, .int .i64 0, .string ⟨#[]⟩], .agg #[.int .i64 0, .int .i64 0, .string ⟨#[]⟩]], []⟩).memory :=
  laidMet_of_run' 8 (by kernel_rfl) (by kernel_rfl)
theorem reads (os : Os) {H : Type} (enc : TypeId × Value → H) : ∃ places, DataW.whole enc Tryz.prog ((Fr.laidW Rows.purgeWiderRow.laid os).forCall (fun _ _ => 0) ⟨#[], #[.agg #[.int .i64 0, .int .i64 0, .string ⟨#[]⟩], .agg #[.int .i64 0, .int .i64 0, .string ⟨#[]⟩]], []⟩).memory Tryz.f6.params.toList Rows.purgeWiderSpec.vars false (#[.agg #[.int .i64 0, .int .i64 0, .string ⟨#[]⟩], .agg #[.int .i64 0, .int .i64 0, .string ⟨#[]⟩]] : Array Value).toList 8 = some ([.agg [.lit (.int .i64 0), .lit (.int .i64 0), .lit (.string [])], .agg [.lit (.int .i64 0), .lit (.int .i64 0), .lit (.string [])]], [], places) :=
  ⟨[], by kernel_rfl⟩

theorem lifted (os : Os) (started : os.Started) (H : Type) (enc : TypeId × Value → H) (F : Stop.Interp) :
    ReturnsInHanded {} Tryz.checked os 6 .any ((OpenSpec.ofChange Rows.purgeWiderSpec).preRow enc Tryz.prog Tryz.f6 Rows.purgeWiderRow.domain false Rows.purgeWiderRow.laid) (((OpenSpec.ofChange Rows.purgeWiderSpec).at F).post enc Tryz.prog Tryz.f6 false true false false) := by
  obtain ⟨places, hx⟩ := reads os enc
  refine returnsInHanded_of_row (C := Tryz.checked) (s := OpenSpec.ofChange Rows.purgeWiderSpec) Fr.own started (by kernel_rfl) Tryz.func6
    (witness_row_at (enc := enc) (C := Tryz.checked) false (Fr.laidW Rows.purgeWiderRow.laid os) #[.agg #[.int .i64 0, .int .i64 0, .string ⟨#[]⟩], .agg #[.int .i64 0, .int .i64 0, .string ⟨#[]⟩]] rfl (by kernel_rfl) (by kernel_rfl) (by kernel_rfl)
      (OpenSpec.preRow_of_cond 8 hx (by kernel_rfl) (fun k hk => by cases hk) (by kernel_rfl) (laid_met os))) ?_
  intro W base args ds gs before hval hW _ hcond hsz hlaid hsh _
  exact contract H enc W base args ds gs before hval hW (by have h9 : (DataW.weightsEach Tryz.prog (Tryz.f6.params.toList ++ []) (ds ++ gs)).all (· ≤ reachBytes) = true := hsz; rw [List.append_nil] at h9; exact h9) (Fr.ready hsh) (Fr.words_laid hlaid (by kernel_rfl) (by repeat first | exact List.mem_cons_self .. | apply List.mem_cons_of_mem))

theorem k_0 : Rows.purgeWiderRow.wf (OpenSpec.ofChange (OpenSpec.ofChange Rows.purgeWiderSpec).bare) = true := by kernel_rfl
theorem k_1 : laidOutB Tryz.prog = true := Fr.sf_laidOut
theorem k_2 : mapsRowed Tryz.prog = true := Fr.sf_mapsRowed
theorem k_3 : Tryz.f6.params.all (Tryz.prog.readableRec ·) = true := by kernel_rfl
theorem k_4 : namedTie Tryz.prog Rows.purgeWiderRow.named (OpenSpec.ofChange Rows.purgeWiderSpec).bare.vars = true := by kernel_rfl
theorem k_5 : (Rows.purgeWiderRow.stops == []) = true := by kernel_rfl
theorem k_6 : (Tryz.prog.stops == []) = true := Fr.sf_stops
theorem k_7 : (Rows.purgeWiderRow.knobs == []) = true := by kernel_rfl
theorem k_8 : (Tryz.prog.stopKnobs == []) = true := Fr.sf_stopKnobs
theorem k_9 : (Rows.purgeWiderRow.inPlace == Tryz.prog.inPlace 6) = true := by kernel_rfl
theorem k_10 : (Rows.purgeWiderRow.unfollowed == Tryz.prog.unfollowed 6) = true := by kernel_rfl
theorem k_11 : (Rows.purgeWiderRow.recurses == Tryz.prog.recurses 6) = true := by kernel_rfl
theorem k_12 : (Rows.purgeWiderRow.named == Tryz.prog.varsNamed 6) = true := by kernel_rfl
theorem k_13 : (Rows.purgeWiderRow.maps == (Tryz.f6.params.toList ++ (OpenSpec.ofChange Rows.purgeWiderSpec).bare.plain.varTypes Tryz.prog).any (Tryz.prog.mapsRec ·)) = true := by kernel_rfl
theorem k_14 : (Rows.purgeWiderRow.ifaces == (Tryz.f6.params.toList ++ (OpenSpec.ofChange Rows.purgeWiderSpec).bare.plain.varTypes Tryz.prog).any (Tryz.prog.ifacesRec ·)) = true := by kernel_rfl
theorem k_15 : (Rows.purgeWiderRow.mapsOut == Tryz.prog.mapsAmong Tryz.f6.resultTypes.toList) = true := by kernel_rfl
theorem k_16 : (Rows.purgeWiderRow.loops == (Tryz.f6.params.toList ++ (OpenSpec.ofChange Rows.purgeWiderSpec).bare.plain.varTypes Tryz.prog).any (Tryz.prog.loopsFrom ·)) = true := by kernel_rfl
theorem k_17 : (Rows.purgeWiderRow.wideKeys == (Tryz.f6.params.toList ++ (OpenSpec.ofChange Rows.purgeWiderSpec).bare.plain.varTypes Tryz.prog ++ Tryz.f6.resultTypes.toList).any (Tryz.prog.wideKeysFrom ·)) = true := by kernel_rfl
theorem k_18 : (OpenSpec.ofChange Rows.purgeWiderSpec).bare.vars.all (Tryz.prog.varReadable ·) = true := by kernel_rfl
theorem k_19 : Tryz.f6.resultTypes.all (fun t => Tryz.prog.readableRec t && decide (t < Tryz.prog.types.size)) = true := by kernel_rfl
theorem k_20 : (Rows.purgeWiderRow.ifacesOut == Tryz.f6.resultTypes.toList.any (Tryz.prog.ifacesRec ·)) = true := by kernel_rfl
theorem k_21 : (Rows.purgeWiderRow.loopsOut == Tryz.f6.resultTypes.toList.any (Tryz.prog.loopsFrom ·)) = true := by kernel_rfl
theorem k_22 : (Rows.purgeWiderRow.plainKeys == Tryz.prog.plainKeys) = true := Fr.sf_plainKeys
theorem k_23 : Rows.purgeWiderRow.shortTexts.isNone = true := by kernel_rfl
theorem k_24 : Tryz.prog.stopsHeard = true := Fr.sf_heard
theorem k_25 : Tryz.prog.mayEnter = true := Fr.sf_mayEnter
theorem k_26 : (Rows.purgeWiderRow.lifted == Tryz.prog.liftsFinal) = true := Fr.sf_lifted
theorem k_27 : (Tryz.prog.make == some Rows.purgeWiderRow.make) = true := Fr.sf_make
theorem k_28 : (Rows.purgeWiderRow.kinds == (if Rows.purgeWiderRow.domain.isEmpty then [] else Tryz.f6.params.toList.map fun t => match Tryz.prog.underlying t with | some (.int k) => some k | _ => none)) = true := by kernel_rfl
theorem k_29 : (Rows.purgeWiderRow.pinned == Rows.purgeWiderRow.pinnedBy) = true := by kernel_rfl
theorem k_30 : (Rows.purgeWiderRow.veiled == (Tryz.f6.params.toList ++ (OpenSpec.ofChange Rows.purgeWiderSpec).bare.plain.varTypes Tryz.prog ++ Tryz.f6.resultTypes.toList).any (Tryz.prog.veiledRec ·)) = true := by kernel_rfl
theorem k_31 : Rows.purgeWiderRow.veiledFits Tryz.prog Tryz.f6.params.toList (Tryz.f6.params.toList ++ (OpenSpec.ofChange Rows.purgeWiderSpec).bare.plain.varTypes Tryz.prog ++ Tryz.f6.resultTypes.toList) = true := by kernel_rfl
theorem closed : joinedFacts Tryz.prog 6 Tryz.f6 (OpenSpec.ofChange Rows.purgeWiderSpec).bare Rows.purgeWiderRow = true := Op.andT (Op.andT (Op.andT (Op.andT (Op.andT (Op.andT (Op.andT (Op.andT (Op.andT (Op.andT (Op.andT (Op.andT (Op.andT (Op.andT (Op.andT (Op.andT (Op.andT (Op.andT (Op.andT (Op.andT (Op.andT (Op.andT (Op.andT (Op.andT (Op.andT (Op.andT (Op.andT (Op.andT (Op.andT (Op.andT (Op.andT (k_0) k_1) k_2) k_3) k_4) k_5) k_6) k_7) k_8) k_9) k_10) k_11) k_12) k_13) k_14) k_15) k_16) k_17) k_18) k_19) k_20) k_21) k_22) k_23) k_24) k_25) k_26) k_27) k_28) k_29) k_30) k_31

theorem said : Rows.PurgeWiderSaid :=
  OpenClaim.holds_of_cond 6 Tryz.f6 rfl rfl rfl rfl rfl rfl rfl ⟨rfl, rfl, rfl, rfl, rfl⟩ rfl rfl rfl rfl rfl (by kernel_rfl) Tryz.func6 closed
    (of_decide_eq_true (by kernel_rfl)) (by unfold Func.isWrapper; first | (rw [if_pos (by decide +kernel)]; kernel_rfl) | (rw [if_neg (by decide +kernel)]; exact ⟨rfl, rfl⟩))
    (fun os started H enc _ F => by rw [OpenClaim.pre_eq_preRow]; exact lifted os started H enc F)

theorem plain (f : FuncId) (fn : Func) (hf : Tryz.pinned.checked.prog.funcNamed "quayside/quaysidelaw36.PurgeWider" = some f) (hfn : Tryz.pinned.checked.prog.funcs[f]? = some fn) :
    true = Tryz.pinned.checked.prog.looks [] ∧ ∀ (j : Nat) t, fn.params[j]? = some t → Tryz.pinned.checked.prog.wantsStandIn t = false := by
  obtain rfl : f = 6 := Option.some.inj ((show Tryz.prog.funcNamed "quayside/quaysidelaw36.PurgeWider" = some 6 by kernel_rfl).symm.trans hf) |>.symm
  obtain rfl : fn = Tryz.f6 := (Option.some.inj (Tryz.func6.symm.trans hfn)).symm
  refine ⟨by kernel_rfl, fun j t ht => ?_⟩
  rw [Tryz.params6] at ht
  have hm : t ∈ [70] := by simpa using Array.mem_of_getElem? ht
  have hall : ([70].all fun u => !Tryz.prog.wantsStandIn u) = true := by kernel_rfl
  exact (show Tryz.prog.wantsStandIn t = false by simpa using List.all_eq_true.1 hall t hm)

theorem proved : Rows.PurgeWiderCardSaid :=
  Claim7.holds_tied_plain_at .later [] _ _ _ _ said (fun _ h => by cases h) (by kernel_rfl) (fun _ h => by cases h) purgeWider_row_tie rfl ⟨rfl, rfl⟩ (by kernel_rfl) rfl plain (by kernel_rfl)
#print axioms proved
end Go.Proofs.YtofancbnaeabhaaGreatDoor.lawPurgeWider
