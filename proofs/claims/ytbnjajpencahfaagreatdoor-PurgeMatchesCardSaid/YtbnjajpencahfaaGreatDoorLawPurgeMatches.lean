/- PROVED: PurgeMatches returns true for every input and leaves its arguments as they were. No condition beyond the statement's own (the listed variables read as the program's text lays them, which the card ties). -/
import Derived.Test.YtbnjajpencahfaaGreatDoorFrame
import Derived.Test.YtbnjajpencahfaaGreatDoorFrameW
import Derived.Test.YtbnjajpencahfaaGreatDoorClosed
import Derived.Test.YtbnjajpencahfaaGreatDoorPurgU
import Derived.Test.YtbnjajpencahfaaGreatDoorPurgI
import Derived.Test.YtbnjajpencahfaaGreatDoorPurg7
import Derived.Test.YtbnjajpencahfaaGreatDoorOpenI
import Derived.Deep.RegionHeld3
namespace Go.Proofs.YtbnjajpencahfaaGreatDoor.lawPurgeMatches
open Go.ChangeShapes Go.WideShapes Go.ChangeAt Go.RowKit Pl Ad A1
open Go.ChangeMaps (open_string shut_string)
attribute [local go_sem] ba_get conv_one conv_one_drewN ba_append ba_extract
set_option maxRecDepth 100000
set_option maxHeartbeats 4000000
set_option linter.unusedVariables false
/-- The variables of a purge and an item, the item's tags, and the world below as it was. -/
structure PM (w : World) (k t : Int) (v : Bs) (xt : Int) (xa : Bs) (ua : Option Addr) (uc : Nat) (tags : List Bs) (w' : World) : Prop where
  bel : Below w.heap.size w w'
  box : Box3 w' w.heap.size 23 (.int .i64 k) (.int .i64 t) (.string ⟨v.toArray⟩)
  box2 : Box3 w' (w.heap.size + 1) 26 (.int .i64 xt) (.string ⟨xa.toArray⟩) (.slice ua tags.length uc)
  str : StrsV w' (.slice ua tags.length uc) tags
theorem PM.keep {w : World} {k t : Int} {v : Bs} {xt : Int} {xa : Bs} {ua : Option Addr} {uc : Nat} {tags : List Bs} {w1 w2 : World} {N : Nat} (hb : Below N w1 w2) (hN : N = w1.heap.size) (s : PM w k t v xt xa ua uc tags w1) : PM w k t v xt xa ua uc tags w2 := by
  subst hN
  exact ⟨s.bel.trans (hb.mono s.bel.size), s.box.older hb, s.box2.older hb, s.str.below hb⟩
theorem PM.drew {w : World} {k t : Int} {v : Bs} {xt : Int} {xa : Bs} {ua : Option Addr} {uc : Nat} {tags : List Bs} {w1 : World} (s : PM w k t v xt xa ua uc tags w1) : PM w k t v xt xa ua uc tags w1.drew := ⟨s.bel.drew, s.box, s.box2, s.str.drewN 1⟩
theorem PM.newer {w : World} {k t : Int} {v : Bs} {xt : Int} {xa : Bs} {ua : Option Addr} {uc : Nat} {tags : List Bs} {w1 : World} (s : PM w k t v xt xa ua uc tags w1) (o : Obj) : PM w k t v xt xa ua uc tags (w1.alloc o) := s.keep ((Below.refl _ _).alloc (Nat.le_refl _) o) rfl
theorem PM.of {w : World} {k t : Int} {v : Bs} {xt : Int} {xa : Bs} {ua : Option Addr} {uc : Nat} {tags : List Bs} {w' : World} (s : w'.cell? ⟨w.heap.size, 0, none⟩ = some (.int .i64 k) ∧ w'.cell? ⟨w.heap.size, 1, none⟩ = some (.int .i64 t) ∧ w'.cell? ⟨w.heap.size, 2, none⟩ = some (.string ⟨v.toArray⟩) ∧ w'.cell? ⟨w.heap.size + 1, 0, none⟩ = some (.int .i64 xt) ∧ w'.cell? ⟨w.heap.size + 1, 1, none⟩ = some (.string ⟨xa.toArray⟩) ∧ w'.cell? ⟨w.heap.size + 1, 2, none⟩ = some (.slice ua tags.length uc) ∧ PM w k t v xt xa ua uc tags w') : PM w k t v xt xa ua uc tags w' := s.2.2.2.2.2.2
theorem PM.all {w : World} {k t : Int} {v : Bs} {xt : Int} {xa : Bs} {ua : Option Addr} {uc : Nat} {tags : List Bs} {w' : World} (s : PM w k t v xt xa ua uc tags w') : w'.cell? ⟨w.heap.size, 0, none⟩ = some (.int .i64 k) ∧ w'.cell? ⟨w.heap.size, 1, none⟩ = some (.int .i64 t) ∧ w'.cell? ⟨w.heap.size, 2, none⟩ = some (.string ⟨v.toArray⟩) ∧ w'.cell? ⟨w.heap.size + 1, 0, none⟩ = some (.int .i64 xt) ∧ w'.cell? ⟨w.heap.size + 1, 1, none⟩ = some (.string ⟨xa.toArray⟩) ∧ w'.cell? ⟨w.heap.size + 1, 2, none⟩ = some (.slice ua tags.length uc) ∧ PM w k t v xt xa ua uc tags w' := ⟨s.box.facts.1.1, s.box.facts.1.2.1, s.box.facts.1.2.2, s.box2.facts.1.1, s.box2.facts.1.2.1, s.box2.facts.1.2.2, s⟩
theorem pm_new (w : World) (k t : Int) (v : Bs) (xt : Int) (xa : Bs) (ua : Option Addr) (uc : Nat) (tags : List Bs) (hu : StrsV w (.slice ua tags.length uc) tags) : PM w k t v xt xa ua uc tags ((w.alloc (.cells #[.int .i64 k, .int .i64 t, .string ⟨v.toArray⟩] 23)).alloc (.cells #[.int .i64 xt, .string ⟨xa.toArray⟩, (.slice ua tags.length uc)] 26)) := by
  have h2 := box3_new (w.alloc (.cells #[.int .i64 k, .int .i64 t, .string ⟨v.toArray⟩] 23)) 26 (.int .i64 xt) (.string ⟨xa.toArray⟩) (.slice ua tags.length uc)
  rw [show (w.alloc (.cells #[.int .i64 k, .int .i64 t, .string ⟨v.toArray⟩] 23)).heap.size = w.heap.size + 1 by simp] at h2
  have hb : Below w.heap.size w ((w.alloc (.cells #[.int .i64 k, .int .i64 t, .string ⟨v.toArray⟩] 23)).alloc (.cells #[.int .i64 xt, .string ⟨xa.toArray⟩, (.slice ua tags.length uc)] 26)) := ((Below.refl _ _).alloc (Nat.le_refl _) _).alloc (by simp) _
  exact ⟨hb, (box3_new w 23 _ _ _).alloc _, h2, hu.below hb⟩
theorem strs_keep {w1 w2 : World} {u : Value} {xs : List Bs} {N : Nat} (hb : Below N w1 w2) (hN : N = w1.heap.size) (s : StrsV w1 u xs) : StrsV w2 u xs := s.below (hN ▸ hb)
theorem strs_drew {w1 : World} {u : Value} {xs : List Bs} (s : StrsV w1 u xs) : StrsV w1.drew u xs := s.drewN 1

theorem walk_large1 (k t : Int) (v : Bs) (xt : Int) (xa : Bs) (ua : Option Addr) (uc : Nat) (tags : List Bs) (w : World) (hr : Ready w) (hw : WordsAt w) (hu : StrsV w (.slice ua tags.length uc) tags) (hul : tags.length ≤ 9223372036854775807) (hl : ¬ v.length ≤ 1500) :
    Calls Tryz.prog 3 #[.agg #[.int .i64 k, .int .i64 t, .string ⟨v.toArray⟩], .agg #[.int .i64 xt, .string ⟨xa.toArray⟩, (.slice ua tags.length uc)]] w fun e w' => e = .returned (.bool true) ∧ Below w.heap.size w w' := by
  have hp : PM w k t v xt xa ua uc tags ((w.alloc (.cells #[.int .i64 k, .int .i64 t, .string ⟨v.toArray⟩] 23)).alloc (.cells #[.int .i64 xt, .string ⟨xa.toArray⟩, (.slice ua tags.length uc)] 26)) := pm_new w k t v xt xa ua uc tags hu
  have HP := Lib.hid hp
  have HR := Lib.hid (hr.below hp.bel)
  have HW := Lib.hid (hw.below hp.bel)
  have HLa := Lib.hid (decide_eq_false hl)
  clear hl
  go_enter Tryz.func3, Tryz.ntmps3
  go_wp2_with fail
  refine (awake36_any _ HR.out HW.out).mono ?_
  rintro e w1 ⟨rfl, hb1⟩
  have hP1 := PM.keep hb1 rfl HP.out
  have HP1 := Lib.hid hP1
  obtain ⟨⟨c0, c1, c2⟩, _⟩ := hP1.box.facts
  obtain ⟨⟨d0, d1, d2⟩, _⟩ := hP1.box2.facts
  clear hb1 hP1
  go_wp2_with (first | (go_at_call 7; refine (small_any v _).mono ?_; rintro e w2 ⟨rfl, rfl⟩; rw [HLa.out]) | (go_at_call 6; refine (awake36_any _ (hr.below HP1.out.bel) (hw.below HP1.out.bel)).mono ?_; rintro e w3 ⟨rfl, hb3⟩))
  go_ret
  exact ⟨rfl, HP1.out.bel.trans (hb3.mono HP1.out.bel.size)⟩

theorem walk_large2 (k t : Int) (v : Bs) (xt : Int) (xa : Bs) (ua : Option Addr) (uc : Nat) (tags : List Bs) (w : World) (hr : Ready w) (hw : WordsAt w) (hu : StrsV w (.slice ua tags.length uc) tags) (hul : tags.length ≤ 9223372036854775807) (hla : v.length ≤ 1500) (hl : fitsB xa tags = false) :
    Calls Tryz.prog 3 #[.agg #[.int .i64 k, .int .i64 t, .string ⟨v.toArray⟩], .agg #[.int .i64 xt, .string ⟨xa.toArray⟩, (.slice ua tags.length uc)]] w fun e w' => e = .returned (.bool true) ∧ Below w.heap.size w w' := by
  have hp : PM w k t v xt xa ua uc tags ((w.alloc (.cells #[.int .i64 k, .int .i64 t, .string ⟨v.toArray⟩] 23)).alloc (.cells #[.int .i64 xt, .string ⟨xa.toArray⟩, (.slice ua tags.length uc)] 26)) := pm_new w k t v xt xa ua uc tags hu
  have HP := Lib.hid hp
  have HR := Lib.hid (hr.below hp.bel)
  have HW := Lib.hid (hw.below hp.bel)
  have HLa := Lib.hid (decide_eq_true hla)
  have HLb := Lib.hid hl
  clear hl hla
  go_enter Tryz.func3, Tryz.ntmps3
  go_wp2_with fail
  refine (awake36_any _ HR.out HW.out).mono ?_
  rintro e w1 ⟨rfl, hb1⟩
  have hP1 := PM.keep hb1 rfl HP.out
  have HP1 := Lib.hid hP1
  obtain ⟨⟨c0, c1, c2⟩, _⟩ := hP1.box.facts
  obtain ⟨⟨d0, d1, d2⟩, _⟩ := hP1.box2.facts
  clear hb1 hP1
  go_wp2_with (first | (go_at_call 7; refine (small_any v _).mono ?_; rintro e w2 ⟨rfl, rfl⟩; rw [HLa.out]) | (go_at_call 8; refine (fits_any xt xa _ tags _ HP1.out.str hul).mono ?_; rintro e w2 ⟨rfl, hb2⟩; rw [HLb.out]; have HP2 := Lib.hid (PM.keep hb2 rfl HP1.out); clear c0 c1 c2 d0 d1 d2 hb2) | (go_at_call 6; refine (awake36_any _ (hr.below HP2.out.bel) (hw.below HP2.out.bel)).mono ?_; rintro e w3 ⟨rfl, hb3⟩))
  go_ret
  exact ⟨rfl, HP2.out.bel.trans (hb3.mono HP2.out.bel.size)⟩

theorem walk_main (k t : Int) (v : Bs) (xt : Int) (xa : Bs) (ua : Option Addr) (uc : Nat) (tags : List Bs) (w : World) (hr : Ready w) (hw : WordsAt w) (hu : StrsV w (.slice ua tags.length uc) tags) (hul : tags.length ≤ 9223372036854775807) (hla : v.length ≤ 1500) (hl : fitsB xa tags = true) :
    Calls Tryz.prog 3 #[.agg #[.int .i64 k, .int .i64 t, .string ⟨v.toArray⟩], .agg #[.int .i64 xt, .string ⟨xa.toArray⟩, (.slice ua tags.length uc)]] w fun e w' => e = .returned (.bool true) ∧ Below w.heap.size w w' := by
  have hp : PM w k t v xt xa ua uc tags ((w.alloc (.cells #[.int .i64 k, .int .i64 t, .string ⟨v.toArray⟩] 23)).alloc (.cells #[.int .i64 xt, .string ⟨xa.toArray⟩, (.slice ua tags.length uc)] 26)) := pm_new w k t v xt xa ua uc tags hu
  have HP := Lib.hid hp
  have HR := Lib.hid (hr.below hp.bel)
  have HW := Lib.hid (hw.below hp.bel)
  have HLa := Lib.hid (decide_eq_true hla)
  have HLb := Lib.hid hl
  have HRA : Hid (∀ w', Below w.heap.size w w' → Ready w') := Lib.hid fun w' hb => hr.below hb
  have hl1 : v.length ≤ 134217728 := by omega
  have hl2 : xa.length ≤ 134217728 := by have := (fitsB_true hl).2.2; omega
  have hl3 : tags.length ≤ 1099511627776 := by have := (fitsB_true hl).2.1; omega
  clear hp hl hu
  go_enter Tryz.func3, Tryz.ntmps3
  go_wp2_with fail
  refine (awake36_any _ HR.out HW.out).mono ?_
  rintro e w1 ⟨rfl, hb1⟩
  have hP1 := PM.keep hb1 rfl HP.out
  have HP1 := Lib.hid hP1
  obtain ⟨⟨c0, c1, c2⟩, _⟩ := hP1.box.facts
  obtain ⟨⟨d0, d1, d2⟩, _⟩ := hP1.box2.facts
  clear hb1 hP1
  go_wp2_with (first | (go_at_call 7; refine (small_any v _).mono ?_; rintro e w2 ⟨rfl, rfl⟩; rw [HLa.out]) | (go_at_call 8; refine (fits_any xt xa _ tags _ HP1.out.str hul).mono ?_; rintro e w2 ⟨rfl, hb2⟩; rw [HLb.out]; have HP2 := Lib.hid (PM.keep hb2 rfl HP1.out); clear c0 c1 c2 d0 d1 d2 hb2))
  have hP2 := HP2.out
  clear HP1 HP2
  go_region_held3 (fun w' => w'.cell? ⟨w.heap.size, 0, none⟩ = some (.int .i64 k) ∧ w'.cell? ⟨w.heap.size, 1, none⟩ = some (.int .i64 t) ∧ w'.cell? ⟨w.heap.size, 2, none⟩ = some (.string ⟨v.toArray⟩) ∧ w'.cell? ⟨w.heap.size + 1, 0, none⟩ = some (.int .i64 xt) ∧ w'.cell? ⟨w.heap.size + 1, 1, none⟩ = some (.string ⟨xa.toArray⟩) ∧ w'.cell? ⟨w.heap.size + 1, 2, none⟩ = some (.slice ua tags.length uc) ∧ PM w k t v xt xa ua uc tags w') ((refine PM.all ?_; (repeat (first | assumption | (refine PM.of ?_; assumption) | (with_reducible refine PM.drew ?_) | (with_reducible refine PM.newer ?_ _) | (with_reducible refine PM.keep hb9 rfl ?_)))))
    ((first
      | (go_at_call 10; with_reducible refine (of36_any ⟨k, t, v⟩ _).mono ?_; rintro e w9 ⟨rfl, hb9⟩; (try replace hsv := strs_keep hb9 rfl (by repeat (first | assumption | (with_reducible refine strs_drew ?_)))))
      | (go_at_call 9; with_reducible refine (match_any ⟨k, t, v⟩ ⟨xt, xa, tags⟩ _ _ ?_ hl1 hl2 (by repeat (first | assumption | (with_reducible refine strs_drew ?_))) hul).mono ?_; exact HRA.out _ (PM.bel (w := w) (k := k) (t := t) (v := v) (xt := xt) (xa := xa) (ua := ua) (uc := uc) (tags := tags) (by (repeat (first | assumption | (refine PM.of ?_; assumption) | (with_reducible refine PM.drew ?_) | (with_reducible refine PM.newer ?_ _) | (with_reducible refine PM.keep hb9 rfl ?_))))); rintro e w9 ⟨rfl, hb9⟩)
      | (go_at_call 12; with_reducible refine (refMatch_any ⟨k, t, v⟩ ⟨xt, xa, tags⟩ _ _ hl1 hl2 (PM.str (w := w) (k := k) (t := t) (v := v) (xt := xt) (xa := xa) (ua := ua) (uc := uc) (tags := tags) (by (repeat (first | assumption | (refine PM.of ?_; assumption) | (with_reducible refine PM.drew ?_) | (with_reducible refine PM.newer ?_ _) | (with_reducible refine PM.keep hb9 rfl ?_))))) hul).mono ?_; rintro e w9 ⟨rfl, hb9⟩; (try replace hsv := strs_keep hb9 rfl (by repeat (first | assumption | (with_reducible refine strs_drew ?_)))))
      | (go_at_call 11; with_reducible refine (item36_any xt xa _ tags _ (PM.str (w := w) (k := k) (t := t) (v := v) (xt := xt) (xa := xa) (ua := ua) (uc := uc) (tags := tags) ?_) hl3).mono ?_; (repeat (first | assumption | (refine PM.of ?_; assumption) | (with_reducible refine PM.drew ?_) | (with_reducible refine PM.newer ?_ _) | (with_reducible refine PM.keep hb9 rfl ?_))); rintro e w9 ⟨nv, rfl, hsv, hb9⟩)))
  all_goals
    go_wp2_with fail
    go_ret
    refine ⟨ret_bool' (by simp), PM.bel (w := w) (k := k) (t := t) (v := v) (xt := xt) (xa := xa) (ua := ua) (uc := uc) (tags := tags) ?_⟩
    (repeat (first | assumption | (refine PM.of ?_; assumption) | (with_reducible refine PM.drew ?_) | (with_reducible refine PM.newer ?_ _) | (with_reducible refine PM.keep hb9 rfl ?_)))

theorem walk (p : Pg) (x : It) (u : Value) (w : World) (hr : Ready w) (hw : WordsAt w) (h1 : p.value.length ≤ 140737488351232) (hu : StrsV w u x.tags) (hul : x.tags.length ≤ 9223372036854775807) :
    Calls Tryz.prog 3 #[pgV p, itV x.tenant x.addr u] w fun e w' => e = .returned (.bool true) ∧ Below w.heap.size w w' := by
  obtain ⟨k, t, v⟩ := p
  obtain ⟨xt, xa, tags⟩ := x
  simp only at h1 hu hul
  obtain ⟨ua, uc, rfl⟩ := hu.form
  by_cases hla : v.length ≤ 1500
  · cases hl : fitsB xa tags with
    | true => exact walk_main k t v xt xa ua uc tags w hr hw hu hul hla hl
    | false => exact walk_large2 k t v xt xa ua uc tags w hr hw hu hul hla hl
  · exact walk_large1 k t v xt xa ua uc tags w hr hw hu hul hla

/-- What the walk gives, for every argument. -/
theorem contract (H : Type) (enc : TypeId × Value → H) (W : World) (base : Nat) (args : Array Value) (ds gs : List (DataW H)) (before : List MemPlace)
    (hval : ∀ (j : Nat) t v, Tryz.f3.params[j]? = some t → args[j]? = some v → Value.okWide Tryz.prog W .any base t v)
    (hW : DataW.Whole enc Tryz.prog Tryz.f3.params.toList Rows.purgeMatchesSpec.vars false W args.toList ds gs before) (hsz : (DataW.weightsEach Tryz.prog Tryz.f3.params.toList (ds ++ gs)).all (· ≤ reachBytes) = true) (hr : Ready W) (hw : A1.WordsAt W) :
    Calls Tryz.prog 3 args W fun e W' => ∃ v, e = .returned v ∧ Rows.purgeMatchesSpec.post enc Tryz.prog Tryz.f3 false true false false W args v W' := by
  have hW' := hW
  have hlt := fun p hp => hW.lt p hp
  obtain ⟨p, q, hA0, hV, rfl, hfz, hnd⟩ := hW
  have hA : DataW.TrodAll enc Tryz.prog W 0 (fun _ => true) true Tryz.f3.params.toList args.toList ds p := hA0
  have hA1 := hA
  obtain ⟨rfl, rfl⟩ := trodVars_none hV
  rw [Tryz.params3] at hA hval
  obtain ⟨v0, vs0, d0, ds0, p0, q0, hargs, rfl, rfl, h0, r0⟩ := trodAll_cons hA
  obtain ⟨v1, vs1, d1, ds1, p1, q1, rfl, rfl, rfl, h1, r1⟩ := trodAll_cons r0
  obtain ⟨rfl, rfl, rfl⟩ := trodAll_nil r1
  obtain rfl : args = #[v0, v1] := by cases args; simp_all
  have fin : ∀ W', Below W.heap.size W W' → Rows.purgeMatchesSpec.post enc Tryz.prog Tryz.f3 false true false false W #[v0, v1] (.bool true) W' := fun W' hb => by
    simp only [List.append_nil] at hA1 hW' hlt
    exact ⟨_, _, _, [], _, [], hW', trodAll_cons_mk (shut_bool Tryz.underlying4 _) trodAll_mk0, Fr.trodAll_below (by kernel_rfl) _ (by kernel_rfl) hA1 hb hlt, rfl, hb.frame _, fun h => by cases h⟩
  clear hW' hA0 hA1 hlt
  rw [Tryz.params3, List.append_nil] at hsz
  obtain ⟨c0, c1, c2, y0, y1, y2, m, rfl, rfl, rfl, hy0, hy1, hy2⟩ := Go.Joins.open_agg3 Tryz.underlying23 (by kernel_rfl) (show Tryz.prog.cellsOf 23 = 3 by kernel_rfl) (hval 0 23 v0 rfl rfl) h0
  obtain ⟨n0, e0, rfl, _⟩ := DataW.trod_int Tryz.underlying3 hy0
  obtain ⟨t0, e1, rfl, _⟩ := DataW.trod_int Tryz.underlying3 hy1
  obtain ⟨s0, e2, rfl, _⟩ := DataW.trod_string Tryz.underlying9 hy2
  simp only [List.cons.injEq, and_true] at e0 e1 e2
  subst e0 e1 e2
  obtain ⟨⟨l0⟩⟩ := s0
  have z0 : l0.length ≤ 140737488351232 := Op.sized_pg hsz (j := 0) rfl rfl Tryz.underlying23
  obtain ⟨c0, c1, u1, y0, y1, y2, m, rfl, rfl, rfl, hy0, hy1, hy2⟩ := Go.Joins.open_agg3 Tryz.underlying26 (by kernel_rfl) (show Tryz.prog.cellsOf 26 = 3 by kernel_rfl) (hval 1 26 v1 rfl rfl) h1
  obtain ⟨n1, e0, rfl, _⟩ := DataW.trod_int Tryz.underlying3 hy0
  obtain ⟨s1, e1, rfl, _⟩ := DataW.trod_string Tryz.underlying9 hy1
  obtain ⟨g1, hg1, hgl1⟩ := Op.strs_trod hy2
  simp only [List.cons.injEq, and_true] at e0 e1
  subst e0 e1
  obtain ⟨⟨l1⟩⟩ := s1
  refine  (walk ⟨n0, t0, l0⟩ ⟨n1, l1, g1⟩ u1 W hr hw z0 hg1 hgl1).mono fun e W' ⟨he, hb⟩ => ?_
  subst he
  exact ⟨_, rfl, fin W' hb⟩

theorem laid_met (os : Os) : laidMet Tryz.prog Rows.purgeMatchesRow.laid ((Fr.laidW Rows.purgeMatchesRow.laid os).forCall (fun _ _ => 0) ⟨#[], #[.agg #[.int .i64 0, .int .i64 0, .string ⟨#[]⟩], .agg #[.int .i64 0, .string ⟨#[]⟩, .slice none 0 0]], []⟩).memory :=
  laidMet_of_run' 8 (by kernel_rfl) (by kernel_rfl)
theorem reads (os : Os) {H : Type} (enc : TypeId × Value → H) : ∃ places, DataW.whole enc Tryz.prog ((Fr.laidW Rows.purgeMatchesRow.laid os).forCall (fun _ _ => 0) ⟨#[], #[.agg #[.int .i64 0, .int .i64 0, .string ⟨#[]⟩], .agg #[.int .i64 0, .string ⟨#[]⟩, .slice none 0 0]], []⟩).memory Tryz.f3.params.toList Rows.purgeMatchesSpec.vars false (#[.agg #[.int .i64 0, .int .i64 0, .string ⟨#[]⟩], .agg #[.int .i64 0, .string ⟨#[]⟩, .slice none 0 0]] : Array Value).toList 8 = some ([.agg [.lit (.int .i64 0), .lit (.int .i64 0), .lit (.string [])], .agg [.lit (.int .i64 0), .lit (.string []), .nil]], [], places) :=
  ⟨[], by kernel_rfl⟩

theorem lifted (os : Os) (started : os.Started) (H : Type) (enc : TypeId × Value → H) (F : Stop.Interp) :
    ReturnsInHanded {} Tryz.checked os 3 .any ((OpenSpec.ofChange Rows.purgeMatchesSpec).preRow enc Tryz.prog Tryz.f3 Rows.purgeMatchesRow.domain false Rows.purgeMatchesRow.laid) (((OpenSpec.ofChange Rows.purgeMatchesSpec).at F).post enc Tryz.prog Tryz.f3 false true false false) := by
  obtain ⟨places, hx⟩ := reads os enc
  refine returnsInHanded_of_row (C := Tryz.checked) (s := OpenSpec.ofChange Rows.purgeMatchesSpec) Fr.own started (by kernel_rfl) Tryz.func3
    (witness_row_at (enc := enc) (C := Tryz.checked) false (Fr.laidW Rows.purgeMatchesRow.laid os) #[.agg #[.int .i64 0, .int .i64 0, .string ⟨#[]⟩], .agg #[.int .i64 0, .string ⟨#[]⟩, .slice none 0 0]] rfl (by kernel_rfl) (by kernel_rfl) (by kernel_rfl)
      (OpenSpec.preRow_of_cond 8 hx (by kernel_rfl) (fun k hk => by cases hk) (by kernel_rfl) (laid_met os))) ?_
  intro W base args ds gs before hval hW _ hcond hsz hlaid hsh _
  exact contract H enc W base args ds gs before hval hW (by have h9 : (DataW.weightsEach Tryz.prog (Tryz.f3.params.toList ++ []) (ds ++ gs)).all (· ≤ reachBytes) = true := hsz; rw [List.append_nil] at h9; exact h9) (Fr.ready hsh) (Fr.words_laid hlaid (by kernel_rfl) (by repeat first | exact List.mem_cons_self .. | apply List.mem_cons_of_mem))

theorem k_0 : Rows.purgeMatchesRow.wf (OpenSpec.ofChange (OpenSpec.ofChange Rows.purgeMatchesSpec).bare) = true := by kernel_rfl
theorem k_1 : laidOutB Tryz.prog = true := Fr.sf_laidOut
theorem k_2 : mapsRowed Tryz.prog = true := Fr.sf_mapsRowed
theorem k_3 : Tryz.f3.params.all (Tryz.prog.readableRec ·) = true := by kernel_rfl
theorem k_4 : namedTie Tryz.prog Rows.purgeMatchesRow.named (OpenSpec.ofChange Rows.purgeMatchesSpec).bare.vars = true := by kernel_rfl
theorem k_5 : (Rows.purgeMatchesRow.stops == []) = true := by kernel_rfl
theorem k_6 : (Tryz.prog.stops == []) = true := Fr.sf_stops
theorem k_7 : (Rows.purgeMatchesRow.knobs == []) = true := by kernel_rfl
theorem k_8 : (Tryz.prog.stopKnobs == []) = true := Fr.sf_stopKnobs
theorem k_9 : (Rows.purgeMatchesRow.inPlace == Tryz.prog.inPlace 3) = true := by kernel_rfl
theorem k_10 : (Rows.purgeMatchesRow.unfollowed == Tryz.prog.unfollowed 3) = true := by kernel_rfl
theorem k_11 : (Rows.purgeMatchesRow.recurses == Tryz.prog.recurses 3) = true := by kernel_rfl
theorem k_12 : (Rows.purgeMatchesRow.named == Tryz.prog.varsNamed 3) = true := by kernel_rfl
theorem k_13 : (Rows.purgeMatchesRow.maps == (Tryz.f3.params.toList ++ (OpenSpec.ofChange Rows.purgeMatchesSpec).bare.plain.varTypes Tryz.prog).any (Tryz.prog.mapsRec ·)) = true := by kernel_rfl
theorem k_14 : (Rows.purgeMatchesRow.ifaces == (Tryz.f3.params.toList ++ (OpenSpec.ofChange Rows.purgeMatchesSpec).bare.plain.varTypes Tryz.prog).any (Tryz.prog.ifacesRec ·)) = true := by kernel_rfl
theorem k_15 : (Rows.purgeMatchesRow.mapsOut == Tryz.prog.mapsAmong Tryz.f3.resultTypes.toList) = true := by kernel_rfl
theorem k_16 : (Rows.purgeMatchesRow.loops == (Tryz.f3.params.toList ++ (OpenSpec.ofChange Rows.purgeMatchesSpec).bare.plain.varTypes Tryz.prog).any (Tryz.prog.loopsFrom ·)) = true := by kernel_rfl
theorem k_17 : (Rows.purgeMatchesRow.wideKeys == (Tryz.f3.params.toList ++ (OpenSpec.ofChange Rows.purgeMatchesSpec).bare.plain.varTypes Tryz.prog ++ Tryz.f3.resultTypes.toList).any (Tryz.prog.wideKeysFrom ·)) = true := by kernel_rfl
theorem k_18 : (OpenSpec.ofChange Rows.purgeMatchesSpec).bare.vars.all (Tryz.prog.varReadable ·) = true := by kernel_rfl
theorem k_19 : Tryz.f3.resultTypes.all (fun t => Tryz.prog.readableRec t && decide (t < Tryz.prog.types.size)) = true := by kernel_rfl
theorem k_20 : (Rows.purgeMatchesRow.ifacesOut == Tryz.f3.resultTypes.toList.any (Tryz.prog.ifacesRec ·)) = true := by kernel_rfl
theorem k_21 : (Rows.purgeMatchesRow.loopsOut == Tryz.f3.resultTypes.toList.any (Tryz.prog.loopsFrom ·)) = true := by kernel_rfl
theorem k_22 : (Rows.purgeMatchesRow.plainKeys == Tryz.prog.plainKeys) = true := Fr.sf_plainKeys
theorem k_23 : Rows.purgeMatchesRow.shortTexts.isNone = true := by kernel_rfl
theorem k_24 : Tryz.prog.stopsHeard = true := Fr.sf_heard
theorem k_25 : Tryz.prog.mayEnter = true := Fr.sf_mayEnter
theorem k_26 : (Rows.purgeMatchesRow.lifted == Tryz.prog.liftsFinal) = true := Fr.sf_lifted
theorem k_27 : (Tryz.prog.make == some Rows.purgeMatchesRow.make) = true := Fr.sf_make
theorem k_28 : (Rows.purgeMatchesRow.kinds == (if Rows.purgeMatchesRow.domain.isEmpty then [] else Tryz.f3.params.toList.map fun t => match Tryz.prog.underlying t with | some (.int k) => some k | _ => none)) = true := by kernel_rfl
theorem k_29 : (Rows.purgeMatchesRow.pinned == Rows.purgeMatchesRow.pinnedBy) = true := by kernel_rfl
theorem k_30 : (Rows.purgeMatchesRow.veiled == (Tryz.f3.params.toList ++ (OpenSpec.ofChange Rows.purgeMatchesSpec).bare.plain.varTypes Tryz.prog ++ Tryz.f3.resultTypes.toList).any (Tryz.prog.veiledRec ·)) = true := by kernel_rfl
theorem k_31 : Rows.purgeMatchesRow.veiledFits Tryz.prog Tryz.f3.params.toList (Tryz.f3.params.toList ++ (OpenSpec.ofChange Rows.purgeMatchesSpec).bare.plain.varTypes Tryz.prog ++ Tryz.f3.resultTypes.toList) = true := by kernel_rfl
theorem closed : joinedFacts Tryz.prog 3 Tryz.f3 (OpenSpec.ofChange Rows.purgeMatchesSpec).bare Rows.purgeMatchesRow = true := Op.andT (Op.andT (Op.andT (Op.andT (Op.andT (Op.andT (Op.andT (Op.andT (Op.andT (Op.andT (Op.andT (Op.andT (Op.andT (Op.andT (Op.andT (Op.andT (Op.andT (Op.andT (Op.andT (Op.andT (Op.andT (Op.andT (Op.andT (Op.andT (Op.andT (Op.andT (Op.andT (Op.andT (Op.andT (Op.andT (Op.andT (k_0) k_1) k_2) k_3) k_4) k_5) k_6) k_7) k_8) k_9) k_10) k_11) k_12) k_13) k_14) k_15) k_16) k_17) k_18) k_19) k_20) k_21) k_22) k_23) k_24) k_25) k_26) k_27) k_28) k_29) k_30) k_31

theorem said : Rows.PurgeMatchesSaid :=
  OpenClaim.holds_of_cond 3 Tryz.f3 rfl rfl rfl rfl rfl rfl rfl ⟨rfl, rfl, rfl, rfl, rfl⟩ rfl rfl rfl rfl rfl (by kernel_rfl) Tryz.func3 closed
    (of_decide_eq_true (by kernel_rfl)) (by unfold Func.isWrapper; first | (rw [if_pos (by decide +kernel)]; kernel_rfl) | (rw [if_neg (by decide +kernel)]; exact ⟨rfl, rfl⟩))
    (fun os started H enc _ F => by rw [OpenClaim.pre_eq_preRow]; exact lifted os started H enc F)

theorem plain (f : FuncId) (fn : Func) (hf : Tryz.pinned.checked.prog.funcNamed "quayside/quaysidelaw36.PurgeMatches" = some f) (hfn : Tryz.pinned.checked.prog.funcs[f]? = some fn) :
    true = Tryz.pinned.checked.prog.looks [] ∧ ∀ (j : Nat) t, fn.params[j]? = some t → Tryz.pinned.checked.prog.wantsStandIn t = false := by
  obtain rfl : f = 3 := Option.some.inj ((show Tryz.prog.funcNamed "quayside/quaysidelaw36.PurgeMatches" = some 3 by kernel_rfl).symm.trans hf) |>.symm
  obtain rfl : fn = Tryz.f3 := (Option.some.inj (Tryz.func3.symm.trans hfn)).symm
  refine ⟨by kernel_rfl, fun j t ht => ?_⟩
  rw [Tryz.params3] at ht
  have hm : t ∈ [23, 26] := by simpa using Array.mem_of_getElem? ht
  have hall : ([23, 26].all fun u => !Tryz.prog.wantsStandIn u) = true := by kernel_rfl
  exact (show Tryz.prog.wantsStandIn t = false by simpa using List.all_eq_true.1 hall t hm)

theorem proved : Rows.PurgeMatchesCardSaid :=
  Claim7.holds_tied_plain_at .later [] _ _ _ _ said (fun _ h => by cases h) (by kernel_rfl) (fun _ h => by cases h) purgeMatches_row_tie rfl ⟨rfl, rfl⟩ (by kernel_rfl) rfl plain (by kernel_rfl)
#print axioms proved
end Go.Proofs.YtbnjajpencahfaaGreatDoor.lawPurgeMatches
