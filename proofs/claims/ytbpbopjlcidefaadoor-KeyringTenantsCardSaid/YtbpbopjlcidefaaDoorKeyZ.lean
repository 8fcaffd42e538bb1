/- Contract: the keyring laws' is. Conditions: at most 98 keys. -/
import Derived.Test.YtbpbopjlcidefaaDoorKeyY
import Derived.Deep.RegionHeld3
import Derived.OrdersHeld
namespace Go.Proofs.YtbpbopjlcidefaaDoor
open Go.RowKit Pl Ad
attribute [local go_sem] ba_get ba_append ba_extract_end ba_extract_zero ba_extract
set_option maxRecDepth 100000
set_option maxHeartbeats 4000000
set_option linter.unusedVariables false
set_option linter.unusedSimpArgs false
namespace Kr
/-- The ring's keys are those of the reference. -/
def Match (E : Nat → List Ent) (ml : KL) : Prop := ∀ t : Int, keysOf E t = per ml t
theorem match_len {E : Nat → List Ent} {ml : KL} (h : Match E ml) (t : Int) : (tlK E t).length ≤ ml.length := by
  have h1 := per_len ml t
  rw [← h t] at h1
  unfold keysOf at h1
  rwa [List.length_map] at h1
theorem valid_same {E : Nat → List Ent} {ml : KL} (h : Match E ml) (t n : Int) (id : Bs) : validE (tlK E t) id n = validR ml t id n := by
  rw [validE_keys]
  show validL (keysOf E t) id n = _
  rw [h t]
  unfold validL validR
  cases hf : findR ml t id with
  | none =>
    have h1 := findR_none hf
    have : (per ml t).find? (fun k => k.id == id) = none := by
      rw [List.find?_eq_none]
      unfold hasId at h1
      rw [List.any_eq_false] at h1
      exact fun k hk => h1 k hk
    rw [this]
  | some i =>
    obtain ⟨k, h1, _, _, h4⟩ := findR_some hf
    rw [h4]
    simp only [h1]
theorem strsK_own {w : World} {B : Nat} {u : Value} {l : List Bs} (h : OwnWin w B 9 1 u l.length (svals l)) : A1.StrsV w u l := by
  rcases Nat.eq_zero_or_pos l.length with h0 | h0
  · obtain rfl := List.eq_nil_of_length_eq_zero h0
    rcases h.2 with ⟨h1, _⟩ | ⟨g, o, cap, cur, h1, _⟩
    · exact .inl ⟨rfl, .inl h1⟩
    · exact .inl ⟨rfl, .inr ⟨_, _, h1⟩⟩
  · obtain ⟨g, o, c, e1, h1, _, _, h2, h3⟩ := h.cells h0
    exact .inr ⟨g, o, c, e1, h1, h2, fun k x hx => h3 k _ (by simp [svals, hx])⟩
/-- What the last statement of is reads: the ring, the list, the act. -/
structure IsS (B R C : Nat) (V : Nat → Value) (E : Nat → List Ent) (v : Value) (ml : KL) (w : World) : Prop where
  ring : RingAt w B R V E
  ref : RefAt w C v ml
theorem IsS.older {B R C : Nat} {V : Nat → Value} {E : Nat → List Ent} {v : Value} {ml : KL} {w w' : World} (h : IsS B R C V E v ml w) (hb : Below w.heap.size w w') : IsS B R C V E v ml w' := ⟨h.ring.older hb, h.ref.older hb⟩
theorem num_errC (c : Int) (w : World) : Calls Tryd.prog 16 #[errC c] w fun e w' => e = .returned (.int .i64 c) ∧ w = w' := by
  by_cases h : c = 0
  · rw [errC_ok h, h]; exact A1.num_nil w
  · rw [errC_err rfl h]; exact A1.num_err _ w
theorem is_none (B R C : Nat) (V : Nat → Value) (E : Nat → List Ent) (v : Value) (ml : KL) (kd tn s : Nat) (id : Bs) (x y z at_ : Int) (w : World) (hr : RingAt w B R V E) (hv : RefAt w C v ml) (hm : Match E ml) (hl : ml.length ≤ 97) (ht : tn < 256) (hs : ∀ t, t < 16 → ∀ e ∈ E t, e.key.sec.length ≤ 1000000) (hn : signR ml (tenB tn) at_ = none) :
    Calls Tryd.prog 21 #[ptrK R, v, actV kd tn s id x y z at_] w fun e w' => e = .returned (.bool true) ∧ Below w.heap.size w w' := by
  have hb0 := (Below.refl w.heap.size w).alloc (Nat.le_refl _) (.cells #[.int .u8 (kd : Int), .int .u8 (tn : Int), .int .u8 (s : Int), .string ⟨id.toArray⟩, .int .i64 x, .int .i64 y, .int .i64 z, .int .i64 at_] 46)
  have HA := Lib.hid (Bx.new w 46 #[.int .u8 (kd : Int), .int .u8 (tn : Int), .int .u8 (s : Int), .string ⟨id.toArray⟩, .int .i64 x, .int .i64 y, .int .i64 z, .int .i64 at_])
  have HS := Lib.hid (show IsS B R C V E v ml w from ⟨hr, hv⟩)
  have HS0 := Lib.hid ((show IsS B R C V E v ml w from ⟨hr, hv⟩).older hb0)
  have HB := Lib.hid hb0
  have HM := Lib.hid hm
  obtain ⟨va, vc, rfl, _⟩ := hv.slot
  obtain ⟨tt, htt⟩ : ∃ tt, tenB tn = tt := ⟨_, rfl⟩
  have HT := Lib.hid htt
  have htl := match_len hm tt
  clear htt hb0 hr hv hm
  rw [HT.out] at hn
  have HI := Lib.hid (show idxV (signR ml tt at_) = .int .i64 (-1) by rw [hn]; rfl)
  have HN := Lib.hid (show signI (keysOf E tt) at_ = none by rw [HM.out tt]; exact signR_none hn)
  clear hn
  go_enter Tryd.func21, Tryd.ntmps21
  go_wp2_with (first
    | (go_at_call 15; refine (tenant_any kd tn s id x y z at_ _ ht).mono ?_; rw [HT.out]; rintro e w1 ⟨rfl, hb1⟩; have HB1 := Lib.hid (HB.out.trans (hb1.mono HB.out.size)); have HA1 := Lib.hid (HA.out.older hb1); have HS1 := Lib.hid (HS0.out.older hb1); have k3 := HA1.out.cell (i := 3) rfl; have k7 := HA1.out.cell (i := 7) rfl; clear hb1)
    | (go_at_call 11; refine (sign_none B R tt at_ V E _ HS1.out.ring (by omega) HN.out).mono ?_; rintro e w2 ⟨rfl, hb2⟩; have hz2 := hb2.size; have hb2' := hb2.alloc hb2.size (.cells #[.string ⟨#[]⟩, .slice none 0 0, .int .i64 0, .int .i64 0] 32); have HB2 := Lib.hid (HB1.out.trans (hb2'.mono HB1.out.size)); have HA2 := Lib.hid (HA1.out.older hb2'); have HS2 := Lib.hid (HS1.out.older hb2'); have HX2 := Lib.hid (Bx.new w2 32 #[.string ⟨#[]⟩, .slice none 0 0, .int .i64 0, .int .i64 0]); have k3 := HA2.out.cell (i := 3) rfl; have k7 := HA2.out.cell (i := 7) rfl; clear hb2 hb2')
    | (go_at_call 35; refine (refSigning_any C _ ml tt at_ _ HS2.out.ref (by omega)).mono ?_; rw [HI.out]; rintro e w3 ⟨rfl, hb3⟩; have HB3 := Lib.hid (HB2.out.trans (hb3.mono HB2.out.size)); have HA3 := Lib.hid (HA2.out.older hb3); have HS3 := Lib.hid (HS2.out.older hb3); have HX3 := Lib.hid (HX2.out.older hb3); clear hb3))
  go_quiet ((go_at_call 36; exact quiet_eq (A1.is_err 16 _ (by decide))))
  obtain ⟨wA, hw9⟩ : ∃ wz, w3.drewN nq = wz := ⟨_, rfl⟩
  have hbA : Below w3.heap.size w3 wA := by rw [← hw9]; exact below_drewN (Below.refl _ _) _
  rw [hw9]
  have HBA := Lib.hid (HB3.out.trans (hbA.mono HB3.out.size))
  have HAA := Lib.hid (HA3.out.older hbA)
  have HSA := Lib.hid (HS3.out.older hbA)
  have HXA := Lib.hid (HX3.out.older hbA)
  clear hw9 hbA k3 k7
  have x1 := HXA.out.cell (i := 1) rfl
  have k3 := HAA.out.cell (i := 3) rfl
  have k7 := HAA.out.cell (i := 7) rfl
  go_wp2_with fail
  go_loop [54] (fun i => i = .int .i64 0) (fun _ => 0)
  case atStart => rfl
  case round =>
    subst hrel
    go_wp2_with fail
    have hbr := Below.refl wA.heap.size wA
    have HVS := Lib.hid (valid_same HM.out tt at_ id)
    obtain ⟨bv, hbv⟩ : ∃ bv, validR ml tt id at_ = bv := ⟨_, rfl⟩
    have HBV := Lib.hid hbv
    have HIL := Lib.hid (show idsL ((tlK E tt).map Ent.key) = idsL (per ml tt) by show idsL (keysOf E tt) = _; rw [HM.out tt])
    have HLN := Lib.hid (show (tlK E tt).length = (idsL (per ml tt)).length by rw [← HIL.out]; unfold idsL; rw [List.length_mergeSort, List.length_map, List.length_map])
    have hil9 : (idsL (per ml tt)).length ≤ 4294967296 := by have := HLN.out; omega
    clear hbv
    go_region_held3 (fun w' => w'.cell? ⟨w.heap.size, 3, none⟩ = some (.string ⟨id.toArray⟩) ∧ w'.cell? ⟨w.heap.size, 7, none⟩ = some (.int .i64 at_)) (first | go_keep | exact ⟨k3, k7⟩)
      ((first
        | (go_at_call 12; refine (valid_any B R tt at_ id V E _ (HSA.out.ring.older ?_) (by omega)).mono ?_; (first | exact hbw9 | exact (Below.refl _ _).drew); rw [HVS.out, HBV.out]; rintro e w' ⟨rfl, rfl⟩)
        | (go_at_call 38; refine (refValid_any C _ ml tt at_ id _ (HSA.out.ref.older ?_) (by omega)).mono ?_; (first | exact hbw9 | exact (Below.refl _ _).drew); rw [HBV.out]; rintro e w9 ⟨rfl, hb9⟩; (first  | (have hbw9 := ((Below.refl wA.heap.size wA).drew).trans hb9)); have k3 := (HAA.out.older hbw9).cell (i := 3) rfl; have k7 := (HAA.out.older hbw9).cell (i := 7) rfl)
        | (go_at_call 14; refine (ids_any B R tt V E _ (HSA.out.ring.older ?_) (by omega)).mono ?_; (first | exact hbwJ | exact hbwI | exact hbw9 | exact (Below.refl _ _).drew); rw [HIL.out, HLN.out]; rintro e wI ⟨uI, rfl, hoI, hbI⟩; (first | (have hbwI := hbwJ.trans (hbI.mono hbwJ.size)) | (have hbwI := hbw9.trans (hbI.mono hbw9.size)) | (have hbwI := ((Below.refl wA.heap.size wA).drew).trans hbI)); have k3 := (HAA.out.older hbwI).cell (i := 3) rfl; have k7 := (HAA.out.older hbwI).cell (i := 7) rfl; have hsI := strsK_own hoI; try (have hsJ := hsJ.below hbI))
        | (go_at_call 39; refine (refIDs_any C _ ml tt _ (HSA.out.ref.older ?_) (by omega)).mono ?_; (first | exact hbwJ | exact hbwI | exact hbw9 | exact (Below.refl _ _).drew); rintro e wJ ⟨uJ, rfl, hoJ, hbJ⟩; (first | (have hbwJ := hbwI.trans (hbJ.mono hbwI.size)) | (have hbwJ := hbw9.trans (hbJ.mono hbw9.size)) | (have hbwJ := ((Below.refl wA.heap.size wA).drew).trans hbJ)); have k3 := (HAA.out.older hbwJ).cell (i := 3) rfl; have k7 := (HAA.out.older hbwJ).cell (i := 7) rfl; have hsJ := strsK_own hoJ; try (have hsI := hsI.below hbJ))
        | (go_at_call 13; refine (A1.texts_any (idsL (per ml tt)) (idsL (per ml tt)) uI uJ _ hsI hsJ hil9 hil9).mono ?_; rw [decide_eq_true rfl]; rintro e wT ⟨rfl, hbT⟩; (first | (have hbwT := hbwJ.trans (hbT.mono hbwJ.size)) | (have hbwT := hbwI.trans (hbT.mono hbwI.size)) | (have hbwT := ((Below.refl wA.heap.size wA).drew).trans hbT)); have k3 := (HAA.out.older hbwT).cell (i := 3) rfl; have k7 := (HAA.out.older hbwT).cell (i := 7) rfl)))
    all_goals
      go_wp2_with fail
      go_ret
      exact ⟨rfl, HBA.out.trans (hbwT.mono HBA.out.size)⟩
theorem is_some (B R C : Nat) (V : Nat → Value) (E : Nat → List Ent) (v : Value) (ml : KL) (kd tn s : Nat) (id : Bs) (x y z at_ : Int) (w : World) (hr : RingAt w B R V E) (hv : RefAt w C v ml) (hm : Match E ml) (hl : ml.length ≤ 97) (ht : tn < 256) (hs : ∀ t, t < 16 → ∀ e ∈ E t, e.key.sec.length ≤ 1000000) (i : Nat) (hn : signR ml (tenB tn) at_ = some i) :
    Calls Tryd.prog 21 #[ptrK R, v, actV kd tn s id x y z at_] w fun e w' => e = .returned (.bool true) ∧ Below w.heap.size w w' := by
  have hb0 := (Below.refl w.heap.size w).alloc (Nat.le_refl _) (.cells #[.int .u8 (kd : Int), .int .u8 (tn : Int), .int .u8 (s : Int), .string ⟨id.toArray⟩, .int .i64 x, .int .i64 y, .int .i64 z, .int .i64 at_] 46)
  have HA := Lib.hid (Bx.new w 46 #[.int .u8 (kd : Int), .int .u8 (tn : Int), .int .u8 (s : Int), .string ⟨id.toArray⟩, .int .i64 x, .int .i64 y, .int .i64 z, .int .i64 at_])
  have HS := Lib.hid (show IsS B R C V E v ml w from ⟨hr, hv⟩)
  have HS0 := Lib.hid ((show IsS B R C V E v ml w from ⟨hr, hv⟩).older hb0)
  have HB := Lib.hid hb0
  have HM := Lib.hid hm
  obtain ⟨va, vc, rfl, _⟩ := hv.slot
  obtain ⟨tt, htt⟩ : ∃ tt, tenB tn = tt := ⟨_, rfl⟩
  have HT := Lib.hid htt
  have htl := match_len hm tt
  clear htt hb0 hr hv hm
  rw [HT.out] at hn
  have HI := Lib.hid (show idxV (signR ml tt at_) = .int .i64 i by rw [hn]; rfl)
  obtain ⟨key, hmi, hsg, hper⟩ := signR_some hn
  have HN := Lib.hid (show signI (keysOf E tt) at_ = some (cntK ml tt i) by rw [HM.out tt]; exact hsg)
  obtain ⟨e, he, hek⟩ : ∃ e, (tlK E tt)[cntK ml tt i]? = some e ∧ e.key = key := by
    rw [← HM.out tt] at hper
    unfold keysOf at hper
    rw [List.getElem?_map] at hper
    exact Option.map_eq_some_iff.1 hper
  have HE := Lib.hid he
  have HMI := Lib.hid hmi
  have hsl : e.key.sec.length ≤ 1000000 := by
    have h9 := List.mem_of_getElem? he
    unfold tlK at h9
    split at h9
    · exact hs _ (by omega) e h9
    · cases h9
  obtain ⟨blk, sv, key'⟩ := e
  simp only at hek hsl
  subst hek
  have hil := (List.getElem?_eq_some_iff.1 hmi).1
  have hi1 : (0 : Int) ≤ (i : Int) := by omega
  have hi2 : (i : Int) < (ml.length : Int) := by omega
  have hi3 : ¬ (i : Int) < 0 := by omega
  have HSGN : Hid (∀ w', RingAt w' B R V E → Calls Tryd.prog 11 #[ptrK R, .int .i64 tt, .int .i64 at_] w' fun e w2 => ∃ ua uc, e = .returned (.tuple #[keyV key'.id (.slice ua key'.sec.length uc) key'.frm key'.til, .nilIface]) ∧ OwnWin w2 w'.heap.size 5 1 (.slice ua key'.sec.length uc) key'.sec.length (bvals key'.sec) ∧ Below w'.heap.size w' w2) := Lib.hid (fun w' hr => sign_some B R tt at_ V E w' hr (by omega) _ _ HN.out HE.out hsl)
  clear hn hmi hsg hper he
  go_enter Tryd.func21, Tryd.ntmps21
  go_wp2_with (first
    | (go_at_call 15; refine (tenant_any kd tn s id x y z at_ _ ht).mono ?_; rw [HT.out]; rintro e w1 ⟨rfl, hb1⟩; have HB1 := Lib.hid (HB.out.trans (hb1.mono HB.out.size)); have HA1 := Lib.hid (HA.out.older hb1); have HS1 := Lib.hid (HS0.out.older hb1); have k3 := HA1.out.cell (i := 3) rfl; have k7 := HA1.out.cell (i := 7) rfl; clear hb1)
    | (go_at_call 11; refine (HSGN.out _ HS1.out.ring).mono ?_; rintro e w2 ⟨ua, uc, rfl, hu2, hb2⟩; have hz2 := hb2.size; have hb2' := hb2.alloc hb2.size (.cells #[.string ⟨key'.id.toArray⟩, .slice ua key'.sec.length uc, .int .i64 key'.frm, .int .i64 key'.til] 32); have HB2 := Lib.hid (HB1.out.trans (hb2'.mono HB1.out.size)); have HA2 := Lib.hid (HA1.out.older hb2'); have HS2 := Lib.hid (HS1.out.older hb2'); have HX2 := Lib.hid (Bx.new w2 32 #[.string ⟨key'.id.toArray⟩, .slice ua key'.sec.length uc, .int .i64 key'.frm, .int .i64 key'.til]); have HU2 := Lib.hid (hu2.alloc (.cells #[.string ⟨key'.id.toArray⟩, .slice ua key'.sec.length uc, .int .i64 key'.frm, .int .i64 key'.til] 32)); have HZ1 := Lib.hid HB1.out.size; have k3 := HA2.out.cell (i := 3) rfl; have k7 := HA2.out.cell (i := 7) rfl; clear hb2 hb2' hu2)
    | (go_at_call 35; refine (refSigning_any C _ ml tt at_ _ HS2.out.ref (by omega)).mono ?_; rw [HI.out]; rintro e w3 ⟨rfl, hb3⟩; have HB3 := Lib.hid (HB2.out.trans (hb3.mono HB2.out.size)); have HA3 := Lib.hid (HA2.out.older hb3); have HS3 := Lib.hid (HS2.out.older hb3); have HX3 := Lib.hid (HX2.out.older hb3); have HU3 := Lib.hid (HU2.out.older hb3); clear hb3))
  have x0 := HX3.out.cell (i := 0) rfl
  have x1 := HX3.out.cell (i := 1) rfl
  have x2 := HX3.out.cell (i := 2) rfl
  have x3 := HX3.out.cell (i := 3) rfl
  obtain ⟨a', c', e', hrow⟩ := HS3.out.ref.slot
  cases e'
  obtain ⟨b, o, rfl, _, _, ⟨c0, c1, c2, c3, c4, c5⟩⟩ := hrow i _ HMI.out
  simp only at c0 c1 c2 c3 c4 c5
  clear hrow
  refine wp_region_held_drew (S := fun w' => w'.cell? ⟨w2.heap.size, 0, none⟩ = some (.string ⟨key'.id.toArray⟩) ∧ w'.cell? ⟨w2.heap.size, 1, none⟩ = some (.slice ua key'.sec.length uc) ∧ w'.cell? ⟨w2.heap.size, 2, none⟩ = some (.int .i64 key'.frm) ∧ w'.cell? ⟨w2.heap.size, 3, none⟩ = some (.int .i64 key'.til) ∧ w'.cell? ⟨b, o + i * 6, none⟩ = some (.int .i64 tt) ∧ w'.cell? ⟨b, o + i * 6 + 1, none⟩ = some (.string ⟨key'.id.toArray⟩) ∧ w'.cell? ⟨b, o + i * 6 + 2, none⟩ = some (.string ⟨key'.sec.toArray⟩) ∧ w'.cell? ⟨b, o + i * 6 + 3, none⟩ = some (.int .i64 key'.frm) ∧ w'.cell? ⟨b, o + i * 6 + 4, none⟩ = some (.int .i64 key'.til) ∧ w'.cell? ⟨b, o + i * 6 + 5, none⟩ = some (.int .i64 key'.rev)) (by kernel_rfl) (by exact ⟨x0, x1, x2, x3, c0, c1, c2, c3, c4, c5⟩) (fun hHeld => ?_)
  refine wpAnyH_take (i := 0) (v := ?_) (by simp only [List.getElem?_toArray, List.getElem?_cons_succ, List.getElem?_cons_zero]; rfl) (by kernel_rfl) (by kernel_rfl) (by kernel_rfl) (by intro _ _ _ h; exact h) (Or.inl ⟨by rfl, ?_⟩) (by assumption) ?_
  rotate_left
  focus (intro wT hT; (try dsimp only at hT); go_simp; try with_reducible rfl)
  try simp only [Act.put, List.setIfInBounds_toArray, List.set_cons_zero, List.set_cons_succ]
  refine wpAnyH_take (i := 1) (v := ?_) (by simp only [List.getElem?_toArray, List.getElem?_cons_succ, List.getElem?_cons_zero]; rfl) (by kernel_rfl) (by kernel_rfl) (by kernel_rfl) (by intro _ _ _ h; exact h) (Or.inl ⟨by rfl, ?_⟩) (by assumption) ?_
  rotate_left
  focus (intro wT hT; (try dsimp only at hT); go_simp; try with_reducible rfl)
  try simp only [Act.put, List.setIfInBounds_toArray, List.set_cons_zero, List.set_cons_succ]
  refine wpAnyH_take (i := 2) (v := ?_) (by simp only [List.getElem?_toArray, List.getElem?_cons_succ, List.getElem?_cons_zero]; rfl) (by kernel_rfl) (by kernel_rfl) (by kernel_rfl) (by intro _ _ _ h; exact h) (Or.inl ⟨by rfl, ?_⟩) (by assumption) ?_
  rotate_left
  focus (intro wT hT; (try dsimp only at hT); go_simp; try with_reducible rfl)
  try simp only [Act.put, List.setIfInBounds_toArray, List.set_cons_zero, List.set_cons_succ]
  refine wpAnyH_take (i := 3) (v := undef) (by simp only [List.getElem?_toArray, List.getElem?_cons_succ, List.getElem?_cons_zero]; rfl) (by kernel_rfl) (by kernel_rfl) (by kernel_rfl) (by intro _ _ _ h; exact h) (Or.inr ⟨by rfl, rfl⟩) (by assumption) ?_
  try simp only [Act.put, List.setIfInBounds_toArray, List.set_cons_zero, List.set_cons_succ]
  refine wpAnyH_take (i := 4) (v := undef) (by simp only [List.getElem?_toArray, List.getElem?_cons_succ, List.getElem?_cons_zero]; rfl) (by kernel_rfl) (by kernel_rfl) (by kernel_rfl) (by intro _ _ _ h; exact h) (Or.inr ⟨by rfl, rfl⟩) (by assumption) ?_
  try simp only [Act.put, List.setIfInBounds_toArray, List.set_cons_zero, List.set_cons_succ]
  refine wpAnyH_take (i := 5) (v := undef) (by simp only [List.getElem?_toArray, List.getElem?_cons_succ, List.getElem?_cons_zero]; rfl) (by kernel_rfl) (by kernel_rfl) (by kernel_rfl) (by intro _ _ _ h; exact h) (Or.inr ⟨by rfl, rfl⟩) (by assumption) ?_
  try simp only [Act.put, List.setIfInBounds_toArray, List.set_cons_zero, List.set_cons_succ]
  refine wpAnyH_take (i := 6) (v := ?_) (by simp only [List.getElem?_toArray, List.getElem?_cons_succ, List.getElem?_cons_zero]; rfl) (by kernel_rfl) (by kernel_rfl) (by kernel_rfl) (by intro _ _ _ h; exact h) (Or.inl ⟨by rfl, ?_⟩) (by assumption) ?_
  rotate_left
  focus (intro wT hT; (try dsimp only at hT); go_simp; try with_reducible rfl)
  try simp only [Act.put, List.setIfInBounds_toArray, List.set_cons_zero, List.set_cons_succ]
  refine wpAnyH_take (i := 7) (v := ?_) (by simp only [List.getElem?_toArray, List.getElem?_cons_succ, List.getElem?_cons_zero]; rfl) (by kernel_rfl) (by kernel_rfl) (by kernel_rfl) (by intro _ _ _ h; exact h) (Or.inl ⟨by rfl, ?_⟩) (by assumption) ?_
  rotate_left
  focus (intro wT hT; (try dsimp only at hT); go_simp; try with_reducible rfl)
  try simp only [Act.put, List.setIfInBounds_toArray, List.set_cons_zero, List.set_cons_succ]
  refine wpAnyH_take (i := 8) (v := ?_) (by simp only [List.getElem?_toArray, List.getElem?_cons_succ, List.getElem?_cons_zero]; rfl) (by kernel_rfl) (by kernel_rfl) (by kernel_rfl) (by intro _ _ _ h; exact h) (Or.inl ⟨by rfl, ?_⟩) (by assumption) ?_
  rotate_left
  focus (intro wT hT; (try dsimp only at hT); go_simp; try with_reducible rfl)
  try simp only [Act.put, List.setIfInBounds_toArray, List.set_cons_zero, List.set_cons_succ]
  refine wpAnyH_take (i := 9) (v := ?_) (by simp only [List.getElem?_toArray, List.getElem?_cons_succ, List.getElem?_cons_zero]; rfl) (by kernel_rfl) (by kernel_rfl) (by kernel_rfl) (by intro _ _ _ h; exact h) (Or.inl ⟨by rfl, ?_⟩) (by assumption) ?_
  rotate_left
  focus (intro wT hT; (try dsimp only at hT); go_simp; try with_reducible rfl)
  try simp only [Act.put, List.setIfInBounds_toArray, List.set_cons_zero, List.set_cons_succ]
  refine wpAnyH_take (i := 10) (v := ?_) (by simp only [List.getElem?_toArray, List.getElem?_cons_succ, List.getElem?_cons_zero]; rfl) (by kernel_rfl) (by kernel_rfl) (by kernel_rfl) (by intro _ _ _ h; exact h) (Or.inl ⟨by rfl, ?_⟩) (by assumption) ?_
  rotate_left
  focus (intro wT hT; (try dsimp only at hT); go_simp; try with_reducible rfl)
  try simp only [Act.put, List.setIfInBounds_toArray, List.set_cons_zero, List.set_cons_succ]
  refine wpAnyH_take (i := 11) (v := ?_) (by simp only [List.getElem?_toArray, List.getElem?_cons_succ, List.getElem?_cons_zero]; rfl) (by kernel_rfl) (by kernel_rfl) (by kernel_rfl) (by intro _ _ _ h; exact h) (Or.inl ⟨by rfl, ?_⟩) (by assumption) ?_
  rotate_left
  focus (intro wT hT; (try dsimp only at hT); go_simp; try with_reducible rfl)
  try simp only [Act.put, List.setIfInBounds_toArray, List.set_cons_zero, List.set_cons_succ]
  refine wpAnyH_take (i := 12) (v := ?_) (by simp only [List.getElem?_toArray, List.getElem?_cons_succ, List.getElem?_cons_zero]; rfl) (by kernel_rfl) (by kernel_rfl) (by kernel_rfl) (by intro _ _ _ h; exact h) (Or.inl ⟨by rfl, ?_⟩) (by assumption) ?_
  rotate_left
  focus (intro wT hT; (try dsimp only at hT); go_simp; try with_reducible rfl)
  try simp only [Act.put, List.setIfInBounds_toArray, List.set_cons_zero, List.set_cons_succ]
  refine wpAnyH_take (i := 13) (v := ?_) (by simp only [List.getElem?_toArray, List.getElem?_cons_succ, List.getElem?_cons_zero]; rfl) (by kernel_rfl) (by kernel_rfl) (by kernel_rfl) (by intro _ _ _ h; exact h) (Or.inl ⟨by rfl, ?_⟩) (by assumption) ?_
  rotate_left
  focus (intro wT hT; (try dsimp only at hT); go_simp; try with_reducible rfl)
  try simp only [Act.put, List.setIfInBounds_toArray, List.set_cons_zero, List.set_cons_succ]
  refine wpAnyH_take (i := 14) (v := ?_) (by simp only [List.getElem?_toArray, List.getElem?_cons_succ, List.getElem?_cons_zero]; rfl) (by kernel_rfl) (by kernel_rfl) (by kernel_rfl) (by intro _ _ _ h; exact h) (Or.inl ⟨by rfl, ?_⟩) (by assumption) ?_
  rotate_left
  focus (intro wT hT; (try dsimp only at hT); go_simp; try with_reducible rfl)
  try simp only [Act.put, List.setIfInBounds_toArray, List.set_cons_zero, List.set_cons_succ]
  refine wpAnyH_take (i := 15) (v := ?_) (by simp only [List.getElem?_toArray, List.getElem?_cons_succ, List.getElem?_cons_zero]; rfl) (by kernel_rfl) (by kernel_rfl) (by kernel_rfl) (by intro _ _ _ h; exact h) (Or.inl ⟨by rfl, ?_⟩) (by assumption) ?_
  rotate_left
  focus (intro wT hT; (try dsimp only at hT); go_simp; try with_reducible rfl)
  try simp only [Act.put, List.setIfInBounds_toArray, List.set_cons_zero, List.set_cons_succ]
  refine wpAnyH_take (i := 16) (v := ?_) (by simp only [List.getElem?_toArray, List.getElem?_cons_succ, List.getElem?_cons_zero]; rfl) (by kernel_rfl) (by kernel_rfl) (by kernel_rfl) (by intro _ _ _ h; exact h) (Or.inl ⟨by rfl, ?_⟩) (by assumption) ?_
  rotate_left
  focus (intro wT hT; (try dsimp only at hT); go_simp; try with_reducible rfl)
  try simp only [Act.put, List.setIfInBounds_toArray, List.set_cons_zero, List.set_cons_succ]
  refine wpAnyH_take (i := 17) (v := ?_) (by simp only [List.getElem?_toArray, List.getElem?_cons_succ, List.getElem?_cons_zero]; rfl) (by kernel_rfl) (by kernel_rfl) (by kernel_rfl) (by intro _ _ _ h; exact h) (Or.inl ⟨by rfl, ?_⟩) (by assumption) ?_
  rotate_left
  focus (intro wT hT; (try dsimp only at hT); go_simp; try with_reducible rfl)
  try simp only [Act.put, List.setIfInBounds_toArray, List.set_cons_zero, List.set_cons_succ]
  refine wpAnyH_take (i := 18) (v := ?_) (by simp only [List.getElem?_toArray, List.getElem?_cons_succ, List.getElem?_cons_zero]; rfl) (by kernel_rfl) (by kernel_rfl) (by kernel_rfl) (by intro _ _ _ h; exact h) (Or.inl ⟨by rfl, ?_⟩) (by assumption) ?_
  rotate_left
  focus (intro wT hT; (try dsimp only at hT); go_simp; try with_reducible rfl)
  try simp only [Act.put, List.setIfInBounds_toArray, List.set_cons_zero, List.set_cons_succ]
  refine wpAnyH_ready (rs := [19]) (by kernel_rfl) (by simp) (AllReadyH.cons (by simp only [List.getElem?_toArray, List.getElem?_cons_succ, List.getElem?_cons_zero]; rfl) (fun K hK => ?_) AllReadyH.nil)
  go_simp
  go_at_call 37; refine (same_true tt key' _ ua uc _ (HU3.out.older (Below.refl w3.heap.size w3).drew)).mono ?_; rintro e w5 ⟨rfl, hb5⟩; have hb35 : Below w3.heap.size w3 w5 := ((Below.refl w3.heap.size w3).drew).trans hb5; have HB5 := Lib.hid (HB3.out.trans (hb35.mono HB3.out.size)); have HA5 := Lib.hid (HA3.out.older hb35); have HS5 := Lib.hid (HS3.out.older hb35); have HX5 := Lib.hid (HX3.out.older hb35); have HU5 := Lib.hid (HU3.out.older hb35); have x0 := keepC hb35 x0; have x1 := keepC hb35 x1; have x2 := keepC hb35 x2; have x3 := keepC hb35 x3; have c0 := keepC hb35 c0; have c1 := keepC hb35 c1; have c2 := keepC hb35 c2; have c3 := keepC hb35 c3; have c4 := keepC hb35 c4; have c5 := keepC hb35 c5; clear hb5 hb35 k3 k7
  go_wp2_with fail
  refine hK.out _ _ (by exact ⟨x0, x1, x2, x3, c0, c1, c2, c3, c4, c5⟩) (fun hHe2 => ?_)
  clear hK K
  try simp only [Act.put, List.setIfInBounds_toArray, List.set_cons_zero, List.set_cons_succ]
  refine wpAnyH_take (i := 20) (v := ?_) (by simp only [List.getElem?_toArray, List.getElem?_cons_succ, List.getElem?_cons_zero]; rfl) (by kernel_rfl) (by kernel_rfl) (by kernel_rfl) (by intro _ _ _ h; exact h) (Or.inl ⟨by rfl, ?_⟩) (by assumption) ?_
  rotate_left
  focus (intro wT hT; (try dsimp only at hT); go_simp; try with_reducible rfl)
  try simp only [Act.put, List.setIfInBounds_toArray, List.set_cons_zero, List.set_cons_succ]
  refine wpAnyH_take (i := 21) (v := ?_) (by simp only [List.getElem?_toArray, List.getElem?_cons_succ, List.getElem?_cons_zero]; rfl) (by kernel_rfl) (by kernel_rfl) (by kernel_rfl) (by intro _ _ _ h; exact h) (Or.inl ⟨by rfl, ?_⟩) (by assumption) ?_
  rotate_left
  focus (intro wT hT; (try dsimp only at hT); go_simp; try with_reducible rfl)
  try simp only [Act.put, List.setIfInBounds_toArray, List.set_cons_zero, List.set_cons_succ]
  refine wpAnyH_take (i := 22) (v := ?_) (by simp only [List.getElem?_toArray, List.getElem?_cons_succ, List.getElem?_cons_zero]; rfl) (by kernel_rfl) (by kernel_rfl) (by kernel_rfl) (by intro _ _ _ h; exact h) (Or.inl ⟨by rfl, ?_⟩) (by assumption) ?_
  rotate_left
  focus (intro wT hT; (try dsimp only at hT); go_simp; try with_reducible rfl)
  try simp only [Act.put, List.setIfInBounds_toArray, List.set_cons_zero, List.set_cons_succ]
  refine wpAnyH_take (i := 23) (v := ?_) (by simp only [List.getElem?_toArray, List.getElem?_cons_succ, List.getElem?_cons_zero]; rfl) (by kernel_rfl) (by kernel_rfl) (by kernel_rfl) (by intro _ _ _ h; exact h) (Or.inl ⟨by rfl, ?_⟩) (by assumption) ?_
  rotate_left
  focus (intro wT hT; (try dsimp only at hT); go_simp; try with_reducible rfl)
  try simp only [Act.put, List.setIfInBounds_toArray, List.set_cons_zero, List.set_cons_succ]
  refine wpAnyH_done (by kernel_rfl) ?_ _
  have hk9 : key'.sec.length ≤ 1000000 := hsl
  go_wp2_with fail
  go_loopw [11, 54] (fun s9 iv wr => ∃ (k : Nat) (xs : List Value), k ≤ key'.sec.length ∧ iv = .int .i64 k ∧ OwnWin wr w1.heap.size 5 1 (.slice ua key'.sec.length uc) key'.sec.length xs ∧ Hid (∀ u ∈ xs, ∃ m, u = .int .u8 m) ∧ Touch (fun q => (Value.slice ua key'.sec.length uc).ownBlock = some q) w5 wr) (fun _ iv _ => key'.sec.length - (intOf iv).toNat)
  case atStart => exact ⟨0, _, Nat.zero_le _, rfl, HU5.out, Lib.hid (fun u hu => by obtain ⟨b, _, rfl⟩ := List.mem_map.1 hu; exact ⟨_, rfl⟩), Touch.refl _ _⟩
  case round =>
    obtain ⟨k, xs, hk, rfl, hown, HXS, htch⟩ := hrel
    have HO := Lib.hid hown
    have HTC := Lib.hid htch
    have HXR := Lib.hid (HX5.out.touch htch (fun hq => HX5.out.neOwn HU5.out (by decide) _ hq rfl))
    clear x1
    have x1 := HXR.out.cell (i := 1) rfl
    by_cases hlt : k < key'.sec.length
    · obtain ⟨g, og, c9, e9, _, _, hg3, hg4, hg5⟩ := hown.cells (by omega)
      cases e9
      obtain ⟨u, hu⟩ : ∃ u, xs[k]? = some u := ⟨_, List.getElem?_eq_getElem (by have := hown.1; omega)⟩
      obtain ⟨m, rfl⟩ := HXS.out u (List.mem_of_getElem? hu)
      have d0 := hg5 k _ hu
      have f0 : wr.frozen? ⟨g, og + k, none⟩ = false := by
        rcases hown.2 with ⟨h0, _⟩ | ⟨g', o', cap, cur, h0, _, hg, _⟩
        · cases h0
        · cases h0; exact Bx.frz hg _
      have hk1 : (0 : Int) ≤ (k : Int) := by omega
      have hk2 : (k : Int) < (key'.sec.length : Int) := by omega
      clear hown htch hu hg5
      go_wp2_with fail
      go_roundw
      case rel =>
        refine ⟨k + 1, _, by omega, by go_num, own_put HO.out (by omega) _, Lib.hid (fun u hu => ?_), HTC.out.setCell (a := ⟨g, og + k, none⟩) rfl _⟩
        rcases List.mem_or_eq_of_mem_set hu with hu | rfl
        · exact HXS.out u hu
        · exact ⟨_, rfl⟩
      case measure => simp [intOf]; omega
    · have hqlt : ∀ q, (Value.slice ua key'.sec.length uc).ownBlock = some q → w1.heap.size ≤ q := fun q hq => (HU5.out.lt q hq).1
      have HQL := Lib.hid hqlt
      have HAR := Lib.hid (HA5.out.touch htch (fun hq => HA5.out.neOwn HU5.out (by decide) _ hq rfl))
      have HSR := Lib.hid (show IsS B R C V E _ ml wr from ⟨HS5.out.ring.touch htch (fun q hq hr => by
          obtain ⟨T, cs, hbx, hT⟩ := HS5.out.ring.typed hr
          obtain ⟨cs', hc'⟩ := own_typed HU5.out hq
          obtain ⟨e1, _⟩ := hbx.inj hc'
          subst e1
          rcases hT with h | h | h <;> exact absurd h (by decide)) (fun q hq => HS1.out.ring.secNew (hqlt q hq)), OwnWin.touch HS5.out.ref htch (fun q hq hq2 => own_neOwn HS5.out.ref HU5.out (by decide) q hq hq2)⟩)
      have hz5 := HB5.out.size
      have hz1 := HB1.out.size
      have hbr5 := htch.below (B := w.heap.size) hz5 (fun q hq => Nat.le_trans hz1 (hqlt q hq))
      have HBR := Lib.hid (HB5.out.trans hbr5)
      clear hown htch hqlt hbr5
      obtain ⟨wA, hwA⟩ : ∃ wA, wr = wA := ⟨_, rfl⟩
      subst hwA
      have HAA := Lib.hid HAR.out
      have HSA := Lib.hid HSR.out
      have HBA := Lib.hid HBR.out
      have k3 := HAR.out.cell (i := 3) rfl
      have k7 := HAR.out.cell (i := 7) rfl
      go_wp2_with fail
      have hbr := Below.refl wr.heap.size wr
      have HVS := Lib.hid (valid_same HM.out tt at_ id)
      obtain ⟨bv, hbv⟩ : ∃ bv, validR ml tt id at_ = bv := ⟨_, rfl⟩
      have HBV := Lib.hid hbv
      have HIL := Lib.hid (show idsL ((tlK E tt).map Ent.key) = idsL (per ml tt) by show idsL (keysOf E tt) = _; rw [HM.out tt])
      have HLN := Lib.hid (show (tlK E tt).length = (idsL (per ml tt)).length by rw [← HIL.out]; unfold idsL; rw [List.length_mergeSort, List.length_map, List.length_map])
      have hil9 : (idsL (per ml tt)).length ≤ 4294967296 := by have := HLN.out; omega
      clear hbv
      go_region_held3 (fun w' => w'.cell? ⟨w.heap.size, 3, none⟩ = some (.string ⟨id.toArray⟩) ∧ w'.cell? ⟨w.heap.size, 7, none⟩ = some (.int .i64 at_)) (first | go_keep | exact ⟨k3, k7⟩)
        ((first
          | (go_at_call 12; refine (valid_any B R tt at_ id V E _ (HSA.out.ring.older ?_) (by omega)).mono ?_; (first | exact hbw9 | exact (Below.refl _ _).drew); rw [HVS.out, HBV.out]; rintro e w' ⟨rfl, rfl⟩)
          | (go_at_call 38; refine (refValid_any C _ ml tt at_ id _ (HSA.out.ref.older ?_) (by omega)).mono ?_; (first | exact hbw9 | exact (Below.refl _ _).drew); rw [HBV.out]; rintro e w9 ⟨rfl, hb9⟩; (first  | (have hbw9 := ((Below.refl wr.heap.size wr).drew).trans hb9)); have k3 := (HAA.out.older hbw9).cell (i := 3) rfl; have k7 := (HAA.out.older hbw9).cell (i := 7) rfl)
          | (go_at_call 14; refine (ids_any B R tt V E _ (HSA.out.ring.older ?_) (by omega)).mono ?_; (first | exact hbwJ | exact hbwI | exact hbw9 | exact (Below.refl _ _).drew); rw [HIL.out, HLN.out]; rintro e wI ⟨uI, rfl, hoI, hbI⟩; (first | (have hbwI := hbwJ.trans (hbI.mono hbwJ.size)) | (have hbwI := hbw9.trans (hbI.mono hbw9.size)) | (have hbwI := ((Below.refl wr.heap.size wr).drew).trans hbI)); have k3 := (HAA.out.older hbwI).cell (i := 3) rfl; have k7 := (HAA.out.older hbwI).cell (i := 7) rfl; have hsI := strsK_own hoI; try (have hsJ := hsJ.below hbI))
          | (go_at_call 39; refine (refIDs_any C _ ml tt _ (HSA.out.ref.older ?_) (by omega)).mono ?_; (first | exact hbwJ | exact hbwI | exact hbw9 | exact (Below.refl _ _).drew); rintro e wJ ⟨uJ, rfl, hoJ, hbJ⟩; (first | (have hbwJ := hbwI.trans (hbJ.mono hbwI.size)) | (have hbwJ := hbw9.trans (hbJ.mono hbw9.size)) | (have hbwJ := ((Below.refl wr.heap.size wr).drew).trans hbJ)); have k3 := (HAA.out.older hbwJ).cell (i := 3) rfl; have k7 := (HAA.out.older hbwJ).cell (i := 7) rfl; have hsJ := strsK_own hoJ; try (have hsI := hsI.below hbJ))
          | (go_at_call 13; refine (A1.texts_any (idsL (per ml tt)) (idsL (per ml tt)) uI uJ _ hsI hsJ hil9 hil9).mono ?_; rw [decide_eq_true rfl]; rintro e wT ⟨rfl, hbT⟩; (first | (have hbwT := hbwJ.trans (hbT.mono hbwJ.size)) | (have hbwT := hbwI.trans (hbT.mono hbwI.size)) | (have hbwT := ((Below.refl wr.heap.size wr).drew).trans hbT)); have k3 := (HAA.out.older hbwT).cell (i := 3) rfl; have k7 := (HAA.out.older hbwT).cell (i := 7) rfl)))
      all_goals
        go_wp2_with fail
        go_ret
        exact ⟨rfl, HBA.out.trans (hbwT.mono HBA.out.size)⟩
theorem is_any (B R C : Nat) (V : Nat → Value) (E : Nat → List Ent) (v : Value) (ml : KL) (kd tn s : Nat) (id : Bs) (x y z at_ : Int) (w : World) (hr : RingAt w B R V E) (hv : RefAt w C v ml) (hm : Match E ml) (hl : ml.length ≤ 97) (ht : tn < 256) (hs : ∀ t, t < 16 → ∀ e ∈ E t, e.key.sec.length ≤ 1000000) :
    Calls Tryd.prog 21 #[ptrK R, v, actV kd tn s id x y z at_] w fun e w' => e = .returned (.bool true) ∧ Below w.heap.size w w' := by
  cases hn : signR ml (tenB tn) at_ with
  | none => exact is_none B R C V E v ml kd tn s id x y z at_ w hr hv hm hl ht hs hn
  | some i => exact is_some B R C V E v ml kd tn s id x y z at_ w hr hv hm hl ht hs i hn
end Kr
end Go.Proofs.YtbpbopjlcidefaaDoor
