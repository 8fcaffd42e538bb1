/- Contracts and plain facts that the statement's proof leans on (texts joined). No condition beyond those that each names. -/
import Derived.Test.YtjijijjkkhpjnaaGreatDoorQgL
section
namespace Go.Proofs.YtjijijjkkhpjnaaGreatDoor
open Go.RowKit Pl Ad
attribute [local go_sem] ba_get ba_append ba_extract conv_one
set_option maxRecDepth 100000
set_option maxHeartbeats 4000000
set_option linter.unusedVariables false
set_option linter.unusedSimpArgs false
namespace Hy
open A1 Kr
theorem ruleL_other {h : HisM} {r : Int} (h1 : ¬ r = 1) (h2 : ¬ r = 2) (h3 : ¬ r = 3) (h4 : ¬ r = 4) (h5 : ¬ r = 5) : ruleL h r = [] := by
  unfold ruleL
  rw [if_neg h1, if_neg h2, if_neg h3, if_neg h4, if_neg h5]
theorem rule0_any (h : HisM) (va vb vc vd ve : Value) (B : Nat) (r : Int) (w : World) (h1 : ¬ r = 1) (h2 : ¬ r = 2) (h3 : ¬ r = 3) (h4 : ¬ r = 4) (h5 : ¬ r = 5) (ha : HisAt w B va vb vc vd ve h) (hsm : h.Small) (hB : B ≤ 134217728) :
    Calls Tryz.prog 31 #[.agg #[va, vb, vc, vd, ve, .int .i64 h.bound, .int .i64 h.fin], .int .i64 r] w fun e w' => ∃ v, e = .returned v ∧ OwnWin w' w.heap.size 90 3 v 0 [] ∧ Below w.heap.size w w' := by
  obtain ⟨ps, gs, ss, fs, ds, bound, fin⟩ := h
  simp only at ha hsm ⊢
  have HA := Lib.hid ha
  have HSM := Lib.hid hsm
  have HBB := Lib.hid hB
  have HB0 := Lib.hid ((Below.refl w.heap.size w).alloc (Nat.le_refl _) (.cells #[va, vb, vc, vd, ve, .int .i64 bound, .int .i64 fin] 69))
  have e1 : (r == 1) = false := beq_eq_false_iff_ne.2 h1
  have e2 : (r == 2) = false := beq_eq_false_iff_ne.2 h2
  have e3 : (r == 3) = false := beq_eq_false_iff_ne.2 h3
  have e4 : (r == 4) = false := beq_eq_false_iff_ne.2 h4
  have e5 : (r == 5) = false := beq_eq_false_iff_ne.2 h5
  clear ha hsm hB h1 h2 h3 h4 h5
  go_enter Tryz.func31, Tryz.ntmps31
  go_wp2_with fail
  refine (spans_any ps va B _ (HA.out.below HB0.out).pubs (by have h91 := HSM.out.npub; simp only at h91; omega) (HA.out.below HB0.out).pub (by have := HBB.out; omega)).mono ?_
  rintro e w2 ⟨allv, rfl, hsp, hb2⟩
  have HB2 := Lib.hid (HB0.out.trans (hb2.mono HB0.out.size))
  clear hb2 hsp
  go_wp2_with fail
  go_ret
  exact ⟨_, rfl, OwnWin.nil _ _ _ _, HB2.out⟩
theorem rule_any (h : HisM) (va vb vc vd ve : Value) (B : Nat) (r : Int) (w : World) (hr : Ready w) (hpw : ParseAt w) (ha : HisAt w B va vb vc vd ve h) (hsm : h.Small) (hB : B ≤ 134217728) :
    Calls Tryz.prog 31 #[.agg #[va, vb, vc, vd, ve, .int .i64 h.bound, .int .i64 h.fin], .int .i64 r] w fun e w' => ∃ v, e = .returned v ∧ OwnWin w' w.heap.size 90 3 v (ruleL h r).length (vvals (ruleL h r)) ∧ Below w.heap.size w w' := by
  by_cases h1 : r = 1
  · subst h1; exact rule1_any h va vb vc vd ve B w hr hpw ha hsm hB
  by_cases h2 : r = 2
  · subst h2; exact rule2_any h va vb vc vd ve B w hr hpw ha hsm hB
  by_cases h3 : r = 3
  · subst h3; exact rule3_any h va vb vc vd ve B w hr hpw ha hsm hB
  by_cases h4 : r = 4
  · subst h4; exact rule4_any h va vb vc vd ve B w hr hpw ha hsm hB
  by_cases h5 : r = 5
  · subst h5; exact rule5_any h va vb vc vd ve B w hr hpw ha hsm hB
  rw [ruleL_other h1 h2 h3 h4 h5]
  exact rule0_any h va vb vc vd ve B r w h1 h2 h3 h4 h5 ha hsm hB
theorem vioF_len2 {α : Type} {r : Int} {tx : Bs} {bad : Nat → α → Bool} (l : List α) (k : Nat) : (vioF r tx bad l k).length ≤ l.length := vioF_len
theorem ruleL_len {h : HisM} (hs : h.Small) (r : Int) : (ruleL h r).length ≤ 1000 := by
  unfold ruleL
  split
  · exact Nat.le_trans (vioF_len2 _ _) hs.nsrv
  split
  · exact Nat.le_trans (vioF_len2 _ _) hs.nprg
  split
  · exact Nat.le_trans (vioF_len2 _ _) hs.nsrv
  split
  · exact Nat.le_trans (vioF_len2 _ _) hs.nsrv
  split
  · exact Nat.le_trans (vioF_len2 _ _) hs.nfet
  · simp
/-- The violations of the first k rules. -/
def firstL (h : HisM) (k : Nat) : List VioM := (List.range k).flatMap fun (i : Nat) => ruleL h ((i : Int) + 1)
theorem firstL_succ (h : HisM) (k : Nat) : firstL h (k + 1) = firstL h k ++ ruleL h ((k : Int) + 1) := by
  unfold firstL
  rw [List.range_succ, List.flatMap_append]
  simp
theorem firstL_five (h : HisM) : firstL h 5 = checkL h := by
  have e : List.range 5 = [0, 1, 2, 3, 4] := rfl
  unfold firstL checkL
  rw [e]
  simp [ruleL]
theorem firstL_len {h : HisM} (hs : h.Small) : ∀ k, (firstL h k).length ≤ 1000 * k
  | 0 => Nat.le_refl _
  | k + 1 => by
    have h1 := firstL_len hs k
    have h2 := ruleL_len hs ((k : Int) + 1)
    rw [firstL_succ, List.length_append]; omega
theorem vvals_one' : ∀ l : List VioM, ∀ u ∈ vvals l, u.oneCell' = true
  | [] => fun u h => by cases h
  | v :: r => fun u h => by
    rcases List.mem_append.1 h with h | h
    · simp [vioR] at h
      rcases h with rfl | rfl | rfl <;> rfl
    · exact vvals_one' r u h
theorem check_any (h : HisM) (va vb vc vd ve : Value) (B : Nat) (w : World) (hr : Ready w) (hpw : ParseAt w) (ha : HisAt w B va vb vc vd ve h) (hsm : h.Small) (hB : B ≤ 134217728) :
    Calls Tryz.prog 34 #[.agg #[va, vb, vc, vd, ve, .int .i64 h.bound, .int .i64 h.fin]] w fun e w' => ∃ v, e = .returned v ∧ OwnWin w' w.heap.size 90 3 v (checkL h).length (vvals (checkL h)) ∧ Below w.heap.size w w' := by
  have HA := Lib.hid ha
  have HSM := Lib.hid hsm
  have HBB := Lib.hid hB
  have HRY := Lib.hid hr
  have HPW := Lib.hid hpw
  have H5 := Lib.hid (firstL_five h)
  have HB0 := Lib.hid ((Below.refl w.heap.size w).alloc (Nat.le_refl _) (.cells #[va, vb, vc, vd, ve, .int .i64 h.bound, .int .i64 h.fin] 69))
  have HXH := Lib.hid (Bx.new w 69 #[va, vb, vc, vd, ve, .int .i64 h.bound, .int .i64 h.fin])
  clear ha hsm hB hr hpw
  go_enter Tryz.func34, Tryz.ntmps34
  go_wp2_with fail
  obtain ⟨w1, hw1⟩ : ∃ z, w.alloc (.cells #[va, vb, vc, vd, ve, .int .i64 h.bound, .int .i64 h.fin] 69) = z := ⟨_, rfl⟩
  obtain ⟨b0, hb0⟩ : ∃ z, w.heap.size = z := ⟨_, rfl⟩
  rw [hw1] at HB0 HXH ⊢
  rw [hb0] at HXH ⊢
  clear hw1 hb0
  go_loopg [4, 3] 5 (fun gq iv vv wr => ∃ (k : Nat) (a : Option Addr) (c : Nat), iv = .int .i64 ((k : Int) + 1) ∧ vv = .slice a (firstL h k).length c ∧ k ≤ 5 ∧ Hid (5 ≤ gq + k) ∧ Hid (Below w1.heap.size w1 wr) ∧ Hid (OwnWin wr w1.heap.size 90 3 (.slice a (firstL h k).length c) (firstL h k).length (vvals (firstL h k))))
  case atStart => exact ⟨0, none, 0, rfl, rfl, Nat.zero_le _, Lib.hid (by omega), Lib.hid (Below.refl _ _), Lib.hid (OwnWin.nil _ _ _ _)⟩
  case round =>
    obtain ⟨k, a, c, rfl, rfl, hk, HQ, HBW, HO⟩ := hrel
    have HFS := Lib.hid (firstL_succ h k)
    have HFL := Lib.hid (firstL_len HSM.out k)
    have HRL := Lib.hid (ruleL_len HSM.out ((k : Int) + 1))
    obtain ⟨acc, hacc⟩ : ∃ z, firstL h k = z := ⟨_, rfl⟩
    rw [hacc] at HO HFS HFL ⊢
    by_cases hlt : k < 5
    · have HLT := Lib.hid hlt
      have hle : (k : Int) + 1 ≤ 5 := by omega
      have h0 := (HXH.out.older HBW.out).cell (i := 0) rfl
      have h1 := (HXH.out.older HBW.out).cell (i := 1) rfl
      have h2 := (HXH.out.older HBW.out).cell (i := 2) rfl
      have h3 := (HXH.out.older HBW.out).cell (i := 3) rfl
      have h4 := (HXH.out.older HBW.out).cell (i := 4) rfl
      have h5 := (HXH.out.older HBW.out).cell (i := 5) rfl
      have h6 := (HXH.out.older HBW.out).cell (i := 6) rfl
      have HBX := Lib.hid (HB0.out.trans (HBW.out.mono HB0.out.size))
      clear hacc
      go_wp2_with fail
      refine (rule_any h va vb vc vd ve B ((k : Int) + 1) _ (HRY.out.below HBX.out) (HPW.out.below HBX.out) (HA.out.below HBX.out) HSM.out HBB.out).mono ?_
      rintro e w3 ⟨u, rfl, hou, hb3⟩
      have HB3 := Lib.hid (HBW.out.trans (hb3.mono HBW.out.size))
      have HO3 := Lib.hid (HO.out.older hb3)
      have HOU := Lib.hid hou
      obtain ⟨ua, uc, rfl, _⟩ := hou.form
      clear hou hb3 h0 h1 h2 h3 h4 h5 h6
      obtain ⟨rl, hrl⟩ : ∃ z, ruleL h ((k : Int) + 1) = z := ⟨_, rfl⟩
      rw [hrl] at HOU HFS HRL ⊢
      clear hrl
      go_wp2_with (at_builtin; refine wpList_appw tyVio (by rfl) _ _ (by rfl) w1.heap.size (.slice a acc.length c) acc.length _ (by rfl) HO3.out HB3.out.size (.slice ua rl.length uc) rl.length (vvals rl) (by rfl) (SrcAt.of HOU.out) (vvals_len rl) (vvals_one' rl) (by have h91 := HFL.out; have h92 := HRL.out; omega) ?_; intro v4 w4 hown4 hgrow4 hlies4; have HO4 := Lib.hid hown4; have HG4 := Lib.hid hgrow4; clear hown4 hgrow4 hlies4)
      have HOW4 := Lib.hid (show OwnWin w4 w1.heap.size 90 3 v4 (firstL h (k + 1)).length (vvals (firstL h (k + 1))) by rw [HFS.out, List.length_append, vvals_append]; exact HO4.out)
      obtain ⟨a4, c4, rfl, _⟩ := HOW4.out.form
      have HB4 := Lib.hid (HB3.out.grown HG4.out HB3.out.size (fun q hq => (HO3.out.lt q hq).1))
      go_roundg (gk - 1)
      case rel => exact ⟨k + 1, a4, c4, by go_num, rfl, by have := HLT.out; omega, Lib.hid (by have := HQ.out; omega), HB4, HOW4⟩
      case measure => have := HQ.out; have := HLT.out; omega
    · obtain rfl : k = 5 := by omega
      have HE := Lib.hid (show checkL h = acc by rw [← H5.out, hacc])
      clear hacc
      go_wp2_with fail
      go_ret
      exact ⟨_, rfl, by rw [HE.out]; exact HO.out.mono (fun q hq => Nat.le_trans HB0.out.size (HO.out.lt q hq).1), HB0.out.trans (HBW.out.mono HB0.out.size)⟩
end Hy
end Go.Proofs.YtjijijjkkhpjnaaGreatDoor
end

section
namespace Go.Proofs.YtjijijjkkhpjnaaGreatDoor
open Go.RowKit Pl Ad
attribute [local go_sem] ba_get ba_append ba_extract conv_one
set_option maxRecDepth 100000
set_option maxHeartbeats 4000000
set_option linter.unusedVariables false
set_option linter.unusedSimpArgs false
namespace Hy
open A1 Kr
def zvals (l : List Int) : List Value := l.map fun n => Value.int .i64 n
theorem zvals_append (a b : List Int) : zvals (a ++ b) = zvals a ++ zvals b := by simp [zvals]
theorem src_cells {w : World} {g : Nat} {C : Array Value} {e : TypeId} {fr : Nat × Nat} {n c : Nat} (h : w.heap[g]? = some (.cells C e fr)) : SrcAt w (.slice (some ⟨g, 0, none⟩) n c) n C.toList := by
  refine .inr ⟨_, _, rfl, fun j u hu => ?_⟩
  rw [Addr.add_lit, Nat.zero_add, cell_of_row w g j C e fr h]
  simpa using hu
/-- What a list of times holds of a history: of the first elements of each list. -/
structure Got (h : HisM) (xs : List Int) (a b c d e : Nat) : Prop where
  bd : h.bound ∈ xs
  fn : h.fin ∈ xs
  pu : ∀ (j : Nat) (p : PubM), j < a → h.pubs[j]? = some p → p.at_ ∈ xs ∧ p.lim ∈ xs
  pr : ∀ (j : Nat) (g : PrgM), j < b → h.prgs[j]? = some g → g.ord ∈ xs ∧ g.stl ∈ xs
  sr : ∀ (j : Nat) (s : SrvM), j < c → h.srvs[j]? = some s → s.at_ ∈ xs ∧ s.ask ∈ xs ∧ ∀ x ∈ s.parts, x.at_ ∈ xs
  fe : ∀ (j : Nat) (f : FetM), j < d → h.fets[j]? = some f → f.at_ ∈ xs
  dr : ∀ (j : Nat) (d : DroM), j < e → h.dros[j]? = some d → d.at_ ∈ xs
section
variable {h : HisM} {xs ys : List Int} {a b c d e : Nat}
theorem Got.id (k : Got h xs a b c d e) : Got h xs a b c d e := k
theorem Got.more (k : Got h xs a b c d e) (hy : ∀ n ∈ xs, n ∈ ys) : Got h ys a b c d e :=
  ⟨hy _ k.bd, hy _ k.fn, fun j p h1 h2 => ⟨hy _ (k.pu j p h1 h2).1, hy _ (k.pu j p h1 h2).2⟩, fun j p h1 h2 => ⟨hy _ (k.pr j p h1 h2).1, hy _ (k.pr j p h1 h2).2⟩, fun j p h1 h2 => ⟨hy _ (k.sr j p h1 h2).1, hy _ (k.sr j p h1 h2).2.1, fun x hx => hy _ ((k.sr j p h1 h2).2.2 x hx)⟩, fun j p h1 h2 => hy _ (k.fe j p h1 h2), fun j p h1 h2 => hy _ (k.dr j p h1 h2)⟩
theorem Got.pub (k : Got h xs a b c d e) {p : PubM} (hp : h.pubs[a]? = some p) : Got h (xs ++ [p.at_, p.lim]) (a + 1) b c d e := by
  have m := k.more (ys := xs ++ [p.at_, p.lim]) (fun n hn => List.mem_append_left _ hn)
  refine ⟨m.bd, m.fn, ?_, m.pr, m.sr, m.fe, m.dr⟩
  intro j q hj hq
  rcases Nat.lt_succ_iff_lt_or_eq.1 hj with h9 | rfl
  · exact ⟨List.mem_append_left _ (k.pu j q h9 hq).1, List.mem_append_left _ (k.pu j q h9 hq).2⟩
  · rw [hp] at hq; cases hq; exact ⟨by simp, by simp⟩
theorem Got.prg (k : Got h xs a b c d e) {p : PrgM} (hp : h.prgs[b]? = some p) : Got h (xs ++ [p.ord, p.stl]) a (b + 1) c d e := by
  have m := k.more (ys := xs ++ [p.ord, p.stl]) (fun n hn => List.mem_append_left _ hn)
  refine ⟨m.bd, m.fn, m.pu, ?_, m.sr, m.fe, m.dr⟩
  intro j q hj hq
  rcases Nat.lt_succ_iff_lt_or_eq.1 hj with h9 | rfl
  · exact ⟨List.mem_append_left _ (k.pr j q h9 hq).1, List.mem_append_left _ (k.pr j q h9 hq).2⟩
  · rw [hp] at hq; cases hq; exact ⟨by simp, by simp⟩
theorem Got.srv (k : Got h xs a b c d e) {x : SrvM} (hp : h.srvs[c]? = some x) (h1 : ∀ n ∈ xs, n ∈ ys) (h2 : x.at_ ∈ ys ∧ x.ask ∈ ys) (h3 : ∀ y ∈ x.parts, y.at_ ∈ ys) : Got h ys a b (c + 1) d e := by
  have m := k.more h1
  refine ⟨m.bd, m.fn, m.pu, m.pr, ?_, m.fe, m.dr⟩
  intro j q hj hq
  rcases Nat.lt_succ_iff_lt_or_eq.1 hj with h9 | rfl
  · exact ⟨h1 _ (k.sr j q h9 hq).1, h1 _ (k.sr j q h9 hq).2.1, fun y hy => h1 _ ((k.sr j q h9 hq).2.2 y hy)⟩
  · rw [hp] at hq; cases hq; exact ⟨h2.1, h2.2, h3⟩
theorem Got.fet (k : Got h xs a b c d e) {p : FetM} (hp : h.fets[d]? = some p) : Got h (xs ++ [p.at_]) a b c (d + 1) e := by
  have m := k.more (ys := xs ++ [p.at_]) (fun n hn => List.mem_append_left _ hn)
  refine ⟨m.bd, m.fn, m.pu, m.pr, m.sr, ?_, m.dr⟩
  intro j q hj hq
  rcases Nat.lt_succ_iff_lt_or_eq.1 hj with h9 | rfl
  · exact List.mem_append_left _ (k.fe j q h9 hq)
  · rw [hp] at hq; cases hq; simp
theorem Got.dro (k : Got h xs a b c d e) {p : DroM} (hp : h.dros[e]? = some p) : Got h (xs ++ [p.at_]) a b c d (e + 1) := by
  have m := k.more (ys := xs ++ [p.at_]) (fun n hn => List.mem_append_left _ hn)
  refine ⟨m.bd, m.fn, m.pu, m.pr, m.sr, m.fe, ?_⟩
  intro j q hj hq
  rcases Nat.lt_succ_iff_lt_or_eq.1 hj with h9 | rfl
  · exact List.mem_append_left _ (k.dr j q h9 hq)
  · rw [hp] at hq; cases hq; simp
/-- Few elements. -/
def Lens (h : HisM) : Prop := h.pubs.length ≤ 1000 ∧ h.prgs.length ≤ 1000 ∧ h.srvs.length ≤ 1000 ∧ h.fets.length ≤ 1000 ∧ h.dros.length ≤ 1000
theorem Got.small (k : Got h xs h.pubs.length h.prgs.length h.srvs.length h.fets.length h.dros.length) (hb : ∀ n ∈ xs, inB n) (hl : Lens h) : h.Small :=
  ⟨fun p hp => by
      obtain ⟨j, hj, rfl⟩ := List.getElem_of_mem hp
      have := k.pu j _ hj (List.getElem?_eq_getElem hj)
      exact ⟨hb _ this.1, hb _ this.2⟩,
   fun p hp => by
      obtain ⟨j, hj, rfl⟩ := List.getElem_of_mem hp
      have := k.pr j _ hj (List.getElem?_eq_getElem hj)
      exact ⟨hb _ this.1, hb _ this.2⟩,
   fun p hp => by
      obtain ⟨j, hj, rfl⟩ := List.getElem_of_mem hp
      have := k.sr j _ hj (List.getElem?_eq_getElem hj)
      exact ⟨hb _ this.1, hb _ this.2.1, fun x hx => hb _ (this.2.2 x hx)⟩,
   fun p hp => by
      obtain ⟨j, hj, rfl⟩ := List.getElem_of_mem hp
      exact hb _ (k.fe j _ hj (List.getElem?_eq_getElem hj)),
   fun p hp => by
      obtain ⟨j, hj, rfl⟩ := List.getElem_of_mem hp
      exact hb _ (k.dr j _ hj (List.getElem?_eq_getElem hj)),
   hb _ k.bd, hb _ k.fn, hl.1, hl.2.1, hl.2.2.1, hl.2.2.2.1, hl.2.2.2.2⟩
end
/-- What beyond answers: where it says no, the history is small. -/
def SmallIf (h : HisM) (w : World) (e : Ending) (w' : World) : Prop := ∃ b, e = .returned (.bool b) ∧ (b = false → h.Small) ∧ Below w.heap.size w w'
theorem beyond_any (h : HisM) (va vb vc vd ve : Value) (B : Nat) (w : World) (ha : HisAt w B va vb vc vd ve h) (hls : Lens h) (hB : B ≤ 134217728) :
    Calls Tryz.prog 53 #[.agg #[va, vb, vc, vd, ve, .int .i64 h.bound, .int .i64 h.fin]] w (SmallIf h w) := by
  have HLS := Lib.hid hls
  obtain ⟨ps, gs, ss, fs, ds, bound, fin⟩ := h
  obtain ⟨pa, pc, rfl, _⟩ := ha.pubs.form
  obtain ⟨ga, gc, rfl, _⟩ := ha.prgs.form
  obtain ⟨sa, sc, rfl, _⟩ := ha.srvs.form
  obtain ⟨fa, fc, rfl, _⟩ := ha.fets.form
  obtain ⟨da, dc, rfl, _⟩ := ha.dros.form
  simp only at ha ⊢
  obtain ⟨h, hh⟩ : ∃ h : HisM, (⟨ps, gs, ss, fs, ds, bound, fin⟩ : HisM) = h := ⟨_, rfl⟩
  have HH : Hid (h.pubs = ps ∧ h.prgs = gs ∧ h.srvs = ss ∧ h.fets = fs ∧ h.dros = ds) := Lib.hid (by rw [← hh]; exact ⟨rfl, rfl, rfl, rfl, rfl⟩)
  have HG0 := Lib.hid (show Got h [bound, fin] 0 0 0 0 0 from ⟨by rw [← hh]; simp, by rw [← hh]; simp, fun j p hj => by omega, fun j p hj => by omega, fun j p hj => by omega, fun j p hj => by omega, fun j p hj => by omega⟩)
  have HLENS := Lib.hid hls
  have hls2 := hls
  unfold Lens at hls2
  simp only at hls2
  have HL2 := Lib.hid hls2
  rw [hh] at HLS ⊢
  have HA := Lib.hid ha
  have HBB := Lib.hid hB
  have HB0 := Lib.hid ((Below.refl w.heap.size w).alloc (Nat.le_refl _) (.cells #[.slice pa ps.length pc, .slice ga gs.length gc, .slice sa ss.length sc, .slice fa fs.length fc, .slice da ds.length dc, .int .i64 bound, .int .i64 fin] 69))
  have HXH0 := Lib.hid (Bx.new w 69 #[.slice pa ps.length pc, .slice ga gs.length gc, .slice sa ss.length sc, .slice fa fs.length fc, .slice da ds.length dc, .int .i64 bound, .int .i64 fin])
  clear ha hls hls2 hB HLENS hh
  have HLENS := HL2
  go_enter Tryz.func53, Tryz.ntmps53
  go_wp2_with fail
  have HOI := Lib.hid (show OwnWin ((w.alloc (.cells #[.slice pa ps.length pc, .slice ga gs.length gc, .slice sa ss.length sc, .slice fa fs.length fc, .slice da ds.length dc, .int .i64 bound, .int .i64 fin] 69)).alloc (.cells #[.int .i64 bound, .int .i64 fin] 3)) (w.alloc (.cells #[.slice pa ps.length pc, .slice ga gs.length gc, .slice sa ss.length sc, .slice fa fs.length fc, .slice da ds.length dc, .int .i64 bound, .int .i64 fin] 69)).heap.size 3 1 (.slice (some ⟨w.heap.size + 1, 0, none⟩) 2 2) 2 (zvals [bound, fin]) from ⟨rfl, .inr ⟨w.heap.size + 1, 0, 2, #[.int .i64 bound, .int .i64 fin], rfl, by simp, by have := heap_alloc_new (w.alloc (.cells #[.slice pa ps.length pc, .slice ga gs.length gc, .slice sa ss.length sc, .slice fa fs.length fc, .slice da ds.length dc, .int .i64 bound, .int .i64 fin] 69)) (.cells #[.int .i64 bound, .int .i64 fin] 3); simpa using this, Nat.le_refl _, by unfold maxLen; omega, by simp, rfl⟩⟩)
  have HBI := Lib.hid ((Below.refl (w.alloc (.cells #[.slice pa ps.length pc, .slice ga gs.length gc, .slice sa ss.length sc, .slice fa fs.length fc, .slice da ds.length dc, .int .i64 bound, .int .i64 fin] 69)).heap.size (w.alloc (.cells #[.slice pa ps.length pc, .slice ga gs.length gc, .slice sa ss.length sc, .slice fa fs.length fc, .slice da ds.length dc, .int .i64 bound, .int .i64 fin] 69))).alloc (Nat.le_refl _) (.cells #[.int .i64 bound, .int .i64 fin] 3))
  obtain ⟨w1, hw1⟩ : ∃ z, w.alloc (.cells #[.slice pa ps.length pc, .slice ga gs.length gc, .slice sa ss.length sc, .slice fa fs.length fc, .slice da ds.length dc, .int .i64 bound, .int .i64 fin] 69) = z := ⟨_, rfl⟩
  obtain ⟨b0, hb0⟩ : ∃ z, w.heap.size = z := ⟨_, rfl⟩
  obtain ⟨bi, hbi⟩ : ∃ z, w.heap.size + 1 = z := ⟨_, rfl⟩
  rw [hw1] at HB0 HXH0 HOI HBI ⊢
  rw [hbi] at HOI ⊢
  rw [hb0] at HXH0 ⊢
  have HXH := HXH0
  clear hw1 hb0 hbi HXH0
  have HXL : Hid (([bound, fin] : List Int).length ≤ 2 + 2 * 0) := Lib.hid (by simp)
  have HGT := HG0
  have HBW := HBI
  have HO := HOI
  clear HG0 HBI HOI
  go_loopg [26, 3] ps.length (fun gq iv vv wr => ∃ (k : Nat) (xs : List Int) (a : Option Addr) (c : Nat), iv = .int .i64 k ∧ vv = .slice a xs.length c ∧ k ≤ ps.length ∧ Hid (xs.length ≤ 2 + 2 * k) ∧ Hid (ps.length ≤ gq + k) ∧ Hid (Got h xs k 0 0 0 0) ∧ Hid (Below w1.heap.size w1 wr) ∧ Hid (OwnWin wr w1.heap.size 3 1 (.slice a xs.length c) xs.length (zvals xs)))
  case atStart => exact ⟨0, [bound, fin], _, _, rfl, rfl, Nat.zero_le _, Lib.hid (by have := HXL.out; have := HLENS.out; omega), Lib.hid (by omega), Lib.hid (HGT.out.id), HBW, HO⟩
  case round =>
    clear HXL HGT HBW HO
    obtain ⟨k, xs, a, c, rfl, rfl, hk, HXL, HQ, HGT, HBW, HO⟩ := hrel
    have h0 := (HXH.out.older HBW.out).cell (i := 0) rfl
    have h1 := (HXH.out.older HBW.out).cell (i := 1) rfl
    have h2 := (HXH.out.older HBW.out).cell (i := 2) rfl
    have h3 := (HXH.out.older HBW.out).cell (i := 3) rfl
    have h4 := (HXH.out.older HBW.out).cell (i := 4) rfl
    have h5 := (HXH.out.older HBW.out).cell (i := 5) rfl
    have h6 := (HXH.out.older HBW.out).cell (i := 6) rfl
    have hz0 := (HXH.out.older HBW.out).lt
    by_cases hlt : k < ps.length
    · have HLT := Lib.hid hlt
      have hkb : k < 1000 := by have := HLENS.out; omega
      obtain ⟨x, hxk⟩ : ∃ x, ps[k]? = some x := ⟨_, List.getElem?_eq_getElem hlt⟩
      have HGS := Lib.hid (HGT.out.pub (by rw [HH.out.1]; exact hxk))
      have hxa := HA.out.pub x (List.mem_of_getElem? hxk)
      obtain ⟨b3, o3, e3, _, _, hrow⟩ := row_at (HA.out.below (HB0.out.trans (HBW.out.mono HB0.out.size))).pubs hxk
      cases e3
      obtain ⟨pat, plim, padr, ptag, pbv, pbody⟩ := x
      obtain ⟨ba, bc, hbv⟩ := Sg.src_form hxa.2.2.1
      simp only at hbv
      subst hbv
      have d0 := hrow 0 _ rfl
      have d1 := hrow 1 _ rfl
      have d2 := hrow 2 _ rfl
      have d3 := hrow 3 _ rfl
      have d4 := hrow 4 _ rfl
      rw [Nat.add_zero] at d0
      have hb3 := World.block_lt_of_cell? _ _ d0
      simp only at hb3
      have HBX := Lib.hid (HBW.out.alloc HBW.out.size (.cells #[.int .i64 pat, .int .i64 plim, .string ⟨padr.toArray⟩, .string ⟨ptag.toArray⟩, .slice ba pbody.length bc] 86))
      have HOX := Lib.hid (HO.out.older ((Below.refl _ _).alloc (Nat.le_refl _) (.cells #[.int .i64 pat, .int .i64 plim, .string ⟨padr.toArray⟩, .string ⟨ptag.toArray⟩, .slice ba pbody.length bc] 86)))
      clear hxa hrow hxk
      have HXLB : Hid (xs.length ≤ 400000000000) := Lib.hid (by have := HXL.out; omega)
      have HBZ := Lib.hid (HBX.out.alloc HBX.out.size (.cells #[.int .i64 pat, .int .i64 plim] 3))
      have HOZ := Lib.hid (HOX.out.older ((Below.refl _ _).alloc (Nat.le_refl _) (.cells #[.int .i64 pat, .int .i64 plim] 3)))
      go_wp2_with (at_builtin; go_must (refine wpList_appw tyInts (by rfl) _ _ (by rfl) w1.heap.size (.slice a xs.length c) xs.length _ (by rfl) HOZ.out HBZ.out.size (.slice (some ⟨wr.heap.size + 1, 0, none⟩) 2 2) 2 [.int .i64 pat, .int .i64 plim] (by rfl) (by have h9 := heap_alloc_new (wr.alloc (.cells #[.int .i64 pat, .int .i64 plim, .string ⟨padr.toArray⟩, .string ⟨ptag.toArray⟩, .slice ba pbody.length bc] 86)) (.cells #[.int .i64 pat, .int .i64 plim] 3); rw [show (wr.alloc (.cells #[.int .i64 pat, .int .i64 plim, .string ⟨padr.toArray⟩, .string ⟨ptag.toArray⟩, .slice ba pbody.length bc] 86)).heap.size = wr.heap.size + 1 by simp] at h9; exact src_cells h9) (by rfl) (by simp [Value.oneCell']) (by have := HXLB.out; omega) ?_); intro v4 w4 hown4 hgrow4 hlies4; have HO4 := Lib.hid hown4; have HG4 := Lib.hid hgrow4; clear hown4 hgrow4 hlies4)
      have HOW4 := Lib.hid (show OwnWin w4 w1.heap.size 3 1 v4 (xs ++ [pat, plim]).length (zvals (xs ++ [pat, plim])) by rw [List.length_append, zvals_append]; exact HO4.out)
      obtain ⟨a4, c4, rfl, _⟩ := HOW4.out.form
      have HB4 := Lib.hid (HBZ.out.grown HG4.out HBZ.out.size (fun q hq => (HOZ.out.lt q hq).1))
      go_roundg (gk - 1)
      case rel => exact ⟨k + 1, _, a4, c4, by go_num, rfl, by have := HLT.out; omega, Lib.hid (by have := HXL.out; simp; omega), Lib.hid (by have := HQ.out; omega), Lib.hid HGS.out, HB4, HOW4⟩
      case measure => have := HQ.out; have := HLT.out; omega
    · obtain rfl : k = ps.length := by omega
      go_wp2_with fail
      go_loopg [41, 3] gs.length (fun gq iv vv wr => ∃ (k : Nat) (xs : List Int) (a : Option Addr) (c : Nat), iv = .int .i64 k ∧ vv = .slice a xs.length c ∧ k ≤ gs.length ∧ Hid (xs.length ≤ 2 + 2000 + 2 * k) ∧ Hid (gs.length ≤ gq + k) ∧ Hid (Got h xs (ps.length) k 0 0 0) ∧ Hid (Below w1.heap.size w1 wr) ∧ Hid (OwnWin wr w1.heap.size 3 1 (.slice a xs.length c) xs.length (zvals xs)))
      case atStart => exact ⟨0, xs, _, _, rfl, rfl, Nat.zero_le _, Lib.hid (by have := HXL.out; have := HLENS.out; omega), Lib.hid (by omega), Lib.hid (HGT.out.id), HBW, HO⟩
      case round =>
        clear HXL HGT HBW HO
        obtain ⟨k, xs, a, c, rfl, rfl, hk, HXL, HQ, HGT, HBW, HO⟩ := hrel
        have h0 := (HXH.out.older HBW.out).cell (i := 0) rfl
        have h1 := (HXH.out.older HBW.out).cell (i := 1) rfl
        have h2 := (HXH.out.older HBW.out).cell (i := 2) rfl
        have h3 := (HXH.out.older HBW.out).cell (i := 3) rfl
        have h4 := (HXH.out.older HBW.out).cell (i := 4) rfl
        have h5 := (HXH.out.older HBW.out).cell (i := 5) rfl
        have h6 := (HXH.out.older HBW.out).cell (i := 6) rfl
        have hz0 := (HXH.out.older HBW.out).lt
        by_cases hlt : k < gs.length
        · have HLT := Lib.hid hlt
          have hkb : k < 1000 := by have := HLENS.out; omega
          obtain ⟨x, hxk⟩ : ∃ x, gs[k]? = some x := ⟨_, List.getElem?_eq_getElem hlt⟩
          have HGS := Lib.hid (HGT.out.prg (by rw [HH.out.2.1]; exact hxk))
          have hxa := HA.out.prg x (List.mem_of_getElem? hxk)
          obtain ⟨b3, o3, e3, _, _, hrow⟩ := row_at (HA.out.below (HB0.out.trans (HBW.out.mono HB0.out.size))).prgs hxk
          cases e3
          obtain ⟨gt, go, gst⟩ := x
          skip
          have d0 := hrow 0 _ rfl
          have d1 := hrow 1 _ rfl
          have d2 := hrow 2 _ rfl
          rw [Nat.add_zero] at d0
          have hb3 := World.block_lt_of_cell? _ _ d0
          simp only at hb3
          have HBX := Lib.hid (HBW.out.alloc HBW.out.size (.cells #[.string ⟨gt.toArray⟩, .int .i64 go, .int .i64 gst] 97))
          have HOX := Lib.hid (HO.out.older ((Below.refl _ _).alloc (Nat.le_refl _) (.cells #[.string ⟨gt.toArray⟩, .int .i64 go, .int .i64 gst] 97)))
          clear hxa hrow hxk
          have HXLB : Hid (xs.length ≤ 400000000000) := Lib.hid (by have := HXL.out; omega)
          have HBZ := Lib.hid (HBX.out.alloc HBX.out.size (.cells #[.int .i64 go, .int .i64 gst] 3))
          have HOZ := Lib.hid (HOX.out.older ((Below.refl _ _).alloc (Nat.le_refl _) (.cells #[.int .i64 go, .int .i64 gst] 3)))
          go_wp2_with (at_builtin; go_must (refine wpList_appw tyInts (by rfl) _ _ (by rfl) w1.heap.size (.slice a xs.length c) xs.length _ (by rfl) HOZ.out HBZ.out.size (.slice (some ⟨wr.heap.size + 1, 0, none⟩) 2 2) 2 [.int .i64 go, .int .i64 gst] (by rfl) (by have h9 := heap_alloc_new (wr.alloc (.cells #[.string ⟨gt.toArray⟩, .int .i64 go, .int .i64 gst] 97)) (.cells #[.int .i64 go, .int .i64 gst] 3); rw [show (wr.alloc (.cells #[.string ⟨gt.toArray⟩, .int .i64 go, .int .i64 gst] 97)).heap.size = wr.heap.size + 1 by simp] at h9; exact src_cells h9) (by rfl) (by simp [Value.oneCell']) (by have := HXLB.out; omega) ?_); intro v4 w4 hown4 hgrow4 hlies4; have HO4 := Lib.hid hown4; have HG4 := Lib.hid hgrow4; clear hown4 hgrow4 hlies4)
          have HOW4 := Lib.hid (show OwnWin w4 w1.heap.size 3 1 v4 (xs ++ [go, gst]).length (zvals (xs ++ [go, gst])) by rw [List.length_append, zvals_append]; exact HO4.out)
          obtain ⟨a4, c4, rfl, _⟩ := HOW4.out.form
          have HB4 := Lib.hid (HBZ.out.grown HG4.out HBZ.out.size (fun q hq => (HOZ.out.lt q hq).1))
          go_roundg (gk - 1)
          case rel => exact ⟨k + 1, _, a4, c4, by go_num, rfl, by have := HLT.out; omega, Lib.hid (by have := HXL.out; simp; omega), Lib.hid (by have := HQ.out; omega), Lib.hid HGS.out, HB4, HOW4⟩
          case measure => have := HQ.out; have := HLT.out; omega
        · obtain rfl : k = gs.length := by omega
          go_wp2_with fail
          go_loopg [56, 3] ss.length (fun gq iv vv wr => ∃ (k : Nat) (xs : List Int) (a : Option Addr) (c : Nat), iv = .int .i64 k ∧ vv = .slice a xs.length c ∧ k ≤ ss.length ∧ Hid (xs.length ≤ 5000 + k * 134217730) ∧ Hid (ss.length ≤ gq + k) ∧ Hid (Got h xs (ps.length) (gs.length) k 0 0) ∧ Hid (Below w1.heap.size w1 wr) ∧ Hid (OwnWin wr w1.heap.size 3 1 (.slice a xs.length c) xs.length (zvals xs)))
          case atStart => exact ⟨0, xs, _, _, rfl, rfl, Nat.zero_le _, Lib.hid (by have := HXL.out; have := HLENS.out; omega), Lib.hid (by omega), Lib.hid (HGT.out.id), HBW, HO⟩
          case round =>
            clear HXL HGT HBW HO
            obtain ⟨k, xs, a, c, rfl, rfl, hk, HXL, HQ, HGT, HBW, HO⟩ := hrel
            obtain ⟨NQ, hNQ⟩ : ∃ z, gk = z := ⟨_, rfl⟩
            have HNQ := Lib.hid hNQ
            clear hNQ
            have h0 := (HXH.out.older HBW.out).cell (i := 0) rfl
            have h1 := (HXH.out.older HBW.out).cell (i := 1) rfl
            have h2 := (HXH.out.older HBW.out).cell (i := 2) rfl
            have h3 := (HXH.out.older HBW.out).cell (i := 3) rfl
            have h4 := (HXH.out.older HBW.out).cell (i := 4) rfl
            have h5 := (HXH.out.older HBW.out).cell (i := 5) rfl
            have h6 := (HXH.out.older HBW.out).cell (i := 6) rfl
            have hz0 := (HXH.out.older HBW.out).lt
            by_cases hlt : k < ss.length
            · have HLT := Lib.hid hlt
              have hkb : k < 1000 := by have := HLENS.out; omega
              obtain ⟨x, hxk⟩ : ∃ x, ss[k]? = some x := ⟨_, List.getElem?_eq_getElem hlt⟩
              have HGS := Lib.hid (fun (ys : List Int) hy1 hy2 hy3 => HGT.out.srv (x := x) (ys := ys) (by rw [HH.out.2.2.1]; exact hxk) hy1 hy2 hy3)
              have HAW := Lib.hid (HA.out.below (HB0.out.trans (HBW.out.mono HB0.out.size)))
              have hsr := HAW.out.srv x (List.mem_of_getElem? hxk)
              have HSR := Lib.hid hsr
              have hsr0 := HA.out.srv x (List.mem_of_getElem? hxk)
              obtain ⟨b3, o3, e3, _, _, hrow⟩ := row_at HAW.out.srvs hxk
              cases e3
              obtain ⟨edge, sadr, stag, ten, ask, at_, frm, til, tgv, tags, ptv, parts, ended⟩ := x
              obtain ⟨ta, tc, htv⟩ := hsr.2.2.2.1.form
              obtain ⟨qa, qc, hqv, _⟩ := hsr.2.2.2.2.2.2.1.form
              simp only at htv hqv HGS
              subst htv hqv
              have d0 := hrow 0 _ rfl
              have d1 := hrow 1 _ rfl
              have d2 := hrow 2 _ rfl
              have d3 := hrow 3 _ rfl
              have d4 := hrow 4 _ rfl
              have d5 := hrow 5 _ rfl
              have d6 := hrow 6 _ rfl
              have d7 := hrow 7 _ rfl
              have d8 := hrow 8 _ rfl
              have d9 := hrow 9 _ rfl
              have d10 := hrow 10 _ rfl
              rw [Nat.add_zero] at d0
              have hb3 := World.block_lt_of_cell? _ _ d0
              simp only at hb3
              have HBX := Lib.hid (HBW.out.alloc HBW.out.size (.cells #[.string ⟨edge.toArray⟩, .string ⟨sadr.toArray⟩, .string ⟨stag.toArray⟩, .int .i64 ten, .int .i64 ask, .int .i64 at_, .int .i64 frm, .int .i64 til, .slice ta tags.length tc, .slice qa parts.length qc, .bool ended] 82))
              have HOX := Lib.hid (HO.out.older ((Below.refl _ _).alloc (Nat.le_refl _) (.cells #[.string ⟨edge.toArray⟩, .string ⟨sadr.toArray⟩, .string ⟨stag.toArray⟩, .int .i64 ten, .int .i64 ask, .int .i64 at_, .int .i64 frm, .int .i64 til, .slice ta tags.length tc, .slice qa parts.length qc, .bool ended] 82)))
              have HXS := Lib.hid (Bx.new wr 82 #[.string ⟨edge.toArray⟩, .string ⟨sadr.toArray⟩, .string ⟨stag.toArray⟩, .int .i64 ten, .int .i64 ask, .int .i64 at_, .int .i64 frm, .int .i64 til, .slice ta tags.length tc, .slice qa parts.length qc, .bool ended])
              have HPQ := Lib.hid hsr0.2.2.2.2.2.2.1
              clear hsr hrow hxk hsr0
              have HXSX := Lib.hid ((HXS.out.older ((Below.refl _ _).alloc (Nat.le_refl _) (.cells #[.int .i64 at_, .int .i64 ask] 3))))
              have HXLB : Hid (xs.length ≤ 400000000000) := Lib.hid (by have := HXL.out; omega)
              have HBZ := Lib.hid (HBX.out.alloc HBX.out.size (.cells #[.int .i64 at_, .int .i64 ask] 3))
              have HOZ := Lib.hid (HOX.out.older ((Below.refl _ _).alloc (Nat.le_refl _) (.cells #[.int .i64 at_, .int .i64 ask] 3)))
              go_wp2_with (at_builtin; go_must (refine wpList_appw tyInts (by rfl) _ _ (by rfl) w1.heap.size (.slice a xs.length c) xs.length _ (by rfl) HOZ.out HBZ.out.size (.slice (some ⟨wr.heap.size + 1, 0, none⟩) 2 2) 2 [.int .i64 at_, .int .i64 ask] (by rfl) (by have h9 := heap_alloc_new (wr.alloc (.cells #[.string ⟨edge.toArray⟩, .string ⟨sadr.toArray⟩, .string ⟨stag.toArray⟩, .int .i64 ten, .int .i64 ask, .int .i64 at_, .int .i64 frm, .int .i64 til, .slice ta tags.length tc, .slice qa parts.length qc, .bool ended] 82)) (.cells #[.int .i64 at_, .int .i64 ask] 3); rw [show (wr.alloc (.cells #[.string ⟨edge.toArray⟩, .string ⟨sadr.toArray⟩, .string ⟨stag.toArray⟩, .int .i64 ten, .int .i64 ask, .int .i64 at_, .int .i64 frm, .int .i64 til, .slice ta tags.length tc, .slice qa parts.length qc, .bool ended] 82)).heap.size = wr.heap.size + 1 by simp] at h9; exact src_cells h9) (by rfl) (by simp [Value.oneCell']) (by have := HXLB.out; omega) ?_); intro v4 w4 hown4 hgrow4 hlies4; have HO4 := Lib.hid hown4; have HG4 := Lib.hid hgrow4; clear hown4 hgrow4 hlies4; have hxs4 := HXSX.out.touch (Touch.of_grown (S := fun q => (Value.slice a xs.length c).ownBlock = some q) HG4.out (fun k hk => hk)) (fun hq => HXSX.out.neOwn HOZ.out (by decide) _ hq rfl); have s9 := hxs4.cell (i := 9) rfl; have hzs := hxs4.lt)
              have HOW4 := Lib.hid (show OwnWin w4 w1.heap.size 3 1 v4 (xs ++ [at_, ask]).length (zvals (xs ++ [at_, ask])) by rw [List.length_append, zvals_append]; exact HO4.out)
              obtain ⟨a4, c4, rfl, _⟩ := HOW4.out.form
              have HB4 := Lib.hid (HBZ.out.grown HG4.out HBZ.out.size (fun q hq => (HOZ.out.lt q hq).1))
              have HXS4 := Lib.hid hxs4
              obtain ⟨zs, hzs2⟩ : ∃ z, xs ++ [at_, ask] = z := ⟨_, rfl⟩
              rw [hzs2] at HOW4 ⊢
              have HZS := Lib.hid hzs2
              have HZL := Lib.hid (show zs.length = xs.length + 2 by rw [← hzs2]; simp)
              clear hzs2
              clear hxs4 s9 hzs d0 d1 d2 d3 d4 d5 d6 d7 d8 d9 d10 hb3 h0 h1 h2 h3 h4 h5 h6 hz0
              go_loopg [70, 3] parts.length (fun gq jv vv wr => ∃ (j : Nat) (ys : List Int) (a : Option Addr) (c : Nat), jv = .int .i64 j ∧ vv = .slice a ys.length c ∧ j ≤ parts.length ∧ Hid (ys.length ≤ zs.length + j) ∧ Hid (parts.length ≤ gq + j) ∧ Hid (∀ n ∈ zs, n ∈ ys) ∧ Hid (∀ (i : Nat) (x : PartM), i < j → parts[i]? = some x → x.at_ ∈ ys) ∧ Hid (Below w1.heap.size w1 wr) ∧ Hid (OwnWin wr w1.heap.size 3 1 (.slice a ys.length c) ys.length (zvals ys)))
              case atStart => exact ⟨0, zs, a4, c4, rfl, rfl, Nat.zero_le _, Lib.hid (by simp), Lib.hid (by omega), Lib.hid (fun n hn => hn), Lib.hid (fun i x hi => by omega), HB4, HOW4⟩
              case round =>
                obtain ⟨j, ys, a, c, rfl, rfl, hj, HYL, HQ2, HY1, HY2, HBV, HOV⟩ := hrel
                have HAV := Lib.hid (HPQ.out.below (HB0.out.trans (HBV.out.mono HB0.out.size)))
                by_cases hjl : j < parts.length
                · have HJL := Lib.hid hjl
                  have hjb : j < 134217728 := by have := HSR.out.2.2.2.2.2.2.2.1; have := HBB.out; simp only at *; omega
                  obtain ⟨x, hxj⟩ : ∃ x, parts[j]? = some x := ⟨_, List.getElem?_eq_getElem hjl⟩
                  have HXJ := Lib.hid hxj
                  have hxa := HSR.out.2.2.2.2.2.2.2.2 x (List.mem_of_getElem? hxj)
                  obtain ⟨b5, o5, e5, _, _, hrow⟩ := row_at HAV.out hxj
                  cases e5
                  obtain ⟨xat, off, xdv, data⟩ := x
                  obtain ⟨dda, ddc, hdv⟩ := Sg.src_form hxa.1
                  simp only at hdv
                  subst hdv
                  have d0 := hrow 0 _ rfl
                  have d1 := hrow 1 _ rfl
                  have d2 := hrow 2 _ rfl
                  rw [Nat.add_zero] at d0
                  have hb5 := World.block_lt_of_cell? _ _ d0
                  simp only at hb5
                  have HBY := Lib.hid (HBV.out.alloc HBV.out.size (.cells #[.int .i64 xat, .int .i64 off, .slice dda data.length ddc] 88))
                  have HOY := Lib.hid (HOV.out.older ((Below.refl _ _).alloc (Nat.le_refl _) (.cells #[.int .i64 xat, .int .i64 off, .slice dda data.length ddc] 88)))
                  have HXLB : Hid (ys.length ≤ 400000000000) := Lib.hid (by have h91 := HYL.out; have h92 := HXL.out; have h95 := HZL.out; omega)
                  clear hxa hrow hxj
                  have HBZ := Lib.hid (HBY.out.alloc HBY.out.size (.cells #[.int .i64 xat] 3))
                  have HOZ := Lib.hid (HOY.out.older ((Below.refl _ _).alloc (Nat.le_refl _) (.cells #[.int .i64 xat] 3)))
                  go_wp2_with (at_builtin; go_must (refine wpList_appw tyInts (by rfl) _ _ (by rfl) w1.heap.size (.slice a ys.length c) ys.length _ (by rfl) HOZ.out HBZ.out.size (.slice (some ⟨wr.heap.size + 1, 0, none⟩) 1 1) 1 [.int .i64 xat] (by rfl) (by have h9 := heap_alloc_new (wr.alloc (.cells #[.int .i64 xat, .int .i64 off, .slice dda data.length ddc] 88)) (.cells #[.int .i64 xat] 3); rw [show (wr.alloc (.cells #[.int .i64 xat, .int .i64 off, .slice dda data.length ddc] 88)).heap.size = wr.heap.size + 1 by simp] at h9; exact src_cells h9) (by rfl) (by simp [Value.oneCell']) (by have := HXLB.out; omega) ?_); intro v4 w4 hown4 hgrow4 hlies4; have HO4 := Lib.hid hown4; have HG4 := Lib.hid hgrow4; clear hown4 hgrow4 hlies4)
                  have HOW4 := Lib.hid (show OwnWin w4 w1.heap.size 3 1 v4 (ys ++ [xat]).length (zvals (ys ++ [xat])) by rw [List.length_append, zvals_append]; exact HO4.out)
                  obtain ⟨a4, c4, rfl, _⟩ := HOW4.out.form
                  have HB4 := Lib.hid (HBZ.out.grown HG4.out HBZ.out.size (fun q hq => (HOZ.out.lt q hq).1))
                  go_roundg (gk - 1)
                  case rel => exact ⟨j + 1, _, a4, c4, by go_num, rfl, by have := HJL.out; omega, Lib.hid (by have := HYL.out; simp; omega), Lib.hid (by have := HQ2.out; omega), Lib.hid (fun n hn => List.mem_append_left _ (HY1.out n hn)), Lib.hid (fun i x hi hx => by
                    rcases Nat.lt_succ_iff_lt_or_eq.1 hi with h9 | rfl
                    · exact List.mem_append_left _ (HY2.out i x h9 hx)
                    · rw [HXJ.out] at hx; cases hx; exact List.mem_append_right _ (by simp)), HB4, HOW4⟩
                  case measure => have := HQ2.out; have := HJL.out; omega
                · obtain rfl : j = parts.length := by omega
                  go_wp2_with fail
                  go_roundg (NQ - 1)
                  case rel => exact ⟨k + 1, ys, a, c, by go_num, rfl, by have := HLT.out; omega, Lib.hid (by have h91 := HYL.out; have h92 := HXL.out; have h95 := HZL.out; have h93 := HSR.out.2.2.2.2.2.2.2.1; have h94 := HBB.out; simp only at *; omega), Lib.hid (by have := HQ.out; have := HNQ.out; omega), Lib.hid (HGS.out ys (fun n hn => HY1.out n (by rw [← HZS.out]; exact List.mem_append_left _ hn)) ⟨HY1.out _ (by rw [← HZS.out]; simp), HY1.out _ (by rw [← HZS.out]; simp)⟩ (fun x hx => by
                    obtain ⟨i, hi, rfl⟩ := List.getElem_of_mem hx
                    exact HY2.out i _ hi (List.getElem?_eq_getElem hi))), HBV, HOV⟩
                  case measure => have := HQ.out; have := HNQ.out; have := HLT.out; omega
            · obtain rfl : k = ss.length := by omega
              go_wp2_with fail
              go_loopg [84, 3] fs.length (fun gq iv vv wr => ∃ (k : Nat) (xs : List Int) (a : Option Addr) (c : Nat), iv = .int .i64 k ∧ vv = .slice a xs.length c ∧ k ≤ fs.length ∧ Hid (xs.length ≤ 200000000000 + k) ∧ Hid (fs.length ≤ gq + k) ∧ Hid (Got h xs (ps.length) (gs.length) (ss.length) k 0) ∧ Hid (Below w1.heap.size w1 wr) ∧ Hid (OwnWin wr w1.heap.size 3 1 (.slice a xs.length c) xs.length (zvals xs)))
              case atStart => exact ⟨0, xs, _, _, rfl, rfl, Nat.zero_le _, Lib.hid (by have := HXL.out; have := HLENS.out; omega), Lib.hid (by omega), Lib.hid (HGT.out.id), HBW, HO⟩
              case round =>
                clear HXL HGT HBW HO
                obtain ⟨k, xs, a, c, rfl, rfl, hk, HXL, HQ, HGT, HBW, HO⟩ := hrel
                have h0 := (HXH.out.older HBW.out).cell (i := 0) rfl
                have h1 := (HXH.out.older HBW.out).cell (i := 1) rfl
                have h2 := (HXH.out.older HBW.out).cell (i := 2) rfl
                have h3 := (HXH.out.older HBW.out).cell (i := 3) rfl
                have h4 := (HXH.out.older HBW.out).cell (i := 4) rfl
                have h5 := (HXH.out.older HBW.out).cell (i := 5) rfl
                have h6 := (HXH.out.older HBW.out).cell (i := 6) rfl
                have hz0 := (HXH.out.older HBW.out).lt
                by_cases hlt : k < fs.length
                · have HLT := Lib.hid hlt
                  have hkb : k < 1000 := by have := HLENS.out; omega
                  obtain ⟨x, hxk⟩ : ∃ x, fs[k]? = some x := ⟨_, List.getElem?_eq_getElem hlt⟩
                  have HGS := Lib.hid (HGT.out.fet (by rw [HH.out.2.2.2.1]; exact hxk))
                  have hxa := HA.out.fet x (List.mem_of_getElem? hxk)
                  obtain ⟨b3, o3, e3, _, _, hrow⟩ := row_at (HA.out.below (HB0.out.trans (HBW.out.mono HB0.out.size))).fets hxk
                  cases e3
                  obtain ⟨fn, fk, ft, fat, fp, ff⟩ := x
                  skip
                  have d0 := hrow 0 _ rfl
                  have d1 := hrow 1 _ rfl
                  have d2 := hrow 2 _ rfl
                  have d3 := hrow 3 _ rfl
                  have d4 := hrow 4 _ rfl
                  have d5 := hrow 5 _ rfl
                  rw [Nat.add_zero] at d0
                  have hb3 := World.block_lt_of_cell? _ _ d0
                  simp only at hb3
                  have HBX := Lib.hid (HBW.out.alloc HBW.out.size (.cells #[.string ⟨fn.toArray⟩, .string ⟨fk.toArray⟩, .string ⟨ft.toArray⟩, .int .i64 fat, .int .i64 fp, .bool ff] 102))
                  have HOX := Lib.hid (HO.out.older ((Below.refl _ _).alloc (Nat.le_refl _) (.cells #[.string ⟨fn.toArray⟩, .string ⟨fk.toArray⟩, .string ⟨ft.toArray⟩, .int .i64 fat, .int .i64 fp, .bool ff] 102)))
                  clear hxa hrow hxk
                  have HXLB : Hid (xs.length ≤ 400000000000) := Lib.hid (by have := HXL.out; omega)
                  have HBZ := Lib.hid (HBX.out.alloc HBX.out.size (.cells #[.int .i64 fat] 3))
                  have HOZ := Lib.hid (HOX.out.older ((Below.refl _ _).alloc (Nat.le_refl _) (.cells #[.int .i64 fat] 3)))
                  go_wp2_with (at_builtin; go_must (refine wpList_appw tyInts (by rfl) _ _ (by rfl) w1.heap.size (.slice a xs.length c) xs.length _ (by rfl) HOZ.out HBZ.out.size (.slice (some ⟨wr.heap.size + 1, 0, none⟩) 1 1) 1 [.int .i64 fat] (by rfl) (by have h9 := heap_alloc_new (wr.alloc (.cells #[.string ⟨fn.toArray⟩, .string ⟨fk.toArray⟩, .string ⟨ft.toArray⟩, .int .i64 fat, .int .i64 fp, .bool ff] 102)) (.cells #[.int .i64 fat] 3); rw [show (wr.alloc (.cells #[.string ⟨fn.toArray⟩, .string ⟨fk.toArray⟩, .string ⟨ft.toArray⟩, .int .i64 fat, .int .i64 fp, .bool ff] 102)).heap.size = wr.heap.size + 1 by simp] at h9; exact src_cells h9) (by rfl) (by simp [Value.oneCell']) (by have := HXLB.out; omega) ?_); intro v4 w4 hown4 hgrow4 hlies4; have HO4 := Lib.hid hown4; have HG4 := Lib.hid hgrow4; clear hown4 hgrow4 hlies4)
                  have HOW4 := Lib.hid (show OwnWin w4 w1.heap.size 3 1 v4 (xs ++ [fat]).length (zvals (xs ++ [fat])) by rw [List.length_append, zvals_append]; exact HO4.out)
                  obtain ⟨a4, c4, rfl, _⟩ := HOW4.out.form
                  have HB4 := Lib.hid (HBZ.out.grown HG4.out HBZ.out.size (fun q hq => (HOZ.out.lt q hq).1))
                  go_roundg (gk - 1)
                  case rel => exact ⟨k + 1, _, a4, c4, by go_num, rfl, by have := HLT.out; omega, Lib.hid (by have := HXL.out; simp; omega), Lib.hid (by have := HQ.out; omega), Lib.hid HGS.out, HB4, HOW4⟩
                  case measure => have := HQ.out; have := HLT.out; omega
                · obtain rfl : k = fs.length := by omega
                  go_wp2_with fail
                  go_loopg [97, 3] ds.length (fun gq iv vv wr => ∃ (k : Nat) (xs : List Int) (a : Option Addr) (c : Nat), iv = .int .i64 k ∧ vv = .slice a xs.length c ∧ k ≤ ds.length ∧ Hid (xs.length ≤ 200000100000 + k) ∧ Hid (ds.length ≤ gq + k) ∧ Hid (Got h xs (ps.length) (gs.length) (ss.length) (fs.length) k) ∧ Hid (Below w1.heap.size w1 wr) ∧ Hid (OwnWin wr w1.heap.size 3 1 (.slice a xs.length c) xs.length (zvals xs)))
                  case atStart => exact ⟨0, xs, _, _, rfl, rfl, Nat.zero_le _, Lib.hid (by have := HXL.out; have := HLENS.out; omega), Lib.hid (by omega), Lib.hid (HGT.out.id), HBW, HO⟩
                  case round =>
                    clear HXL HGT HBW HO
                    obtain ⟨k, xs, a, c, rfl, rfl, hk, HXL, HQ, HGT, HBW, HO⟩ := hrel
                    have h0 := (HXH.out.older HBW.out).cell (i := 0) rfl
                    have h1 := (HXH.out.older HBW.out).cell (i := 1) rfl
                    have h2 := (HXH.out.older HBW.out).cell (i := 2) rfl
                    have h3 := (HXH.out.older HBW.out).cell (i := 3) rfl
                    have h4 := (HXH.out.older HBW.out).cell (i := 4) rfl
                    have h5 := (HXH.out.older HBW.out).cell (i := 5) rfl
                    have h6 := (HXH.out.older HBW.out).cell (i := 6) rfl
                    have hz0 := (HXH.out.older HBW.out).lt
                    by_cases hlt : k < ds.length
                    · have HLT := Lib.hid hlt
                      have hkb : k < 1000 := by have := HLENS.out; omega
                      obtain ⟨x, hxk⟩ : ∃ x, ds[k]? = some x := ⟨_, List.getElem?_eq_getElem hlt⟩
                      have HGS := Lib.hid (HGT.out.dro (by rw [HH.out.2.2.2.2]; exact hxk))
                      have hxa := HA.out.dro x (List.mem_of_getElem? hxk)
                      obtain ⟨b3, o3, e3, _, _, hrow⟩ := row_at (HA.out.below (HB0.out.trans (HBW.out.mono HB0.out.size))).dros hxk
                      cases e3
                      obtain ⟨dn, dk, dat⟩ := x
                      skip
                      have d0 := hrow 0 _ rfl
                      have d1 := hrow 1 _ rfl
                      have d2 := hrow 2 _ rfl
                      rw [Nat.add_zero] at d0
                      have hb3 := World.block_lt_of_cell? _ _ d0
                      simp only at hb3
                      have HBX := Lib.hid (HBW.out.alloc HBW.out.size (.cells #[.string ⟨dn.toArray⟩, .string ⟨dk.toArray⟩, .int .i64 dat] 104))
                      have HOX := Lib.hid (HO.out.older ((Below.refl _ _).alloc (Nat.le_refl _) (.cells #[.string ⟨dn.toArray⟩, .string ⟨dk.toArray⟩, .int .i64 dat] 104)))
                      clear hxa hrow hxk
                      have HXLB : Hid (xs.length ≤ 400000000000) := Lib.hid (by have := HXL.out; omega)
                      have HBZ := Lib.hid (HBX.out.alloc HBX.out.size (.cells #[.int .i64 dat] 3))
                      have HOZ := Lib.hid (HOX.out.older ((Below.refl _ _).alloc (Nat.le_refl _) (.cells #[.int .i64 dat] 3)))
                      go_wp2_with (at_builtin; go_must (refine wpList_appw tyInts (by rfl) _ _ (by rfl) w1.heap.size (.slice a xs.length c) xs.length _ (by rfl) HOZ.out HBZ.out.size (.slice (some ⟨wr.heap.size + 1, 0, none⟩) 1 1) 1 [.int .i64 dat] (by rfl) (by have h9 := heap_alloc_new (wr.alloc (.cells #[.string ⟨dn.toArray⟩, .string ⟨dk.toArray⟩, .int .i64 dat] 104)) (.cells #[.int .i64 dat] 3); rw [show (wr.alloc (.cells #[.string ⟨dn.toArray⟩, .string ⟨dk.toArray⟩, .int .i64 dat] 104)).heap.size = wr.heap.size + 1 by simp] at h9; exact src_cells h9) (by rfl) (by simp [Value.oneCell']) (by have := HXLB.out; omega) ?_); intro v4 w4 hown4 hgrow4 hlies4; have HO4 := Lib.hid hown4; have HG4 := Lib.hid hgrow4; clear hown4 hgrow4 hlies4)
                      have HOW4 := Lib.hid (show OwnWin w4 w1.heap.size 3 1 v4 (xs ++ [dat]).length (zvals (xs ++ [dat])) by rw [List.length_append, zvals_append]; exact HO4.out)
                      obtain ⟨a4, c4, rfl, _⟩ := HOW4.out.form
                      have HB4 := Lib.hid (HBZ.out.grown HG4.out HBZ.out.size (fun q hq => (HOZ.out.lt q hq).1))
                      go_roundg (gk - 1)
                      case rel => exact ⟨k + 1, _, a4, c4, by go_num, rfl, by have := HLT.out; omega, Lib.hid (by have := HXL.out; simp; omega), Lib.hid (by have := HQ.out; omega), Lib.hid HGS.out, HB4, HOW4⟩
                      case measure => have := HQ.out; have := HLT.out; omega
                    · obtain rfl : k = ds.length := by omega
                      go_wp2_with fail
                      obtain ⟨wE, hwE⟩ : ∃ z, z = wr := ⟨_, rfl⟩
                      subst hwE
                      clear h0 h1 h2 h3 h4 h5 h6 hz0
                      go_loopg [109] xs.length (fun gq iv wr => ∃ k : Nat, iv = .int .i64 k ∧ k ≤ xs.length ∧ Hid (xs.length ≤ gq + k) ∧ Hid (∀ (j : Nat) (n : Int), j < k → xs[j]? = some n → inB n) ∧ wr = wE)
                      case atStart => exact ⟨0, rfl, Nat.zero_le _, Lib.hid (by omega), Lib.hid (fun j n hj => by omega), rfl⟩
                      case round =>
                        obtain ⟨k, rfl, hk, HQ, HIN, rfl⟩ := hrel
                        by_cases hlt : k < xs.length
                        · have HLT := Lib.hid hlt
                          have hkb : k < 400000000000 := by have := HXL.out; have := HLENS.out; omega
                          obtain ⟨n, hnk⟩ : ∃ n, xs[k]? = some n := ⟨_, List.getElem?_eq_getElem hlt⟩
                          have HNK := Lib.hid hnk
                          obtain ⟨og, oo, oc', e9, _, _, _, _, hcell⟩ := HO.out.cells (by omega)
                          cases e9
                          have o0 := hcell k (.int .i64 n) (by unfold zvals; rw [List.getElem?_map, hnk]; rfl)
                          clear hcell hnk
                          by_cases n1 : n < -1152921504606846976
                          · go_wp2_with fail
                            go_ret
                            exact ⟨true, rfl, fun h => (by cases h), HB0.out.trans (HBW.out.mono HB0.out.size)⟩
                          · have n1f : decide (n < -1152921504606846976) = false := decide_eq_false n1
                            by_cases n2 : 1152921504606846976 < n
                            · go_wp2_with fail
                              go_ret
                              exact ⟨true, rfl, fun h => (by cases h), HB0.out.trans (HBW.out.mono HB0.out.size)⟩
                            · have n2f : decide (1152921504606846976 < n) = false := decide_eq_false n2
                              have HNI : Hid (inB n) := Lib.hid ⟨by omega, by omega⟩
                              clear n1 n2
                              go_wp2_with fail
                              go_roundg (gk - 1)
                              case rel => exact ⟨k + 1, by go_num, by have := HLT.out; omega, Lib.hid (by have := HQ.out; omega), Lib.hid (fun j m hj hm => by
                                rcases Nat.lt_succ_iff_lt_or_eq.1 hj with h9 | rfl
                                · exact HIN.out j m h9 hm
                                · rw [HNK.out] at hm; cases hm; exact HNI.out), rfl⟩
                              case measure => have := HQ.out; have := HLT.out; omega
                        · have HALL := Lib.hid (Got.small (h := h) (xs := xs) (by rw [HH.out.1, HH.out.2.1, HH.out.2.2.1, HH.out.2.2.2.1, HH.out.2.2.2.2]; exact HGT.out) (fun n hn => by
                            obtain ⟨j, hj, rfl⟩ := List.getElem_of_mem hn
                            exact HIN.out j _ (by omega) (List.getElem?_eq_getElem hj)) HLS.out)
                          go_wp2_with fail
                          go_ret
                          exact ⟨false, rfl, fun _ => HALL.out, HB0.out.trans (HBW.out.mono HB0.out.size)⟩
end Hy
end Go.Proofs.YtjijijjkkhpjnaaGreatDoor
end

