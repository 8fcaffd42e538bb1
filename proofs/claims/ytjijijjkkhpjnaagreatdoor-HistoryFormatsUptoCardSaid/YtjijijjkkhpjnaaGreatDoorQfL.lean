/- Contracts and plain facts that the statement's proof leans on (texts joined). No condition beyond those that each names. -/
import Derived.Lib.SmallJoins
import Derived.Lib.ItoaNum
import Derived.Lib.AppendIntMem
import Derived.Lib.LaidTab
import Derived.Test.YtjijijjkkhpjnaaGreatDoorQfE
import Derived.Test.YtjijijjkkhpjnaaGreatDoorQfG
import Derived.Test.YtjijijjkkhpjnaaGreatDoorQfK
section
namespace Go.Proofs.YtjijijjkkhpjnaaGreatDoor
open Go.RowKit Pl Ad
attribute [local go_sem] ba_get ba_append ba_extract conv_one
set_option maxRecDepth 100000
set_option maxHeartbeats 4000000
set_option linter.unusedVariables false
set_option linter.unusedSimpArgs false
namespace Hy
open A1 Kr
theorem ruleL_other {h : HisM} {r : Int} (h1 : ¬ r = 1) (h2 : ¬ r = 2) (h3 : ¬ r = 3) (h4 : ¬ r = 4) (h5 : ¬ r = 5) : ruleL h r = [] := by
  unfold ruleL
  rw [if_neg h1, if_neg h2, if_neg h3, if_neg h4, if_neg h5]
theorem rule0_any (h : HisM) (va vb vc vd ve : Value) (B : Nat) (r : Int) (w : World) (h1 : ¬ r = 1) (h2 : ¬ r = 2) (h3 : ¬ r = 3) (h4 : ¬ r = 4) (h5 : ¬ r = 5) (ha : HisAt w B va vb vc vd ve h) (hsm : h.Small) (hB : B ≤ 134217728) :
    Calls Tryz.prog 31 #[.agg #[va, vb, vc, vd, ve, .int .i64 h.bound, .int .i64 h.fin], .int .i64 r] w fun e w' => ∃ v, e = .returned v ∧ OwnWin w' w.heap.size 90 3 v 0 [] ∧ Below w.heap.size w w' := by
  obtain ⟨ps, gs, ss, fs, ds, bound, fin⟩ := h
  simp only at ha hsm ⊢
  have HA := Lib.hid ha
  have HSM := Lib.hid hsm
  have HBB := Lib.hid hB
  have HB0 := Lib.hid ((Below.refl w.heap.size w).alloc (Nat.le_refl _) (.cells #[va, vb, vc, vd, ve, .int .i64 bound, .int .i64 fin] 69))
  have e1 : (r == 1) = false := beq_eq_false_iff_ne.2 h1
  have e2 : (r == 2) = false := beq_eq_false_iff_ne.2 h2
  have e3 : (r == 3) = false := beq_eq_false_iff_ne.2 h3
  have e4 : (r == 4) = false := beq_eq_false_iff_ne.2 h4
  have e5 : (r == 5) = false := beq_eq_false_iff_ne.2 h5
  clear ha hsm hB h1 h2 h3 h4 h5
  go_enter Tryz.func31, Tryz.ntmps31
  go_wp2_with fail
  refine (spans_any ps va B _ (HA.out.below HB0.out).pubs (by have h91 := HSM.out.npub; simp only at h91; omega) (HA.out.below HB0.out).pub (by have := HBB.out; omega)).mono ?_
  rintro e w2 ⟨allv, rfl, hsp, hb2⟩
  have HB2 := Lib.hid (HB0.out.trans (hb2.mono HB0.out.size))
  clear hb2 hsp
  go_wp2_with fail
  go_ret
  exact ⟨_, rfl, OwnWin.nil _ _ _ _, HB2.out⟩
theorem rule_any (h : HisM) (va vb vc vd ve : Value) (B : Nat) (r : Int) (w : World) (hr : Ready w) (hpw : ParseAt w) (ha : HisAt w B va vb vc vd ve h) (hsm : h.Small) (hB : B ≤ 134217728) :
    Calls Tryz.prog 31 #[.agg #[va, vb, vc, vd, ve, .int .i64 h.bound, .int .i64 h.fin], .int .i64 r] w fun e w' => ∃ v, e = .returned v ∧ OwnWin w' w.heap.size 90 3 v (ruleL h r).length (vvals (ruleL h r)) ∧ Below w.heap.size w w' := by
  by_cases h1 : r = 1
  · subst h1; exact rule1_any h va vb vc vd ve B w hr hpw ha hsm hB
  by_cases h2 : r = 2
  · subst h2; exact rule2_any h va vb vc vd ve B w hr hpw ha hsm hB
  by_cases h3 : r = 3
  · subst h3; exact rule3_any h va vb vc vd ve B w hr hpw ha hsm hB
  by_cases h4 : r = 4
  · subst h4; exact rule4_any h va vb vc vd ve B w hr hpw ha hsm hB
  by_cases h5 : r = 5
  · subst h5; exact rule5_any h va vb vc vd ve B w hr hpw ha hsm hB
  rw [ruleL_other h1 h2 h3 h4 h5]
  exact rule0_any h va vb vc vd ve B r w h1 h2 h3 h4 h5 ha hsm hB
theorem vioF_len2 {α : Type} {r : Int} {tx : Bs} {bad : Nat → α → Bool} (l : List α) (k : Nat) : (vioF r tx bad l k).length ≤ l.length := vioF_len
theorem ruleL_len {h : HisM} (hs : h.Small) (r : Int) : (ruleL h r).length ≤ 1000 := by
  unfold ruleL
  split
  · exact Nat.le_trans (vioF_len2 _ _) hs.nsrv
  split
  · exact Nat.le_trans (vioF_len2 _ _) hs.nprg
  split
  · exact Nat.le_trans (vioF_len2 _ _) hs.nsrv
  split
  · exact Nat.le_trans (vioF_len2 _ _) hs.nsrv
  split
  · exact Nat.le_trans (vioF_len2 _ _) hs.nfet
  · simp
/-- The violations of the first k rules. -/
def firstL (h : HisM) (k : Nat) : List VioM := (List.range k).flatMap fun (i : Nat) => ruleL h ((i : Int) + 1)
theorem firstL_succ (h : HisM) (k : Nat) : firstL h (k + 1) = firstL h k ++ ruleL h ((k : Int) + 1) := by
  unfold firstL
  rw [List.range_succ, List.flatMap_append]
  simp
theorem firstL_five (h : HisM) : firstL h 5 = checkL h := by
  have e : List.range 5 = [0, 1, 2, 3, 4] := rfl
  unfold firstL checkL
  rw [e]
  simp [ruleL]
theorem firstL_len {h : HisM} (hs : h.Small) : ∀ k, (firstL h k).length ≤ 1000 * k
  | 0 => Nat.le_refl _
  | k + 1 => by
    have h1 := firstL_len hs k
    have h2 := ruleL_len hs ((k : Int) + 1)
    rw [firstL_succ, List.length_append]; omega
theorem vvals_one' : ∀ l : List VioM, ∀ u ∈ vvals l, u.oneCell' = true
  | [] => fun u h => by cases h
  | v :: r => fun u h => by
    rcases List.mem_append.1 h with h | h
    · simp [vioR] at h
      rcases h with rfl | rfl | rfl <;> rfl
    · exact vvals_one' r u h
theorem check_any (h : HisM) (va vb vc vd ve : Value) (B : Nat) (w : World) (hr : Ready w) (hpw : ParseAt w) (ha : HisAt w B va vb vc vd ve h) (hsm : h.Small) (hB : B ≤ 134217728) :
    Calls Tryz.prog 34 #[.agg #[va, vb, vc, vd, ve, .int .i64 h.bound, .int .i64 h.fin]] w fun e w' => ∃ v, e = .returned v ∧ OwnWin w' w.heap.size 90 3 v (checkL h).length (vvals (checkL h)) ∧ Below w.heap.size w w' := by
  have HA := Lib.hid ha
  have HSM := Lib.hid hsm
  have HBB := Lib.hid hB
  have HRY := Lib.hid hr
  have HPW := Lib.hid hpw
  have H5 := Lib.hid (firstL_five h)
  have HB0 := Lib.hid ((Below.refl w.heap.size w).alloc (Nat.le_refl _) (.cells #[va, vb, vc, vd, ve, .int .i64 h.bound, .int .i64 h.fin] 69))
  have HXH := Lib.hid (Bx.new w 69 #[va, vb, vc, vd, ve, .int .i64 h.bound, .int .i64 h.fin])
  clear ha hsm hB hr hpw
  go_enter Tryz.func34, Tryz.ntmps34
  go_wp2_with fail
  obtain ⟨w1, hw1⟩ : ∃ z, w.alloc (.cells #[va, vb, vc, vd, ve, .int .i64 h.bound, .int .i64 h.fin] 69) = z := ⟨_, rfl⟩
  obtain ⟨b0, hb0⟩ : ∃ z, w.heap.size = z := ⟨_, rfl⟩
  rw [hw1] at HB0 HXH ⊢
  rw [hb0] at HXH ⊢
  clear hw1 hb0
  go_loopg [4, 3] 5 (fun gq iv vv wr => ∃ (k : Nat) (a : Option Addr) (c : Nat), iv = .int .i64 ((k : Int) + 1) ∧ vv = .slice a (firstL h k).length c ∧ k ≤ 5 ∧ Hid (5 ≤ gq + k) ∧ Hid (Below w1.heap.size w1 wr) ∧ Hid (OwnWin wr w1.heap.size 90 3 (.slice a (firstL h k).length c) (firstL h k).length (vvals (firstL h k))))
  case atStart => exact ⟨0, none, 0, rfl, rfl, Nat.zero_le _, Lib.hid (by omega), Lib.hid (Below.refl _ _), Lib.hid (OwnWin.nil _ _ _ _)⟩
  case round =>
    obtain ⟨k, a, c, rfl, rfl, hk, HQ, HBW, HO⟩ := hrel
    have HFS := Lib.hid (firstL_succ h k)
    have HFL := Lib.hid (firstL_len HSM.out k)
    have HRL := Lib.hid (ruleL_len HSM.out ((k : Int) + 1))
    obtain ⟨acc, hacc⟩ : ∃ z, firstL h k = z := ⟨_, rfl⟩
    rw [hacc] at HO HFS HFL ⊢
    by_cases hlt : k < 5
    · have HLT := Lib.hid hlt
      have hle : (k : Int) + 1 ≤ 5 := by omega
      have h0 := (HXH.out.older HBW.out).cell (i := 0) rfl
      have h1 := (HXH.out.older HBW.out).cell (i := 1) rfl
      have h2 := (HXH.out.older HBW.out).cell (i := 2) rfl
      have h3 := (HXH.out.older HBW.out).cell (i := 3) rfl
      have h4 := (HXH.out.older HBW.out).cell (i := 4) rfl
      have h5 := (HXH.out.older HBW.out).cell (i := 5) rfl
      have h6 := (HXH.out.older HBW.out).cell (i := 6) rfl
      have HBX := Lib.hid (HB0.out.trans (HBW.out.mono HB0.out.size))
      clear hacc
      go_wp2_with fail
      refine (rule_any h va vb vc vd ve B ((k : Int) + 1) _ (HRY.out.below HBX.out) (HPW.out.below HBX.out) (HA.out.below HBX.out) HSM.out HBB.out).mono ?_
      rintro e w3 ⟨u, rfl, hou, hb3⟩
      have HB3 := Lib.hid (HBW.out.trans (hb3.mono HBW.out.size))
      have HO3 := Lib.hid (HO.out.older hb3)
      have HOU := Lib.hid hou
      obtain ⟨ua, uc, rfl, _⟩ := hou.form
      clear hou hb3 h0 h1 h2 h3 h4 h5 h6
      obtain ⟨rl, hrl⟩ : ∃ z, ruleL h ((k : Int) + 1) = z := ⟨_, rfl⟩
      rw [hrl] at HOU HFS HRL ⊢
      clear hrl
      go_wp2_with (at_builtin; refine wpList_appw tyVio (by rfl) _ _ (by rfl) w1.heap.size (.slice a acc.length c) acc.length _ (by rfl) HO3.out HB3.out.size (.slice ua rl.length uc) rl.length (vvals rl) (by rfl) (SrcAt.of HOU.out) (vvals_len rl) (vvals_one' rl) (by have h91 := HFL.out; have h92 := HRL.out; omega) ?_; intro v4 w4 hown4 hgrow4 hlies4; have HO4 := Lib.hid hown4; have HG4 := Lib.hid hgrow4; clear hown4 hgrow4 hlies4)
      have HOW4 := Lib.hid (show OwnWin w4 w1.heap.size 90 3 v4 (firstL h (k + 1)).length (vvals (firstL h (k + 1))) by rw [HFS.out, List.length_append, vvals_append]; exact HO4.out)
      obtain ⟨a4, c4, rfl, _⟩ := HOW4.out.form
      have HB4 := Lib.hid (HB3.out.grown HG4.out HB3.out.size (fun q hq => (HO3.out.lt q hq).1))
      go_roundg (gk - 1)
      case rel => exact ⟨k + 1, a4, c4, by go_num, rfl, by have := HLT.out; omega, Lib.hid (by have := HQ.out; omega), HB4, HOW4⟩
      case measure => have := HQ.out; have := HLT.out; omega
    · obtain rfl : k = 5 := by omega
      have HE := Lib.hid (show checkL h = acc by rw [← H5.out, hacc])
      clear hacc
      go_wp2_with fail
      go_ret
      exact ⟨_, rfl, by rw [HE.out]; exact HO.out.mono (fun q hq => Nat.le_trans HB0.out.size (HO.out.lt q hq).1), HB0.out.trans (HBW.out.mono HB0.out.size)⟩
end Hy
end Go.Proofs.YtjijijjkkhpjnaaGreatDoor
end

section
namespace Go.Proofs.YtjijijjkkhpjnaaGreatDoor
open Go.RowKit Pl Ad
attribute [local go_sem] ba_get ba_append ba_extract conv_one
set_option maxRecDepth 100000
set_option maxHeartbeats 4000000
set_option linter.unusedVariables false
set_option linter.unusedSimpArgs false
namespace Hy
open A1 Kr
/-- What a list of times holds of a history: of the first elements of each list. -/
structure Got (h : HisM) (xs : List Int) (a b c d e : Nat) : Prop where
  bd : h.bound ∈ xs
  fn : h.fin ∈ xs
  pu : ∀ (j : Nat) (p : PubM), j < a → h.pubs[j]? = some p → p.at_ ∈ xs ∧ p.lim ∈ xs
  pr : ∀ (j : Nat) (g : PrgM), j < b → h.prgs[j]? = some g → g.ord ∈ xs ∧ g.stl ∈ xs
  sr : ∀ (j : Nat) (s : SrvM), j < c → h.srvs[j]? = some s → s.at_ ∈ xs ∧ s.ask ∈ xs ∧ ∀ x ∈ s.parts, x.at_ ∈ xs
  fe : ∀ (j : Nat) (f : FetM), j < d → h.fets[j]? = some f → f.at_ ∈ xs
  dr : ∀ (j : Nat) (d : DroM), j < e → h.dros[j]? = some d → d.at_ ∈ xs
section
variable {h : HisM} {xs ys : List Int} {a b c d e : Nat}
theorem Got.id (k : Got h xs a b c d e) : Got h xs a b c d e := k
theorem Got.more (k : Got h xs a b c d e) (hy : ∀ n ∈ xs, n ∈ ys) : Got h ys a b c d e :=
  ⟨hy _ k.bd, hy _ k.fn, fun j p h1 h2 => ⟨hy _ (k.pu j p h1 h2).1, hy _ (k.pu j p h1 h2).2⟩, fun j p h1 h2 => ⟨hy _ (k.pr j p h1 h2).1, hy _ (k.pr j p h1 h2).2⟩, fun j p h1 h2 => ⟨hy _ (k.sr j p h1 h2).1, hy _ (k.sr j p h1 h2).2.1, fun x hx => hy _ ((k.sr j p h1 h2).2.2 x hx)⟩, fun j p h1 h2 => hy _ (k.fe j p h1 h2), fun j p h1 h2 => hy _ (k.dr j p h1 h2)⟩
theorem Got.pub (k : Got h xs a b c d e) {p : PubM} (hp : h.pubs[a]? = some p) : Got h (xs ++ [p.at_, p.lim]) (a + 1) b c d e := by
  have m := k.more (ys := xs ++ [p.at_, p.lim]) (fun n hn => List.mem_append_left _ hn)
  refine ⟨m.bd, m.fn, ?_, m.pr, m.sr, m.fe, m.dr⟩
  intro j q hj hq
  rcases Nat.lt_succ_iff_lt_or_eq.1 hj with h9 | rfl
  · exact ⟨List.mem_append_left _ (k.pu j q h9 hq).1, List.mem_append_left _ (k.pu j q h9 hq).2⟩
  · rw [hp] at hq; cases hq; exact ⟨by simp, by simp⟩
theorem Got.prg (k : Got h xs a b c d e) {p : PrgM} (hp : h.prgs[b]? = some p) : Got h (xs ++ [p.ord, p.stl]) a (b + 1) c d e := by
  have m := k.more (ys := xs ++ [p.ord, p.stl]) (fun n hn => List.mem_append_left _ hn)
  refine ⟨m.bd, m.fn, m.pu, ?_, m.sr, m.fe, m.dr⟩
  intro j q hj hq
  rcases Nat.lt_succ_iff_lt_or_eq.1 hj with h9 | rfl
  · exact ⟨List.mem_append_left _ (k.pr j q h9 hq).1, List.mem_append_left _ (k.pr j q h9 hq).2⟩
  · rw [hp] at hq; cases hq; exact ⟨by simp, by simp⟩
theorem Got.srv (k : Got h xs a b c d e) {x : SrvM} (hp : h.srvs[c]? = some x) (h1 : ∀ n ∈ xs, n ∈ ys) (h2 : x.at_ ∈ ys ∧ x.ask ∈ ys) (h3 : ∀ y ∈ x.parts, y.at_ ∈ ys) : Got h ys a b (c + 1) d e := by
  have m := k.more h1
  refine ⟨m.bd, m.fn, m.pu, m.pr, ?_, m.fe, m.dr⟩
  intro j q hj hq
  rcases Nat.lt_succ_iff_lt_or_eq.1 hj with h9 | rfl
  · exact ⟨h1 _ (k.sr j q h9 hq).1, h1 _ (k.sr j q h9 hq).2.1, fun y hy => h1 _ ((k.sr j q h9 hq).2.2 y hy)⟩
  · rw [hp] at hq; cases hq; exact ⟨h2.1, h2.2, h3⟩
theorem Got.fet (k : Got h xs a b c d e) {p : FetM} (hp : h.fets[d]? = some p) : Got h (xs ++ [p.at_]) a b c (d + 1) e := by
  have m := k.more (ys := xs ++ [p.at_]) (fun n hn => List.mem_append_left _ hn)
  refine ⟨m.bd, m.fn, m.pu, m.pr, m.sr, ?_, m.dr⟩
  intro j q hj hq
  rcases Nat.lt_succ_iff_lt_or_eq.1 hj with h9 | rfl
  · exact List.mem_append_left _ (k.fe j q h9 hq)
  · rw [hp] at hq; cases hq; simp
theorem Got.dro (k : Got h xs a b c d e) {p : DroM} (hp : h.dros[e]? = some p) : Got h (xs ++ [p.at_]) a b c d (e + 1) := by
  have m := k.more (ys := xs ++ [p.at_]) (fun n hn => List.mem_append_left _ hn)
  refine ⟨m.bd, m.fn, m.pu, m.pr, m.sr, m.fe, ?_⟩
  intro j q hj hq
  rcases Nat.lt_succ_iff_lt_or_eq.1 hj with h9 | rfl
  · exact List.mem_append_left _ (k.dr j q h9 hq)
  · rw [hp] at hq; cases hq; simp
/-- Few elements. -/
def Lens (h : HisM) : Prop := h.pubs.length ≤ 1000 ∧ h.prgs.length ≤ 1000 ∧ h.srvs.length ≤ 1000 ∧ h.fets.length ≤ 1000 ∧ h.dros.length ≤ 1000
theorem Got.small (k : Got h xs h.pubs.length h.prgs.length h.srvs.length h.fets.length h.dros.length) (hb : ∀ n ∈ xs, inB n) (hl : Lens h) : h.Small :=
  ⟨fun p hp => by
      obtain ⟨j, hj, rfl⟩ := List.getElem_of_mem hp
      have := k.pu j _ hj (List.getElem?_eq_getElem hj)
      exact ⟨hb _ this.1, hb _ this.2⟩,
   fun p hp => by
      obtain ⟨j, hj, rfl⟩ := List.getElem_of_mem hp
      have := k.pr j _ hj (List.getElem?_eq_getElem hj)
      exact ⟨hb _ this.1, hb _ this.2⟩,
   fun p hp => by
      obtain ⟨j, hj, rfl⟩ := List.getElem_of_mem hp
      have := k.sr j _ hj (List.getElem?_eq_getElem hj)
      exact ⟨hb _ this.1, hb _ this.2.1, fun x hx => hb _ (this.2.2 x hx)⟩,
   fun p hp => by
      obtain ⟨j, hj, rfl⟩ := List.getElem_of_mem hp
      exact hb _ (k.fe j _ hj (List.getElem?_eq_getElem hj)),
   fun p hp => by
      obtain ⟨j, hj, rfl⟩ := List.getElem_of_mem hp
      exact hb _ (k.dr j _ hj (List.getElem?_eq_getElem hj)),
   hb _ k.bd, hb _ k.fn, hl.1, hl.2.1, hl.2.2.1, hl.2.2.2.1, hl.2.2.2.2⟩
end
end Hy
end Go.Proofs.YtjijijjkkhpjnaaGreatDoor
end

section
namespace Go.Proofs.YtjijijjkkhpjnaaGreatDoor
open Go.RowKit Pl Ad
attribute [local go_sem] ba_get ba_append ba_extract conv_one
set_option maxRecDepth 100000
set_option maxHeartbeats 4000000
set_option linter.unusedVariables false
set_option linter.unusedSimpArgs false
namespace Hy
open A1 Kr
theorem flat_get {α : Type} {F : α → List Value} {k : Nat} (hF : ∀ x, (F x).length = k) (hk : 0 < k) : ∀ (xs : List α) (j : Nat), (xs.flatMap F)[j]? = (xs[j / k]?).bind fun x => (F x)[j % k]?
  | [], j => by simp
  | x :: r, j => by
    rw [List.flatMap_cons]
    by_cases h : j < k
    · rw [List.getElem?_append_left (by rw [hF]; exact h), Nat.div_eq_of_lt h, Nat.mod_eq_of_lt h]; rfl
    · obtain ⟨m, rfl⟩ : ∃ m, j = m + k := ⟨j - k, by omega⟩
      rw [List.getElem?_append_right (by rw [hF]; omega), hF, Nat.add_sub_cancel, flat_get hF hk r m, Nat.add_div_right m hk, Nat.add_mod_right]
      rfl
theorem flat_at {α : Type} {F : α → List Value} {k : Nat} (hF : ∀ x, (F x).length = k) {xs : List α} {i j : Nat} {x : α} {u : Value} (hx : xs[i]? = some x) (hu : (F x)[j]? = some u) : (xs.flatMap F)[i * k + j]? = some u := by
  have hj : j < k := by rw [← hF x]; exact (List.getElem?_eq_some_iff.1 hu).1
  rw [flat_get hF (by omega), show i * k + j = j + k * i by rw [Nat.mul_comm]; omega, Nat.add_mul_div_left _ _ (by omega), Nat.div_eq_of_lt hj, Nat.add_mul_mod_self_left, Nat.mod_eq_of_lt hj, Nat.zero_add, hx]
  exact hu
section
variable {α : Type} {F : α → List Value} {k : Nat} {w w' : World} {v : Value} {xs : List α}
theorem rows_src (h : RowsV F k w v xs) (hF : ∀ x, (F x).length = k) (hk : 0 < k) : SrcAt w v xs.length (xs.flatMap F) := by
  rcases h with ⟨rfl, h1 | ⟨a, c, h1⟩⟩ | ⟨b, o, c, h1, _, _, h4⟩
  · exact .inl ⟨h1, rfl, rfl⟩
  · exact .inr ⟨a, c, h1, fun j x hx => by simp at hx⟩
  · refine .inr ⟨⟨b, o, none⟩, c, h1, fun j u hu => ?_⟩
    rw [flat_get hF hk] at hu
    obtain ⟨x, hx, hxu⟩ := Option.bind_eq_some_iff.1 hu
    have := h4 _ x hx _ u hxu
    rw [Nat.div_add_mod'] at this
    rw [Addr.add_lit]
    exact this
/-- Rows that are a block. -/
theorem rows_bx {b T c : Nat} {C : Array Value} {fr : Nat × Nat} (h : w.heap[b]? = some (.cells C T fr)) (hC : C.toList = xs.flatMap F) (hF : ∀ x, (F x).length = k) (hc : xs.length ≤ c) {n : Nat} (hn : n = xs.length) : RowsV F k w (.slice (some ⟨b, 0, none⟩) n c) xs := by
  subst hn
  refine .inr ⟨b, 0, c, rfl, hc, (Array.getElem?_eq_some_iff.1 h).1, fun i x hx j u hu => ?_⟩
  have h1 := flat_at hF hx hu
  rw [← hC] at h1
  rw [Nat.zero_add, cell_of_row w b _ C T fr h]
  simpa using h1
end
theorem pubR_len (p : PubM) : (pubR p).length = 5 := rfl
theorem prgR_len (p : PrgM) : (prgR p).length = 3 := rfl
theorem partR_len (p : PartM) : (partR p).length = 3 := rfl
theorem srvR_len (p : SrvM) : (srvR p).length = 11 := rfl
theorem byteC_len (b : UInt8) : (Sg.byteC b).length = 1 := rfl
theorem bytes_flat (l : Bs) : l.flatMap Sg.byteC = bvals l := by
  induction l with
  | nil => rfl
  | cons b r ih => rw [List.flatMap_cons, ih]; rfl
theorem bytes_bx {w : World} {b T c n : Nat} {C : Array Value} {fr : Nat × Nat} (l : Bs) (h : w.heap[b]? = some (.cells C T fr)) (hC : C.toList = bvals l) (hc : l.length ≤ c) (hn : n = l.length) : RowsV Sg.byteC 1 w (.slice (some ⟨b, 0, none⟩) n c) l := rows_bx h (by rw [bytes_flat]; exact hC) byteC_len hc hn
def exX : Bs := [97, 46, 101, 120, 97, 109, 112, 108, 101, 47, 120]
def exT : Bs := [101, 120, 97, 99, 116, 32, 48, 32, 97, 46, 101, 120, 97, 109, 112, 108, 101, 47, 120]
/-- The document's example, with a response at a time and a purge that was ordered at a time. -/
def exM (v1 v2 v3 v4 : Value) (a o : Int) : HisM := ⟨[⟨10, 100, exX, [49], v1, [97, 98]⟩, ⟨50, 100, exX, [50], v2, [99, 100]⟩], [⟨exT, o, 70⟩], [⟨[101, 49], exX, [49], 0, a, a, 0, 2, .slice none 0 0, [], v4, [⟨a, 0, v3, [97, 98]⟩], true⟩], [], [], 100, 200⟩
theorem ex_one (v1 v2 v3 v4 : Value) : checkL (exM v1 v2 v3 v4 149 60) = [⟨1, 0, tx1⟩] := by kernel_rfl
theorem ex_two (v1 v2 v3 v4 : Value) : checkL (exM v1 v2 v3 v4 149 49) = [] := by kernel_rfl
theorem ex_three (v1 v2 v3 v4 : Value) : (checkL (exM v1 v2 v3 v4 150 49)).length = 1 := by kernel_rfl
theorem ex_small (v1 v2 v3 v4 : Value) {a o : Int} (ha : 0 ≤ a ∧ a ≤ 1000) (ho : 0 ≤ o ∧ o ≤ 1000) : (exM v1 v2 v3 v4 a o).Small := by
  refine ⟨fun p hp => ?_, fun p hp => ?_, fun p hp => ?_, fun p hp => ?_, fun p hp => ?_, ?_, ?_, ?_, ?_, ?_, ?_, ?_⟩
  all_goals simp [exM, inB] at *
  · rcases hp with rfl | rfl <;> simp
  · subst hp; simp; omega
  · subst hp; simp; omega
theorem hb_new {w : World} {n : Nat} {o : Obj} (h : w.heap.size = n) : (w.alloc o).heap[n]? = some o := h ▸ heap_alloc_new w o
theorem hb_alloc {w : World} {n : Nat} {o : Obj} (h : w.heap[n]? = some o) (q : Obj) : (w.alloc q).heap[n]? = some o :=
  (Below.heap_alloc w q n (Array.getElem?_eq_some_iff.1 h).1).trans h
theorem conv_at (w : World) (C : Array Value) (n c g : Nat) (hg : g = w.heap.size) : (convert 84 84 (.slice (some ⟨g, 0, none⟩) n c)).run Tryz.prog (w.alloc (.cells C 5)) = .ok (.slice (some ⟨g, 0, none⟩) n c) (w.alloc (.cells C 5 (C.size, C.size + 1))) :=
  Joins.run_convert_bytes_const_at w 84 5 C n c g hg Tryz.underlying84 Tryz.underlying5
attribute [local go_sem] conv_at
theorem example_any (a o : Int) (w : World) : Calls Tryz.prog 54 #[.int .i64 a, .int .i64 o] w fun e w' => ∃ va vb vc vd ve v1 v2 v3 v4, e = .returned (.agg #[va, vb, vc, vd, ve, .int .i64 100, .int .i64 200]) ∧ HisAt w' 20 va vb vc vd ve (exM v1 v2 v3 v4 a o) ∧ Below w.heap.size w w' := by
  go_enter Tryz.func54, Tryz.ntmps54
  go_wp2_with fail
  obtain ⟨n0, hn0⟩ : ∃ z, w.heap.size = z := ⟨_, rfl⟩
  have h0 : ((((((((w.alloc (.cells #[.slice (some ⟨w.heap.size + 1 + 1 + 1, 0, none⟩) 2 2, .slice (some ⟨w.heap.size + 1 + 1 + 1 + 1, 0, none⟩) 1 1, .slice (some ⟨w.heap.size + 1 + 1 + 1 + 1 + 1 + 1 + 1, 0, none⟩) 1 1, .slice none 0 0, .slice none 0 0, .int .i64 100, .int .i64 200] 69 )).alloc (.cells #[.int .u8 97, .int .u8 98] 5 (2, 3))).alloc (.cells #[.int .u8 99, .int .u8 100] 5 (2, 3))).alloc (.cells #[.int .i64 10, .int .i64 100, .string ⟨#[97, 46, 101, 120, 97, 109, 112, 108, 101, 47, 120]⟩, .string ⟨#[49]⟩, .slice (some ⟨w.heap.size + 1, 0, none⟩) 2 2, .int .i64 50, .int .i64 100, .string ⟨#[97, 46, 101, 120, 97, 109, 112, 108, 101, 47, 120]⟩, .string ⟨#[50]⟩, .slice (some ⟨w.heap.size + 1 + 1, 0, none⟩) 2 2] 86 )).alloc (.cells #[.string ⟨#[101, 120, 97, 99, 116, 32, 48, 32, 97, 46, 101, 120, 97, 109, 112, 108, 101, 47, 120]⟩, .int .i64 o, .int .i64 70] 97 )).alloc (.cells #[.int .u8 97, .int .u8 98] 5 (2, 3))).alloc (.cells #[.int .i64 a, .int .i64 0, .slice (some ⟨w.heap.size + 1 + 1 + 1 + 1 + 1, 0, none⟩) 2 2] 88 )).alloc (.cells #[.string ⟨#[101, 49]⟩, .string ⟨#[97, 46, 101, 120, 97, 109, 112, 108, 101, 47, 120]⟩, .string ⟨#[49]⟩, .int .i64 0, .int .i64 a, .int .i64 a, .int .i64 0, .int .i64 2, .slice none 0 0, .slice (some ⟨w.heap.size + 1 + 1 + 1 + 1 + 1 + 1, 0, none⟩) 1 1, .bool true] 82 )).heap[w.heap.size]? = some (.cells #[.slice (some ⟨w.heap.size + 1 + 1 + 1, 0, none⟩) 2 2, .slice (some ⟨w.heap.size + 1 + 1 + 1 + 1, 0, none⟩) 1 1, .slice (some ⟨w.heap.size + 1 + 1 + 1 + 1 + 1 + 1 + 1, 0, none⟩) 1 1, .slice none 0 0, .slice none 0 0, .int .i64 100, .int .i64 200] 69 (0, 0)) := (hb_alloc (hb_alloc (hb_alloc (hb_alloc (hb_alloc (hb_alloc (hb_alloc (hb_new (by simp)) _) _) _) _) _) _) _)
  have h1 : ((((((((w.alloc (.cells #[.slice (some ⟨w.heap.size + 1 + 1 + 1, 0, none⟩) 2 2, .slice (some ⟨w.heap.size + 1 + 1 + 1 + 1, 0, none⟩) 1 1, .slice (some ⟨w.heap.size + 1 + 1 + 1 + 1 + 1 + 1 + 1, 0, none⟩) 1 1, .slice none 0 0, .slice none 0 0, .int .i64 100, .int .i64 200] 69 )).alloc (.cells #[.int .u8 97, .int .u8 98] 5 (2, 3))).alloc (.cells #[.int .u8 99, .int .u8 100] 5 (2, 3))).alloc (.cells #[.int .i64 10, .int .i64 100, .string ⟨#[97, 46, 101, 120, 97, 109, 112, 108, 101, 47, 120]⟩, .string ⟨#[49]⟩, .slice (some ⟨w.heap.size + 1, 0, none⟩) 2 2, .int .i64 50, .int .i64 100, .string ⟨#[97, 46, 101, 120, 97, 109, 112, 108, 101, 47, 120]⟩, .string ⟨#[50]⟩, .slice (some ⟨w.heap.size + 1 + 1, 0, none⟩) 2 2] 86 )).alloc (.cells #[.string ⟨#[101, 120, 97, 99, 116, 32, 48, 32, 97, 46, 101, 120, 97, 109, 112, 108, 101, 47, 120]⟩, .int .i64 o, .int .i64 70] 97 )).alloc (.cells #[.int .u8 97, .int .u8 98] 5 (2, 3))).alloc (.cells #[.int .i64 a, .int .i64 0, .slice (some ⟨w.heap.size + 1 + 1 + 1 + 1 + 1, 0, none⟩) 2 2] 88 )).alloc (.cells #[.string ⟨#[101, 49]⟩, .string ⟨#[97, 46, 101, 120, 97, 109, 112, 108, 101, 47, 120]⟩, .string ⟨#[49]⟩, .int .i64 0, .int .i64 a, .int .i64 a, .int .i64 0, .int .i64 2, .slice none 0 0, .slice (some ⟨w.heap.size + 1 + 1 + 1 + 1 + 1 + 1, 0, none⟩) 1 1, .bool true] 82 )).heap[w.heap.size + 1]? = some (.cells #[.int .u8 97, .int .u8 98] 5 (2, 3)) := (hb_alloc (hb_alloc (hb_alloc (hb_alloc (hb_alloc (hb_alloc (hb_new (by simp)) _) _) _) _) _) _)
  have h2 : ((((((((w.alloc (.cells #[.slice (some ⟨w.heap.size + 1 + 1 + 1, 0, none⟩) 2 2, .slice (some ⟨w.heap.size + 1 + 1 + 1 + 1, 0, none⟩) 1 1, .slice (some ⟨w.heap.size + 1 + 1 + 1 + 1 + 1 + 1 + 1, 0, none⟩) 1 1, .slice none 0 0, .slice none 0 0, .int .i64 100, .int .i64 200] 69 )).alloc (.cells #[.int .u8 97, .int .u8 98] 5 (2, 3))).alloc (.cells #[.int .u8 99, .int .u8 100] 5 (2, 3))).alloc (.cells #[.int .i64 10, .int .i64 100, .string ⟨#[97, 46, 101, 120, 97, 109, 112, 108, 101, 47, 120]⟩, .string ⟨#[49]⟩, .slice (some ⟨w.heap.size + 1, 0, none⟩) 2 2, .int .i64 50, .int .i64 100, .string ⟨#[97, 46, 101, 120, 97, 109, 112, 108, 101, 47, 120]⟩, .string ⟨#[50]⟩, .slice (some ⟨w.heap.size + 1 + 1, 0, none⟩) 2 2] 86 )).alloc (.cells #[.string ⟨#[101, 120, 97, 99, 116, 32, 48, 32, 97, 46, 101, 120, 97, 109, 112, 108, 101, 47, 120]⟩, .int .i64 o, .int .i64 70] 97 )).alloc (.cells #[.int .u8 97, .int .u8 98] 5 (2, 3))).alloc (.cells #[.int .i64 a, .int .i64 0, .slice (some ⟨w.heap.size + 1 + 1 + 1 + 1 + 1, 0, none⟩) 2 2] 88 )).alloc (.cells #[.string ⟨#[101, 49]⟩, .string ⟨#[97, 46, 101, 120, 97, 109, 112, 108, 101, 47, 120]⟩, .string ⟨#[49]⟩, .int .i64 0, .int .i64 a, .int .i64 a, .int .i64 0, .int .i64 2, .slice none 0 0, .slice (some ⟨w.heap.size + 1 + 1 + 1 + 1 + 1 + 1, 0, none⟩) 1 1, .bool true] 82 )).heap[w.heap.size + 1 + 1]? = some (.cells #[.int .u8 99, .int .u8 100] 5 (2, 3)) := (hb_alloc (hb_alloc (hb_alloc (hb_alloc (hb_alloc (hb_new (by simp)) _) _) _) _) _)
  have h3 : ((((((((w.alloc (.cells #[.slice (some ⟨w.heap.size + 1 + 1 + 1, 0, none⟩) 2 2, .slice (some ⟨w.heap.size + 1 + 1 + 1 + 1, 0, none⟩) 1 1, .slice (some ⟨w.heap.size + 1 + 1 + 1 + 1 + 1 + 1 + 1, 0, none⟩) 1 1, .slice none 0 0, .slice none 0 0, .int .i64 100, .int .i64 200] 69 )).alloc (.cells #[.int .u8 97, .int .u8 98] 5 (2, 3))).alloc (.cells #[.int .u8 99, .int .u8 100] 5 (2, 3))).alloc (.cells #[.int .i64 10, .int .i64 100, .string ⟨#[97, 46, 101, 120, 97, 109, 112, 108, 101, 47, 120]⟩, .string ⟨#[49]⟩, .slice (some ⟨w.heap.size + 1, 0, none⟩) 2 2, .int .i64 50, .int .i64 100, .string ⟨#[97, 46, 101, 120, 97, 109, 112, 108, 101, 47, 120]⟩, .string ⟨#[50]⟩, .slice (some ⟨w.heap.size + 1 + 1, 0, none⟩) 2 2] 86 )).alloc (.cells #[.string ⟨#[101, 120, 97, 99, 116, 32, 48, 32, 97, 46, 101, 120, 97, 109, 112, 108, 101, 47, 120]⟩, .int .i64 o, .int .i64 70] 97 )).alloc (.cells #[.int .u8 97, .int .u8 98] 5 (2, 3))).alloc (.cells #[.int .i64 a, .int .i64 0, .slice (some ⟨w.heap.size + 1 + 1 + 1 + 1 + 1, 0, none⟩) 2 2] 88 )).alloc (.cells #[.string ⟨#[101, 49]⟩, .string ⟨#[97, 46, 101, 120, 97, 109, 112, 108, 101, 47, 120]⟩, .string ⟨#[49]⟩, .int .i64 0, .int .i64 a, .int .i64 a, .int .i64 0, .int .i64 2, .slice none 0 0, .slice (some ⟨w.heap.size + 1 + 1 + 1 + 1 + 1 + 1, 0, none⟩) 1 1, .bool true] 82 )).heap[w.heap.size + 1 + 1 + 1]? = some (.cells #[.int .i64 10, .int .i64 100, .string ⟨#[97, 46, 101, 120, 97, 109, 112, 108, 101, 47, 120]⟩, .string ⟨#[49]⟩, .slice (some ⟨w.heap.size + 1, 0, none⟩) 2 2, .int .i64 50, .int .i64 100, .string ⟨#[97, 46, 101, 120, 97, 109, 112, 108, 101, 47, 120]⟩, .string ⟨#[50]⟩, .slice (some ⟨w.heap.size + 1 + 1, 0, none⟩) 2 2] 86 (0, 0)) := (hb_alloc (hb_alloc (hb_alloc (hb_alloc (hb_new (by simp)) _) _) _) _)
  have h4 : ((((((((w.alloc (.cells #[.slice (some ⟨w.heap.size + 1 + 1 + 1, 0, none⟩) 2 2, .slice (some ⟨w.heap.size + 1 + 1 + 1 + 1, 0, none⟩) 1 1, .slice (some ⟨w.heap.size + 1 + 1 + 1 + 1 + 1 + 1 + 1, 0, none⟩) 1 1, .slice none 0 0, .slice none 0 0, .int .i64 100, .int .i64 200] 69 )).alloc (.cells #[.int .u8 97, .int .u8 98] 5 (2, 3))).alloc (.cells #[.int .u8 99, .int .u8 100] 5 (2, 3))).alloc (.cells #[.int .i64 10, .int .i64 100, .string ⟨#[97, 46, 101, 120, 97, 109, 112, 108, 101, 47, 120]⟩, .string ⟨#[49]⟩, .slice (some ⟨w.heap.size + 1, 0, none⟩) 2 2, .int .i64 50, .int .i64 100, .string ⟨#[97, 46, 101, 120, 97, 109, 112, 108, 101, 47, 120]⟩, .string ⟨#[50]⟩, .slice (some ⟨w.heap.size + 1 + 1, 0, none⟩) 2 2] 86 )).alloc (.cells #[.string ⟨#[101, 120, 97, 99, 116, 32, 48, 32, 97, 46, 101, 120, 97, 109, 112, 108, 101, 47, 120]⟩, .int .i64 o, .int .i64 70] 97 )).alloc (.cells #[.int .u8 97, .int .u8 98] 5 (2, 3))).alloc (.cells #[.int .i64 a, .int .i64 0, .slice (some ⟨w.heap.size + 1 + 1 + 1 + 1 + 1, 0, none⟩) 2 2] 88 )).alloc (.cells #[.string ⟨#[101, 49]⟩, .string ⟨#[97, 46, 101, 120, 97, 109, 112, 108, 101, 47, 120]⟩, .string ⟨#[49]⟩, .int .i64 0, .int .i64 a, .int .i64 a, .int .i64 0, .int .i64 2, .slice none 0 0, .slice (some ⟨w.heap.size + 1 + 1 + 1 + 1 + 1 + 1, 0, none⟩) 1 1, .bool true] 82 )).heap[w.heap.size + 1 + 1 + 1 + 1]? = some (.cells #[.string ⟨#[101, 120, 97, 99, 116, 32, 48, 32, 97, 46, 101, 120, 97, 109, 112, 108, 101, 47, 120]⟩, .int .i64 o, .int .i64 70] 97 (0, 0)) := (hb_alloc (hb_alloc (hb_alloc (hb_new (by simp)) _) _) _)
  have h5 : ((((((((w.alloc (.cells #[.slice (some ⟨w.heap.size + 1 + 1 + 1, 0, none⟩) 2 2, .slice (some ⟨w.heap.size + 1 + 1 + 1 + 1, 0, none⟩) 1 1, .slice (some ⟨w.heap.size + 1 + 1 + 1 + 1 + 1 + 1 + 1, 0, none⟩) 1 1, .slice none 0 0, .slice none 0 0, .int .i64 100, .int .i64 200] 69 )).alloc (.cells #[.int .u8 97, .int .u8 98] 5 (2, 3))).alloc (.cells #[.int .u8 99, .int .u8 100] 5 (2, 3))).alloc (.cells #[.int .i64 10, .int .i64 100, .string ⟨#[97, 46, 101, 120, 97, 109, 112, 108, 101, 47, 120]⟩, .string ⟨#[49]⟩, .slice (some ⟨w.heap.size + 1, 0, none⟩) 2 2, .int .i64 50, .int .i64 100, .string ⟨#[97, 46, 101, 120, 97, 109, 112, 108, 101, 47, 120]⟩, .string ⟨#[50]⟩, .slice (some ⟨w.heap.size + 1 + 1, 0, none⟩) 2 2] 86 )).alloc (.cells #[.string ⟨#[101, 120, 97, 99, 116, 32, 48, 32, 97, 46, 101, 120, 97, 109, 112, 108, 101, 47, 120]⟩, .int .i64 o, .int .i64 70] 97 )).alloc (.cells #[.int .u8 97, .int .u8 98] 5 (2, 3))).alloc (.cells #[.int .i64 a, .int .i64 0, .slice (some ⟨w.heap.size + 1 + 1 + 1 + 1 + 1, 0, none⟩) 2 2] 88 )).alloc (.cells #[.string ⟨#[101, 49]⟩, .string ⟨#[97, 46, 101, 120, 97, 109, 112, 108, 101, 47, 120]⟩, .string ⟨#[49]⟩, .int .i64 0, .int .i64 a, .int .i64 a, .int .i64 0, .int .i64 2, .slice none 0 0, .slice (some ⟨w.heap.size + 1 + 1 + 1 + 1 + 1 + 1, 0, none⟩) 1 1, .bool true] 82 )).heap[w.heap.size + 1 + 1 + 1 + 1 + 1]? = some (.cells #[.int .u8 97, .int .u8 98] 5 (2, 3)) := (hb_alloc (hb_alloc (hb_new (by simp)) _) _)
  have h6 : ((((((((w.alloc (.cells #[.slice (some ⟨w.heap.size + 1 + 1 + 1, 0, none⟩) 2 2, .slice (some ⟨w.heap.size + 1 + 1 + 1 + 1, 0, none⟩) 1 1, .slice (some ⟨w.heap.size + 1 + 1 + 1 + 1 + 1 + 1 + 1, 0, none⟩) 1 1, .slice none 0 0, .slice none 0 0, .int .i64 100, .int .i64 200] 69 )).alloc (.cells #[.int .u8 97, .int .u8 98] 5 (2, 3))).alloc (.cells #[.int .u8 99, .int .u8 100] 5 (2, 3))).alloc (.cells #[.int .i64 10, .int .i64 100, .string ⟨#[97, 46, 101, 120, 97, 109, 112, 108, 101, 47, 120]⟩, .string ⟨#[49]⟩, .slice (some ⟨w.heap.size + 1, 0, none⟩) 2 2, .int .i64 50, .int .i64 100, .string ⟨#[97, 46, 101, 120, 97, 109, 112, 108, 101, 47, 120]⟩, .string ⟨#[50]⟩, .slice (some ⟨w.heap.size + 1 + 1, 0, none⟩) 2 2] 86 )).alloc (.cells #[.string ⟨#[101, 120, 97, 99, 116, 32, 48, 32, 97, 46, 101, 120, 97, 109, 112, 108, 101, 47, 120]⟩, .int .i64 o, .int .i64 70] 97 )).alloc (.cells #[.int .u8 97, .int .u8 98] 5 (2, 3))).alloc (.cells #[.int .i64 a, .int .i64 0, .slice (some ⟨w.heap.size + 1 + 1 + 1 + 1 + 1, 0, none⟩) 2 2] 88 )).alloc (.cells #[.string ⟨#[101, 49]⟩, .string ⟨#[97, 46, 101, 120, 97, 109, 112, 108, 101, 47, 120]⟩, .string ⟨#[49]⟩, .int .i64 0, .int .i64 a, .int .i64 a, .int .i64 0, .int .i64 2, .slice none 0 0, .slice (some ⟨w.heap.size + 1 + 1 + 1 + 1 + 1 + 1, 0, none⟩) 1 1, .bool true] 82 )).heap[w.heap.size + 1 + 1 + 1 + 1 + 1 + 1]? = some (.cells #[.int .i64 a, .int .i64 0, .slice (some ⟨w.heap.size + 1 + 1 + 1 + 1 + 1, 0, none⟩) 2 2] 88 (0, 0)) := (hb_alloc (hb_new (by simp)) _)
  have h7 : ((((((((w.alloc (.cells #[.slice (some ⟨w.heap.size + 1 + 1 + 1, 0, none⟩) 2 2, .slice (some ⟨w.heap.size + 1 + 1 + 1 + 1, 0, none⟩) 1 1, .slice (some ⟨w.heap.size + 1 + 1 + 1 + 1 + 1 + 1 + 1, 0, none⟩) 1 1, .slice none 0 0, .slice none 0 0, .int .i64 100, .int .i64 200] 69 )).alloc (.cells #[.int .u8 97, .int .u8 98] 5 (2, 3))).alloc (.cells #[.int .u8 99, .int .u8 100] 5 (2, 3))).alloc (.cells #[.int .i64 10, .int .i64 100, .string ⟨#[97, 46, 101, 120, 97, 109, 112, 108, 101, 47, 120]⟩, .string ⟨#[49]⟩, .slice (some ⟨w.heap.size + 1, 0, none⟩) 2 2, .int .i64 50, .int .i64 100, .string ⟨#[97, 46, 101, 120, 97, 109, 112, 108, 101, 47, 120]⟩, .string ⟨#[50]⟩, .slice (some ⟨w.heap.size + 1 + 1, 0, none⟩) 2 2] 86 )).alloc (.cells #[.string ⟨#[101, 120, 97, 99, 116, 32, 48, 32, 97, 46, 101, 120, 97, 109, 112, 108, 101, 47, 120]⟩, .int .i64 o, .int .i64 70] 97 )).alloc (.cells #[.int .u8 97, .int .u8 98] 5 (2, 3))).alloc (.cells #[.int .i64 a, .int .i64 0, .slice (some ⟨w.heap.size + 1 + 1 + 1 + 1 + 1, 0, none⟩) 2 2] 88 )).alloc (.cells #[.string ⟨#[101, 49]⟩, .string ⟨#[97, 46, 101, 120, 97, 109, 112, 108, 101, 47, 120]⟩, .string ⟨#[49]⟩, .int .i64 0, .int .i64 a, .int .i64 a, .int .i64 0, .int .i64 2, .slice none 0 0, .slice (some ⟨w.heap.size + 1 + 1 + 1 + 1 + 1 + 1, 0, none⟩) 1 1, .bool true] 82 )).heap[w.heap.size + 1 + 1 + 1 + 1 + 1 + 1 + 1]? = some (.cells #[.string ⟨#[101, 49]⟩, .string ⟨#[97, 46, 101, 120, 97, 109, 112, 108, 101, 47, 120]⟩, .string ⟨#[49]⟩, .int .i64 0, .int .i64 a, .int .i64 a, .int .i64 0, .int .i64 2, .slice none 0 0, .slice (some ⟨w.heap.size + 1 + 1 + 1 + 1 + 1 + 1, 0, none⟩) 1 1, .bool true] 82 (0, 0)) := (hb_new (by simp))
  have HB : Hid (Below w.heap.size w ((((((((w.alloc (.cells #[.slice (some ⟨w.heap.size + 1 + 1 + 1, 0, none⟩) 2 2, .slice (some ⟨w.heap.size + 1 + 1 + 1 + 1, 0, none⟩) 1 1, .slice (some ⟨w.heap.size + 1 + 1 + 1 + 1 + 1 + 1 + 1, 0, none⟩) 1 1, .slice none 0 0, .slice none 0 0, .int .i64 100, .int .i64 200] 69 )).alloc (.cells #[.int .u8 97, .int .u8 98] 5 (2, 3))).alloc (.cells #[.int .u8 99, .int .u8 100] 5 (2, 3))).alloc (.cells #[.int .i64 10, .int .i64 100, .string ⟨#[97, 46, 101, 120, 97, 109, 112, 108, 101, 47, 120]⟩, .string ⟨#[49]⟩, .slice (some ⟨w.heap.size + 1, 0, none⟩) 2 2, .int .i64 50, .int .i64 100, .string ⟨#[97, 46, 101, 120, 97, 109, 112, 108, 101, 47, 120]⟩, .string ⟨#[50]⟩, .slice (some ⟨w.heap.size + 1 + 1, 0, none⟩) 2 2] 86 )).alloc (.cells #[.string ⟨#[101, 120, 97, 99, 116, 32, 48, 32, 97, 46, 101, 120, 97, 109, 112, 108, 101, 47, 120]⟩, .int .i64 o, .int .i64 70] 97 )).alloc (.cells #[.int .u8 97, .int .u8 98] 5 (2, 3))).alloc (.cells #[.int .i64 a, .int .i64 0, .slice (some ⟨w.heap.size + 1 + 1 + 1 + 1 + 1, 0, none⟩) 2 2] 88 )).alloc (.cells #[.string ⟨#[101, 49]⟩, .string ⟨#[97, 46, 101, 120, 97, 109, 112, 108, 101, 47, 120]⟩, .string ⟨#[49]⟩, .int .i64 0, .int .i64 a, .int .i64 a, .int .i64 0, .int .i64 2, .slice none 0 0, .slice (some ⟨w.heap.size + 1 + 1 + 1 + 1 + 1 + 1, 0, none⟩) 1 1, .bool true] 82 ))) := Lib.hid (((((((((Below.refl _ _).alloc (by simp <;> omega) _).alloc (by simp <;> omega) _).alloc (by simp <;> omega) _).alloc (by simp <;> omega) _).alloc (by simp <;> omega) _).alloc (by simp <;> omega) _).alloc (by simp <;> omega) _).alloc (by simp <;> omega) _)
  refine bodyPost_ret (v := .agg #[.slice (some ⟨w.heap.size + 1 + 1 + 1, 0, none⟩) 2 2, .slice (some ⟨w.heap.size + 1 + 1 + 1 + 1, 0, none⟩) 1 1, .slice (some ⟨w.heap.size + 1 + 1 + 1 + 1 + 1 + 1 + 1, 0, none⟩) 1 1, .slice none 0 0, .slice none 0 0, .int .i64 100, .int .i64 200]) (by simp [results, Tryz.results54, go_sem]) rfl ?_
  clear hn0
  have b1 := bytes_bx [97, 98] h1 rfl (c := 2) (n := 2) (by decide) rfl
  have b2 := bytes_bx [99, 100] h2 rfl (c := 2) (n := 2) (by decide) rfl
  have b5 := bytes_bx [97, 98] h5 rfl (c := 2) (n := 2) (by decide) rfl
  refine ⟨_, _, _, _, _, .slice (some ⟨w.heap.size + 1, 0, none⟩) 2 2, .slice (some ⟨w.heap.size + 1 + 1, 0, none⟩) 2 2, .slice (some ⟨w.heap.size + 1 + 1 + 1 + 1 + 1, 0, none⟩) 2 2, .slice (some ⟨w.heap.size + 1 + 1 + 1 + 1 + 1 + 1, 0, none⟩) 1 1, rfl, ?_, HB.out⟩
  refine ⟨rows_bx h3 rfl pubR_len (by simp [exM]) rfl, by simp [exM, exX, exT], fun p hp => ?_, rows_bx h4 rfl prgR_len (by simp [exM]) rfl, by simp [exM, exX, exT], fun g hg => ?_, rows_bx h7 rfl srvR_len (by simp [exM]) rfl, by simp [exM, exX, exT], fun x hx => ?_, .inl ⟨rfl, .inl rfl⟩, by simp [exM, exX, exT], fun f hf => (by cases hf), .inl ⟨rfl, .inl rfl⟩, by simp [exM, exX, exT], fun d hd => (by cases hd)⟩
  · simp [exM] at hp
    rcases hp with rfl | rfl
    · exact ⟨by simp [exM, exX, exT], by simp [exM, exX, exT], Sg.rows_src b1, by simp [exM, exX, exT], b1⟩
    · exact ⟨by simp [exM, exX, exT], by simp [exM, exX, exT], Sg.rows_src b2, by simp [exM, exX, exT], b2⟩
  · simp [exM] at hg
    subst hg
    exact (by simp [exM, exX, exT] : exT.length ≤ 20)
  · simp [exM] at hx
    subst hx
    refine ⟨by simp [exM, exX, exT], by simp [exM, exX, exT], by simp [exM, exX, exT], .inl ⟨rfl, .inl rfl⟩, by simp [exM, exX, exT], fun t ht => (by cases ht), rows_bx h6 rfl partR_len (by simp [exM]) rfl, by simp [exM, exX, exT], fun y hy => ?_⟩
    simp at hy
    subst hy
    exact ⟨Sg.rows_src b5, by simp [exM, exX, exT]⟩
theorem awake58_any (w : World) (hr : Ready w) (hpw : ParseAt w) : Calls Tryz.prog 29 #[] w fun e w' => e = .returned (.bool true) ∧ Below w.heap.size w w' := by
  have HRY := Lib.hid hr
  have HPW := Lib.hid hpw
  clear hr hpw
  go_enter Tryz.func29, Tryz.ntmps29
  go_wp2_with fail
  refine (example_any 149 60 _).mono ?_
  rintro e w1 ⟨va, vb, vc, vd, ve, v1, v2, v3, v4, rfl, ha1, hb1⟩
  have HB1 := Lib.hid hb1
  have HA1 := Lib.hid ha1
  clear ha1 hb1
  go_wp2_with fail
  refine (check_any (exM v1 v2 v3 v4 149 60) va vb vc vd ve 20 _ (HRY.out.below HB1.out) (HPW.out.below HB1.out) HA1.out (ex_small v1 v2 v3 v4 (by decide) (by decide)) (by decide)).mono ?_
  rw [ex_one]
  rintro e w2 ⟨u2, rfl, ho2, hb2⟩
  have HB2 := Lib.hid (HB1.out.trans (hb2.mono HB1.out.size))
  obtain ⟨g, o, c, hu, _, _, _, hgz, hcell⟩ := ho2.cells (by decide)
  subst hu
  have r0 := hcell 0 (.int .i64 1) rfl
  rw [Nat.add_zero] at r0
  clear hb2 ho2 hcell HA1 HB1
  rw [show ([(⟨1, 0, tx1⟩ : VioM)]).length = 1 from rfl]
  go_wp2_with fail
  clear r0 hgz
  refine (example_any 149 49 _).mono ?_
  rintro e w3 ⟨xa, xb, xc, xd, xe, x1, x2, x3, x4, rfl, ha3, hb3⟩
  have HBX3 := Lib.hid (HB2.out.trans (hb3.mono HB2.out.size))
  have HAX3 := Lib.hid ha3
  clear ha3 hb3
  go_wp2_with fail
  refine (check_any (exM x1 x2 x3 x4 149 49) xa xb xc xd xe 20 _ (HRY.out.below HBX3.out) (HPW.out.below HBX3.out) HAX3.out (ex_small x1 x2 x3 x4 (by decide) (by decide)) (by decide)).mono ?_
  rw [ex_two, show ([] : List VioM).length = 0 from rfl]
  rintro e w4 ⟨u4, rfl, ho4, hb4⟩
  have HB4 := Lib.hid (HBX3.out.trans (hb4.mono HBX3.out.size))
  obtain ⟨ya, yc, rfl, _⟩ := ho4.form
  clear hb4 ho4 HAX3 HBX3
  go_wp2_with fail
  refine (example_any 150 49 _).mono ?_
  rintro e w5 ⟨ya5, yb5, yc5, yd5, ye5, y1, y2, y3, y4, rfl, ha5, hb5⟩
  have HBX5 := Lib.hid (HB4.out.trans (hb5.mono HB4.out.size))
  have HAX5 := Lib.hid ha5
  clear ha5 hb5
  go_wp2_with fail
  refine (check_any (exM y1 y2 y3 y4 150 49) ya5 yb5 yc5 yd5 ye5 20 _ (HRY.out.below HBX5.out) (HPW.out.below HBX5.out) HAX5.out (ex_small y1 y2 y3 y4 (by decide) (by decide)) (by decide)).mono ?_
  rw [ex_three]
  rintro e w6 ⟨u6, rfl, ho6, hb6⟩
  have HB6 := Lib.hid (HBX5.out.trans (hb6.mono HBX5.out.size))
  obtain ⟨za, zc, rfl, _⟩ := ho6.form
  clear hb6 ho6 HAX5 HBX5
  go_wp2_with fail
  go_ret
  exact ⟨rfl, HB6.out⟩
end Hy
end Go.Proofs.YtjijijjkkhpjnaaGreatDoor
end

section
namespace Go.Proofs.YtjijijjkkhpjnaaGreatDoor
open Go.RowKit Pl Ad
attribute [local go_sem] ba_get ba_append ba_extract conv_one
set_option maxRecDepth 100000
set_option maxHeartbeats 4000000
set_option linter.unusedVariables false
set_option linter.unusedSimpArgs false
namespace Hy
open A1 Kr
theorem dec_step {n : Nat} (h : ¬ n < 10) : Lib.decDigits n = Lib.decDigits (n / 10) ++ Lib.decDigits (n % 10) := by
  rw [Lib.decDigits, dif_neg h, Lib.decDigits_one (show n % 10 < 10 by omega)]
theorem dec_len : ∀ (k n : Nat), n < 10 ^ k → 0 < k → (Lib.decDigits n).length ≤ k
  | 0, n, _, h => by omega
  | 1, n, h, _ => by
    rw [Lib.decDigits_one (by simpa using h)]; simp
  | k + 2, n, h, _ => by
    by_cases h1 : n < 10
    · rw [Lib.decDigits_one h1]; simp
    · rw [Lib.decDigits, dif_neg h1, List.length_append]
      have := dec_len (k + 1) (n / 10) (by rw [Nat.pow_succ] at h; omega) (by omega)
      simp; omega
theorem dec_len19 {n : Nat} (h : n ≤ 9223372036854775808) : (Lib.decDigits n).length ≤ 19 := dec_len 19 n (by omega) (by omega)
theorem digits_nat : ∀ (N n : Nat), n < N → n ≤ 9223372036854775807 → ∀ w : World, Calls Tryz.prog 36 #[.int .i64 (n : Int)] w fun e w' => e = .returned (.string ⟨(Lib.decDigits n).toArray⟩) ∧ Below w.heap.size w w'
  | 0, n, h, _, w => by omega
  | N + 1, n, h, hn, w => by
    have h0 : ¬ ((n : Int) < 0) := by omega
    by_cases h1 : n < 10
    · have h1i : (n : Int) < 10 := by omega
      have HE := Lib.hid (show Lib.decDigits n = [48 + UInt8.ofNat n] by
        rw [Lib.decDigits_one h1]
        simp)
      have k1 : IntKind.i64.wrap (48 + (n : Int)) = 48 + (n : Int) := IntWalk.i64_in _ (by omega)
      have k2 : IntKind.u8.wrap (48 + (n : Int)) = 48 + (n : Int) := by rw [IntKind.wrap_u8]; omega
      have HB := Lib.hid ((Below.refl w.heap.size w).alloc (Nat.le_refl _) (.cells #[.int .u8 (48 + (n : Int))] 5))
      go_enter Tryz.func36, Tryz.ntmps36
      go_wp2_with fail
      rw [HE.out]
      go_ret
      exact ⟨rfl, HB.out⟩
    · have h1i : ¬ ((n : Int) < 10) := by omega
      have h1f : decide ((n : Int) < 10) = false := decide_eq_false h1i
      have HE := Lib.hid (dec_step h1)
      have HD := Lib.hid (digits_nat N (n / 10) (by omega) (by omega))
      have HM := Lib.hid (digits_nat N (n % 10) (by omega) (by omega))
      have l1 : (Lib.decDigits (n / 10)).length ≤ 19 := dec_len19 (by omega)
      have l2 : (Lib.decDigits (n % 10)).length ≤ 19 := dec_len19 (by omega)
      have e1 : (n : Int) / 10 = ((n / 10 : Nat) : Int) := by omega
      have e2 : (n : Int) % 10 = ((n % 10 : Nat) : Int) := by omega
      have e3 : Int.tdiv (n : Int) 10 = ((n / 10 : Nat) : Int) := by rw [Int.tdiv_eq_ediv_of_nonneg (by omega)]; exact e1
      have e4 : Int.tmod (n : Int) 10 = ((n % 10 : Nat) : Int) := by rw [Int.tmod_eq_emod_of_nonneg (by omega)]; exact e2
      have e5 : IntKind.i64.wrap ((n / 10 : Nat) : Int) = ((n / 10 : Nat) : Int) := IntWalk.i64_in _ (by omega)
      obtain ⟨q, hq⟩ : ∃ z, n / 10 = z := ⟨_, rfl⟩
      obtain ⟨r, hr⟩ : ∃ z, n % 10 = z := ⟨_, rfl⟩
      rw [hq, hr] at HE
      rw [hq] at HD e1 e3 e5 l1
      rw [hr] at HM e2 e4 l2
      clear hq hr h1 h
      go_enter Tryz.func36, Tryz.ntmps36
      go_wp2_with fail
      refine (HD.out _).mono ?_
      rintro e w1 ⟨rfl, hb1⟩
      have HB1 := Lib.hid hb1
      clear hb1
      go_wp2_with fail
      refine (HM.out _).mono ?_
      rintro e w2 ⟨rfl, hb2⟩
      have HB2 := Lib.hid (HB1.out.trans (hb2.mono HB1.out.size))
      clear hb2
      go_wp2_with fail
      rw [HE.out]
      go_ret
      exact ⟨rfl, HB2.out⟩
end Hy
end Go.Proofs.YtjijijjkkhpjnaaGreatDoor
end

section
namespace Go.Proofs.YtjijijjkkhpjnaaGreatDoor
open Go.RowKit Pl Ad
attribute [local go_sem] ba_get ba_append ba_extract conv_one
set_option maxRecDepth 100000
set_option maxHeartbeats 4000000
set_option linter.unusedVariables false
set_option linter.unusedSimpArgs false
namespace Hy
open A1 Kr
def inI (n : Int) : Prop := -9223372036854775808 ≤ n ∧ n ≤ 9223372036854775807
theorem i64_rangeH {n : Int} (h : (Lit.int .i64 n).wf = true) : inI n := by
  have e1 : IntKind.min .i64 = -9223372036854775808 := rfl
  have e2 : IntKind.max .i64 = 9223372036854775807 := rfl
  simp only [Lit.wf, Bool.and_eq_true, decide_eq_true_eq, e1, e2] at h
  exact h
def VioAt (B : Nat) (v : VioM) : Prop := inI v.rule ∧ inI v.idx ∧ v.text.length ≤ B
theorem vio_trod {H : Type} {enc : TypeId × Value → H} {w : World} {base n B : Nat} {spare : Nat → Bool} {held : Bool} {cs : List Value} {y : DataW H × List MemPlace} (hl : cs.length = 3)
    (h : DataW.trod enc Tryz.prog w base spare held n 90 cs = some y) (hB : Rows.uptoBulk y.1 ≤ B) : ∃ x : VioM, cs = vioR x ∧ VioAt B x := by
  obtain ⟨xs, m, _, hy, _, hlen, hf⟩ := DataW.trod_struct Tryz.underlying90 h
  match cs, hl with
  | [c0, c1, c2], _ =>
    have hln : xs.length = 3 := hlen
    match xs, hln with
    | [y0, y1, y2], _ =>
      have g0 : DataW.trod enc Tryz.prog w base spare held m 3 [c0] = some y0 := hf 0 _ rfl
      have g1 : DataW.trod enc Tryz.prog w base spare held m 3 [c1] = some y1 := hf 1 _ rfl
      have g2 : DataW.trod enc Tryz.prog w base spare held m 9 [c2] = some y2 := hf 2 _ rfl
      have hb : Rows.uptoBulk (DataW.agg [y0.1, y1.1, y2.1] : DataW H) ≤ B := by have h9 := congrArg Prod.fst hy; simp only [List.map_cons, List.map_nil] at h9; rw [← h9]; exact hB
      simp only [Rows.uptoBulk, Rows.uptoBulkAll] at hb
      obtain ⟨k0, e0, _, f0⟩ := DataW.trod_int Tryz.underlying3 g0
      have e0' : [c0] = [Value.int .i64 k0] := e0
      obtain ⟨k1, e1, _, f1⟩ := DataW.trod_int Tryz.underlying3 g1
      have e1' : [c1] = [Value.int .i64 k1] := e1
      have b2 : Rows.uptoBulk y2.1 ≤ B := by omega
      obtain ⟨⟨⟨k2⟩⟩, e2, f2, _⟩ := DataW.trod_string Tryz.underlying9 g2
      have e2' : [c2] = [Value.string ⟨⟨k2⟩⟩] := e2
      have l2 : k2.length ≤ B := by rw [f2] at b2; simp only [Rows.uptoBulk] at b2; omega
      cases e0'
      cases e1'
      cases e2'
      exact ⟨⟨k0, k1, k2⟩, rfl, i64_rangeH f0, i64_rangeH f1, l2⟩
theorem vios_trodB {H : Type} {enc : TypeId × Value → H} {w : World} {base n B : Nat} {spare : Nat → Bool} {held : Bool} {v : Value} {y : DataW H × List MemPlace}
    (h : DataW.trod enc Tryz.prog w base spare held n 72 [v] = some y) (hB : Rows.uptoBulk y.1 ≤ B) : ∃ xs : List VioM, RowsV vioR 3 w v xs ∧ xs.length ≤ B ∧ ∀ x ∈ xs, VioAt B x :=
  Op.open_rowsB (R := vioR) (k := 3) (fun x => VioAt B x) Tryz.underlying72 (by kernel_rfl) (by decide) hB (fun n cs y hl h hb => vio_trod hl h hb) h
theorem itoa_nat {n : Nat} : Lib.itoa (n : Int) = Lib.decDigits n := by unfold Lib.itoa; rw [if_neg (by omega)]; rfl
theorem itoa_neg {n : Int} (h : n < 0) : Lib.itoa n = 45 :: Lib.decDigits n.natAbs := by unfold Lib.itoa; rw [if_pos h]
theorem itoa_len {n : Int} (h : inI n) : (Lib.itoa n).length ≤ 20 := by
  unfold inI at h
  by_cases h0 : n < 0
  · rw [itoa_neg h0, List.length_cons]
    have := dec_len19 (n := n.natAbs) (by omega)
    omega
  · obtain ⟨k, rfl⟩ : ∃ k : Nat, n = (k : Int) := ⟨n.toNat, by omega⟩
    rw [itoa_nat]
    have := dec_len19 (n := k) (by omega)
    omega
theorem digits_neg : ∀ (N m : Nat), m < N → 0 < m → m ≤ 9223372036854775808 → ∀ (n : Int), n = -(m : Int) → ∀ w : World, Calls Tryz.prog 36 #[.int .i64 n] w fun e w' => e = .returned (.string ⟨(45 :: Lib.decDigits m).toArray⟩) ∧ Below w.heap.size w w'
  | 0, m, h, _, _, _, _, w => by omega
  | N + 1, m, h, h0, hm, n, hn, w => by
    have h1 : n < 0 := by omega
    have h1d : decide (n < 0) = true := decide_eq_true h1
    by_cases h2 : m < 10
    · have e1 : Int.tdiv n 10 = 0 := by subst hn; rw [Int.neg_tdiv, Int.tdiv_eq_ediv_of_nonneg (by omega)]; omega
      have e2 : IntKind.i64.wrap (-n) = (m : Int) := by rw [IntWalk.i64_in _ (by omega)]; omega
      have HD := Lib.hid (digits_nat (m + 1) m (by omega) (by omega))
      have l1 : (Lib.decDigits m).length ≤ 19 := dec_len19 (by omega)
      clear hn h
      go_enter Tryz.func36, Tryz.ntmps36
      go_wp2_with fail
      refine (HD.out _).mono ?_
      rintro e w1 ⟨rfl, hb1⟩
      have HB1 := Lib.hid hb1
      clear hb1
      go_wp2_with fail
      go_ret
      exact ⟨rfl, HB1.out⟩
    · obtain ⟨n1, hn1⟩ : ∃ z, Int.tdiv n 10 = z := ⟨_, rfl⟩
      obtain ⟨n2, hn2⟩ : ∃ z, Int.tmod n 10 = z := ⟨_, rfl⟩
      have e1 : n1 = -((m / 10 : Nat) : Int) := by rw [← hn1]; subst hn; rw [Int.neg_tdiv, Int.tdiv_eq_ediv_of_nonneg (by omega)]; omega
      have e2 : n2 = -((m % 10 : Nat) : Int) := by rw [← hn2]; subst hn; rw [Int.neg_tmod, Int.tmod_eq_emod_of_nonneg (by omega)]; omega
      have HE := Lib.hid (dec_step h2)
      have HD := Lib.hid (digits_neg N (m / 10) (by omega) (by omega) (by omega) n1 e1)
      have HM := Lib.hid (digits_nat (m % 10 + 1) (m % 10) (by omega) (by omega))
      have l1 : (Lib.decDigits (m / 10)).length ≤ 19 := dec_len19 (by omega)
      have l2 : (Lib.decDigits (m % 10)).length ≤ 19 := dec_len19 (by omega)
      have d1 : ¬ n1 = 0 := by omega
      have d2 : (n1 == 0) = false := by rw [beq_eq_false_iff_ne]; exact d1
      have d3 : IntKind.i64.wrap n1 = n1 := IntWalk.i64_in _ (by omega)
      have d4 : IntKind.i64.wrap (-n2) = ((m % 10 : Nat) : Int) := by rw [IntWalk.i64_in _ (by omega)]; omega
      obtain ⟨q, hq⟩ : ∃ z, m / 10 = z := ⟨_, rfl⟩
      obtain ⟨r, hr⟩ : ∃ z, m % 10 = z := ⟨_, rfl⟩
      rw [hq, hr] at HE
      rw [hq] at HD l1
      rw [hr] at HM d4 l2
      clear hq hr e1 e2 hn h h2
      go_enter Tryz.func36, Tryz.ntmps36
      go_wp2_with fail
      refine (HD.out _).mono ?_
      rintro e w1 ⟨rfl, hb1⟩
      have HB1 := Lib.hid hb1
      clear hb1
      go_wp2_with fail
      refine (HM.out _).mono ?_
      rintro e w2 ⟨rfl, hb2⟩
      have HB2 := Lib.hid (HB1.out.trans (hb2.mono HB1.out.size))
      clear hb2
      go_wp2_with fail
      rw [HE.out]
      go_ret
      exact ⟨rfl, HB2.out⟩
theorem digits_int (n : Int) (h : inI n) (w : World) : Calls Tryz.prog 36 #[.int .i64 n] w fun e w' => e = .returned (.string ⟨(Lib.itoa n).toArray⟩) ∧ Below w.heap.size w w' := by
  unfold inI at h
  by_cases h0 : n < 0
  · rw [itoa_neg h0]
    exact digits_neg (n.natAbs + 1) n.natAbs (by omega) (by omega) (by omega) n (by omega) w
  · obtain ⟨k, rfl⟩ : ∃ k : Nat, n = (k : Int) := ⟨n.toNat, by omega⟩
    rw [itoa_nat]
    exact digits_nat (k + 1) k (by omega) (by omega) w
@[reducible] def TabH (w : World) : Prop := Lib.TabIs Tryz.prog w "internal/strconv.uint64pow10" .u64 Lib.pow10Tab
theorem var_belowH {P : Program} {w w' : World} {n : String} {cs : Array Value} (h : w.var? P n = some cs) (hb : Below w.heap.size w w') : w'.var? P n = some cs := A1.var_below h hb
theorem TabH.below {w w' : World} (h : TabH w) (hb : Below w.heap.size w w') : TabH w' := var_belowH h hb
theorem itoa_int (n : Int) (h : inI n) (w : World) (ht : TabH w) : Calls Tryz.prog 49 #[.int .i64 n] w fun e w' => e = .returned (.string ⟨(Lib.itoa n).toArray⟩) ∧ Below w.heap.size w w' :=
  (Tryz.strconv_Itoa n h.1 h.2 w ht).mono fun e w' hx => by
    obtain ⟨rfl, k, os, rfl⟩ := hx
    exact ⟨rfl, Lib.below_grow _ _ (Nat.le_refl _) k os⟩
/-- What the law reads: what Parse reads, and strconv's table. -/
structure FmtAt (w : World) : Prop where
  par : A1.ParseAt w
  tab : TabH w
/-- The text of violations. -/
def vioT (v : VioM) : Bs := [114, 117, 108, 101, 32] ++ (Lib.itoa v.rule ++ ([44, 32, 101, 108, 101, 109, 101, 110, 116, 32] ++ (Lib.itoa v.idx ++ ([58, 32] ++ (v.text ++ [10])))))
def fmtV (l : List VioM) : Bs := if l.length = 0 then [110, 111, 32, 118, 105, 111, 108, 97, 116, 105, 111, 110, 115, 10] else l.flatMap vioT
theorem take_vio {l : List VioM} {k : Nat} {v : VioM} (h : l[k]? = some v) : (l.take (k + 1)).flatMap vioT = (l.take k).flatMap vioT ++ vioT v := by
  rw [List.take_add_one, h, List.flatMap_append]
  show _ ++ [v].flatMap vioT = _
  rw [List.flatMap_cons, List.flatMap_nil, List.append_nil]
end Hy
end Go.Proofs.YtjijijjkkhpjnaaGreatDoor
end

