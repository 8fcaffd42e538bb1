/- Contracts and plain facts that the statement's proof leans on (texts joined). No condition beyond those that each names. -/
import Derived.Lib.SmallJoins
import Derived.Lib.ItoaNum
import Derived.Test.YtjijijjkkhpjnaaGreatDoorQeG
import Derived.Test.YtjijijjkkhpjnaaGreatDoorQeK
section
namespace Go.Proofs.YtjijijjkkhpjnaaGreatDoor
open Go.RowKit Pl Ad
attribute [local go_sem] ba_get ba_append ba_extract conv_one
set_option maxRecDepth 100000
set_option maxHeartbeats 4000000
set_option linter.unusedVariables false
set_option linter.unusedSimpArgs false
namespace Hy
open A1 Kr
theorem ruleL_other {h : HisM} {r : Int} (h1 : ¬ r = 1) (h2 : ¬ r = 2) (h3 : ¬ r = 3) (h4 : ¬ r = 4) (h5 : ¬ r = 5) : ruleL h r = [] := by
  unfold ruleL
  rw [if_neg h1, if_neg h2, if_neg h3, if_neg h4, if_neg h5]
theorem rule0_any (h : HisM) (va vb vc vd ve : Value) (B : Nat) (r : Int) (w : World) (h1 : ¬ r = 1) (h2 : ¬ r = 2) (h3 : ¬ r = 3) (h4 : ¬ r = 4) (h5 : ¬ r = 5) (ha : HisAt w B va vb vc vd ve h) (hsm : h.Small) (hB : B ≤ 134217728) :
    Calls Tryz.prog 31 #[.agg #[va, vb, vc, vd, ve, .int .i64 h.bound, .int .i64 h.fin], .int .i64 r] w fun e w' => ∃ v, e = .returned v ∧ OwnWin w' w.heap.size 90 3 v 0 [] ∧ Below w.heap.size w w' := by
  obtain ⟨ps, gs, ss, fs, ds, bound, fin⟩ := h
  simp only at ha hsm ⊢
  have HA := Lib.hid ha
  have HSM := Lib.hid hsm
  have HBB := Lib.hid hB
  have HB0 := Lib.hid ((Below.refl w.heap.size w).alloc (Nat.le_refl _) (.cells #[va, vb, vc, vd, ve, .int .i64 bound, .int .i64 fin] 69))
  have e1 : (r == 1) = false := beq_eq_false_iff_ne.2 h1
  have e2 : (r == 2) = false := beq_eq_false_iff_ne.2 h2
  have e3 : (r == 3) = false := beq_eq_false_iff_ne.2 h3
  have e4 : (r == 4) = false := beq_eq_false_iff_ne.2 h4
  have e5 : (r == 5) = false := beq_eq_false_iff_ne.2 h5
  clear ha hsm hB h1 h2 h3 h4 h5
  go_enter Tryz.func31, Tryz.ntmps31
  go_wp2_with fail
  refine (spans_any ps va B _ (HA.out.below HB0.out).pubs (by have h91 := HSM.out.npub; simp only at h91; omega) (HA.out.below HB0.out).pub (by have := HBB.out; omega)).mono ?_
  rintro e w2 ⟨allv, rfl, hsp, hb2⟩
  have HB2 := Lib.hid (HB0.out.trans (hb2.mono HB0.out.size))
  clear hb2 hsp
  go_wp2_with fail
  go_ret
  exact ⟨_, rfl, OwnWin.nil _ _ _ _, HB2.out⟩
theorem rule_any (h : HisM) (va vb vc vd ve : Value) (B : Nat) (r : Int) (w : World) (hr : Ready w) (hpw : ParseAt w) (ha : HisAt w B va vb vc vd ve h) (hsm : h.Small) (hB : B ≤ 134217728) :
    Calls Tryz.prog 31 #[.agg #[va, vb, vc, vd, ve, .int .i64 h.bound, .int .i64 h.fin], .int .i64 r] w fun e w' => ∃ v, e = .returned v ∧ OwnWin w' w.heap.size 90 3 v (ruleL h r).length (vvals (ruleL h r)) ∧ Below w.heap.size w w' := by
  by_cases h1 : r = 1
  · subst h1; exact rule1_any h va vb vc vd ve B w hr hpw ha hsm hB
  by_cases h2 : r = 2
  · subst h2; exact rule2_any h va vb vc vd ve B w hr hpw ha hsm hB
  by_cases h3 : r = 3
  · subst h3; exact rule3_any h va vb vc vd ve B w hr hpw ha hsm hB
  by_cases h4 : r = 4
  · subst h4; exact rule4_any h va vb vc vd ve B w hr hpw ha hsm hB
  by_cases h5 : r = 5
  · subst h5; exact rule5_any h va vb vc vd ve B w hr hpw ha hsm hB
  rw [ruleL_other h1 h2 h3 h4 h5]
  exact rule0_any h va vb vc vd ve B r w h1 h2 h3 h4 h5 ha hsm hB
theorem vioF_len2 {α : Type} {r : Int} {tx : Bs} {bad : Nat → α → Bool} (l : List α) (k : Nat) : (vioF r tx bad l k).length ≤ l.length := vioF_len
theorem ruleL_len {h : HisM} (hs : h.Small) (r : Int) : (ruleL h r).length ≤ 1000 := by
  unfold ruleL
  split
  · exact Nat.le_trans (vioF_len2 _ _) hs.nsrv
  split
  · exact Nat.le_trans (vioF_len2 _ _) hs.nprg
  split
  · exact Nat.le_trans (vioF_len2 _ _) hs.nsrv
  split
  · exact Nat.le_trans (vioF_len2 _ _) hs.nsrv
  split
  · exact Nat.le_trans (vioF_len2 _ _) hs.nfet
  · simp
/-- The violations of the first k rules. -/
def firstL (h : HisM) (k : Nat) : List VioM := (List.range k).flatMap fun (i : Nat) => ruleL h ((i : Int) + 1)
theorem firstL_succ (h : HisM) (k : Nat) : firstL h (k + 1) = firstL h k ++ ruleL h ((k : Int) + 1) := by
  unfold firstL
  rw [List.range_succ, List.flatMap_append]
  simp
theorem firstL_five (h : HisM) : firstL h 5 = checkL h := by
  have e : List.range 5 = [0, 1, 2, 3, 4] := rfl
  unfold firstL checkL
  rw [e]
  simp [ruleL]
theorem firstL_len {h : HisM} (hs : h.Small) : ∀ k, (firstL h k).length ≤ 1000 * k
  | 0 => Nat.le_refl _
  | k + 1 => by
    have h1 := firstL_len hs k
    have h2 := ruleL_len hs ((k : Int) + 1)
    rw [firstL_succ, List.length_append]; omega
theorem vvals_one' : ∀ l : List VioM, ∀ u ∈ vvals l, u.oneCell' = true
  | [] => fun u h => by cases h
  | v :: r => fun u h => by
    rcases List.mem_append.1 h with h | h
    · simp [vioR] at h
      rcases h with rfl | rfl | rfl <;> rfl
    · exact vvals_one' r u h
theorem check_any (h : HisM) (va vb vc vd ve : Value) (B : Nat) (w : World) (hr : Ready w) (hpw : ParseAt w) (ha : HisAt w B va vb vc vd ve h) (hsm : h.Small) (hB : B ≤ 134217728) :
    Calls Tryz.prog 34 #[.agg #[va, vb, vc, vd, ve, .int .i64 h.bound, .int .i64 h.fin]] w fun e w' => ∃ v, e = .returned v ∧ OwnWin w' w.heap.size 90 3 v (checkL h).length (vvals (checkL h)) ∧ Below w.heap.size w w' := by
  have HA := Lib.hid ha
  have HSM := Lib.hid hsm
  have HBB := Lib.hid hB
  have HRY := Lib.hid hr
  have HPW := Lib.hid hpw
  have H5 := Lib.hid (firstL_five h)
  have HB0 := Lib.hid ((Below.refl w.heap.size w).alloc (Nat.le_refl _) (.cells #[va, vb, vc, vd, ve, .int .i64 h.bound, .int .i64 h.fin] 69))
  have HXH := Lib.hid (Bx.new w 69 #[va, vb, vc, vd, ve, .int .i64 h.bound, .int .i64 h.fin])
  clear ha hsm hB hr hpw
  go_enter Tryz.func34, Tryz.ntmps34
  go_wp2_with fail
  obtain ⟨w1, hw1⟩ : ∃ z, w.alloc (.cells #[va, vb, vc, vd, ve, .int .i64 h.bound, .int .i64 h.fin] 69) = z := ⟨_, rfl⟩
  obtain ⟨b0, hb0⟩ : ∃ z, w.heap.size = z := ⟨_, rfl⟩
  rw [hw1] at HB0 HXH ⊢
  rw [hb0] at HXH ⊢
  clear hw1 hb0
  go_loopg [4, 3] 5 (fun gq iv vv wr => ∃ (k : Nat) (a : Option Addr) (c : Nat), iv = .int .i64 ((k : Int) + 1) ∧ vv = .slice a (firstL h k).length c ∧ k ≤ 5 ∧ Hid (5 ≤ gq + k) ∧ Hid (Below w1.heap.size w1 wr) ∧ Hid (OwnWin wr w1.heap.size 90 3 (.slice a (firstL h k).length c) (firstL h k).length (vvals (firstL h k))))
  case atStart => exact ⟨0, none, 0, rfl, rfl, Nat.zero_le _, Lib.hid (by omega), Lib.hid (Below.refl _ _), Lib.hid (OwnWin.nil _ _ _ _)⟩
  case round =>
    obtain ⟨k, a, c, rfl, rfl, hk, HQ, HBW, HO⟩ := hrel
    have HFS := Lib.hid (firstL_succ h k)
    have HFL := Lib.hid (firstL_len HSM.out k)
    have HRL := Lib.hid (ruleL_len HSM.out ((k : Int) + 1))
    obtain ⟨acc, hacc⟩ : ∃ z, firstL h k = z := ⟨_, rfl⟩
    rw [hacc] at HO HFS HFL ⊢
    by_cases hlt : k < 5
    · have HLT := Lib.hid hlt
      have hle : (k : Int) + 1 ≤ 5 := by omega
      have h0 := (HXH.out.older HBW.out).cell (i := 0) rfl
      have h1 := (HXH.out.older HBW.out).cell (i := 1) rfl
      have h2 := (HXH.out.older HBW.out).cell (i := 2) rfl
      have h3 := (HXH.out.older HBW.out).cell (i := 3) rfl
      have h4 := (HXH.out.older HBW.out).cell (i := 4) rfl
      have h5 := (HXH.out.older HBW.out).cell (i := 5) rfl
      have h6 := (HXH.out.older HBW.out).cell (i := 6) rfl
      have HBX := Lib.hid (HB0.out.trans (HBW.out.mono HB0.out.size))
      clear hacc
      go_wp2_with fail
      refine (rule_any h va vb vc vd ve B ((k : Int) + 1) _ (HRY.out.below HBX.out) (HPW.out.below HBX.out) (HA.out.below HBX.out) HSM.out HBB.out).mono ?_
      rintro e w3 ⟨u, rfl, hou, hb3⟩
      have HB3 := Lib.hid (HBW.out.trans (hb3.mono HBW.out.size))
      have HO3 := Lib.hid (HO.out.older hb3)
      have HOU := Lib.hid hou
      obtain ⟨ua, uc, rfl, _⟩ := hou.form
      clear hou hb3 h0 h1 h2 h3 h4 h5 h6
      obtain ⟨rl, hrl⟩ : ∃ z, ruleL h ((k : Int) + 1) = z := ⟨_, rfl⟩
      rw [hrl] at HOU HFS HRL ⊢
      clear hrl
      go_wp2_with (at_builtin; refine wpList_appw tyVio (by rfl) _ _ (by rfl) w1.heap.size (.slice a acc.length c) acc.length _ (by rfl) HO3.out HB3.out.size (.slice ua rl.length uc) rl.length (vvals rl) (by rfl) (SrcAt.of HOU.out) (vvals_len rl) (vvals_one' rl) (by have h91 := HFL.out; have h92 := HRL.out; omega) ?_; intro v4 w4 hown4 hgrow4 hlies4; have HO4 := Lib.hid hown4; have HG4 := Lib.hid hgrow4; clear hown4 hgrow4 hlies4)
      have HOW4 := Lib.hid (show OwnWin w4 w1.heap.size 90 3 v4 (firstL h (k + 1)).length (vvals (firstL h (k + 1))) by rw [HFS.out, List.length_append, vvals_append]; exact HO4.out)
      obtain ⟨a4, c4, rfl, _⟩ := HOW4.out.form
      have HB4 := Lib.hid (HB3.out.grown HG4.out HB3.out.size (fun q hq => (HO3.out.lt q hq).1))
      go_roundg (gk - 1)
      case rel => exact ⟨k + 1, a4, c4, by go_num, rfl, by have := HLT.out; omega, Lib.hid (by have := HQ.out; omega), HB4, HOW4⟩
      case measure => have := HQ.out; have := HLT.out; omega
    · obtain rfl : k = 5 := by omega
      have HE := Lib.hid (show checkL h = acc by rw [← H5.out, hacc])
      clear hacc
      go_wp2_with fail
      go_ret
      exact ⟨_, rfl, by rw [HE.out]; exact HO.out.mono (fun q hq => Nat.le_trans HB0.out.size (HO.out.lt q hq).1), HB0.out.trans (HBW.out.mono HB0.out.size)⟩
end Hy
end Go.Proofs.YtjijijjkkhpjnaaGreatDoor
end

section
namespace Go.Proofs.YtjijijjkkhpjnaaGreatDoor
open Go.RowKit Pl Ad
attribute [local go_sem] ba_get ba_append ba_extract conv_one
set_option maxRecDepth 100000
set_option maxHeartbeats 4000000
set_option linter.unusedVariables false
set_option linter.unusedSimpArgs false
namespace Hy
open A1 Kr
theorem src_cells {w : World} {g : Nat} {C : Array Value} {e : TypeId} {fr : Nat × Nat} {n c : Nat} (h : w.heap[g]? = some (.cells C e fr)) : SrcAt w (.slice (some ⟨g, 0, none⟩) n c) n C.toList := by
  refine .inr ⟨_, _, rfl, fun j u hu => ?_⟩
  rw [Addr.add_lit, Nat.zero_add, cell_of_row w g j C e fr h]
  simpa using hu
/-- What a list of times holds of a history: of the first elements of each list. -/
structure Got (h : HisM) (xs : List Int) (a b c d e : Nat) : Prop where
  bd : h.bound ∈ xs
  fn : h.fin ∈ xs
  pu : ∀ (j : Nat) (p : PubM), j < a → h.pubs[j]? = some p → p.at_ ∈ xs ∧ p.lim ∈ xs
  pr : ∀ (j : Nat) (g : PrgM), j < b → h.prgs[j]? = some g → g.ord ∈ xs ∧ g.stl ∈ xs
  sr : ∀ (j : Nat) (s : SrvM), j < c → h.srvs[j]? = some s → s.at_ ∈ xs ∧ s.ask ∈ xs ∧ ∀ x ∈ s.parts, x.at_ ∈ xs
  fe : ∀ (j : Nat) (f : FetM), j < d → h.fets[j]? = some f → f.at_ ∈ xs
  dr : ∀ (j : Nat) (d : DroM), j < e → h.dros[j]? = some d → d.at_ ∈ xs
section
variable {h : HisM} {xs ys : List Int} {a b c d e : Nat}
theorem Got.id (k : Got h xs a b c d e) : Got h xs a b c d e := k
theorem Got.more (k : Got h xs a b c d e) (hy : ∀ n ∈ xs, n ∈ ys) : Got h ys a b c d e :=
  ⟨hy _ k.bd, hy _ k.fn, fun j p h1 h2 => ⟨hy _ (k.pu j p h1 h2).1, hy _ (k.pu j p h1 h2).2⟩, fun j p h1 h2 => ⟨hy _ (k.pr j p h1 h2).1, hy _ (k.pr j p h1 h2).2⟩, fun j p h1 h2 => ⟨hy _ (k.sr j p h1 h2).1, hy _ (k.sr j p h1 h2).2.1, fun x hx => hy _ ((k.sr j p h1 h2).2.2 x hx)⟩, fun j p h1 h2 => hy _ (k.fe j p h1 h2), fun j p h1 h2 => hy _ (k.dr j p h1 h2)⟩
theorem Got.pub (k : Got h xs a b c d e) {p : PubM} (hp : h.pubs[a]? = some p) : Got h (xs ++ [p.at_, p.lim]) (a + 1) b c d e := by
  have m := k.more (ys := xs ++ [p.at_, p.lim]) (fun n hn => List.mem_append_left _ hn)
  refine ⟨m.bd, m.fn, ?_, m.pr, m.sr, m.fe, m.dr⟩
  intro j q hj hq
  rcases Nat.lt_succ_iff_lt_or_eq.1 hj with h9 | rfl
  · exact ⟨List.mem_append_left _ (k.pu j q h9 hq).1, List.mem_append_left _ (k.pu j q h9 hq).2⟩
  · rw [hp] at hq; cases hq; exact ⟨by simp, by simp⟩
theorem Got.prg (k : Got h xs a b c d e) {p : PrgM} (hp : h.prgs[b]? = some p) : Got h (xs ++ [p.ord, p.stl]) a (b + 1) c d e := by
  have m := k.more (ys := xs ++ [p.ord, p.stl]) (fun n hn => List.mem_append_left _ hn)
  refine ⟨m.bd, m.fn, m.pu, ?_, m.sr, m.fe, m.dr⟩
  intro j q hj hq
  rcases Nat.lt_succ_iff_lt_or_eq.1 hj with h9 | rfl
  · exact ⟨List.mem_append_left _ (k.pr j q h9 hq).1, List.mem_append_left _ (k.pr j q h9 hq).2⟩
  · rw [hp] at hq; cases hq; exact ⟨by simp, by simp⟩
theorem Got.srv (k : Got h xs a b c d e) {x : SrvM} (hp : h.srvs[c]? = some x) (h1 : ∀ n ∈ xs, n ∈ ys) (h2 : x.at_ ∈ ys ∧ x.ask ∈ ys) (h3 : ∀ y ∈ x.parts, y.at_ ∈ ys) : Got h ys a b (c + 1) d e := by
  have m := k.more h1
  refine ⟨m.bd, m.fn, m.pu, m.pr, ?_, m.fe, m.dr⟩
  intro j q hj hq
  rcases Nat.lt_succ_iff_lt_or_eq.1 hj with h9 | rfl
  · exact ⟨h1 _ (k.sr j q h9 hq).1, h1 _ (k.sr j q h9 hq).2.1, fun y hy => h1 _ ((k.sr j q h9 hq).2.2 y hy)⟩
  · rw [hp] at hq; cases hq; exact ⟨h2.1, h2.2, h3⟩
theorem Got.fet (k : Got h xs a b c d e) {p : FetM} (hp : h.fets[d]? = some p) : Got h (xs ++ [p.at_]) a b c (d + 1) e := by
  have m := k.more (ys := xs ++ [p.at_]) (fun n hn => List.mem_append_left _ hn)
  refine ⟨m.bd, m.fn, m.pu, m.pr, m.sr, ?_, m.dr⟩
  intro j q hj hq
  rcases Nat.lt_succ_iff_lt_or_eq.1 hj with h9 | rfl
  · exact List.mem_append_left _ (k.fe j q h9 hq)
  · rw [hp] at hq; cases hq; simp
theorem Got.dro (k : Got h xs a b c d e) {p : DroM} (hp : h.dros[e]? = some p) : Got h (xs ++ [p.at_]) a b c d (e + 1) := by
  have m := k.more (ys := xs ++ [p.at_]) (fun n hn => List.mem_append_left _ hn)
  refine ⟨m.bd, m.fn, m.pu, m.pr, m.sr, m.fe, ?_⟩
  intro j q hj hq
  rcases Nat.lt_succ_iff_lt_or_eq.1 hj with h9 | rfl
  · exact List.mem_append_left _ (k.dr j q h9 hq)
  · rw [hp] at hq; cases hq; simp
/-- Few elements. -/
def Lens (h : HisM) : Prop := h.pubs.length ≤ 1000 ∧ h.prgs.length ≤ 1000 ∧ h.srvs.length ≤ 1000 ∧ h.fets.length ≤ 1000 ∧ h.dros.length ≤ 1000
theorem Got.small (k : Got h xs h.pubs.length h.prgs.length h.srvs.length h.fets.length h.dros.length) (hb : ∀ n ∈ xs, inB n) (hl : Lens h) : h.Small :=
  ⟨fun p hp => by
      obtain ⟨j, hj, rfl⟩ := List.getElem_of_mem hp
      have := k.pu j _ hj (List.getElem?_eq_getElem hj)
      exact ⟨hb _ this.1, hb _ this.2⟩,
   fun p hp => by
      obtain ⟨j, hj, rfl⟩ := List.getElem_of_mem hp
      have := k.pr j _ hj (List.getElem?_eq_getElem hj)
      exact ⟨hb _ this.1, hb _ this.2⟩,
   fun p hp => by
      obtain ⟨j, hj, rfl⟩ := List.getElem_of_mem hp
      have := k.sr j _ hj (List.getElem?_eq_getElem hj)
      exact ⟨hb _ this.1, hb _ this.2.1, fun x hx => hb _ (this.2.2 x hx)⟩,
   fun p hp => by
      obtain ⟨j, hj, rfl⟩ := List.getElem_of_mem hp
      exact hb _ (k.fe j _ hj (List.getElem?_eq_getElem hj)),
   fun p hp => by
      obtain ⟨j, hj, rfl⟩ := List.getElem_of_mem hp
      exact hb _ (k.dr j _ hj (List.getElem?_eq_getElem hj)),
   hb _ k.bd, hb _ k.fn, hl.1, hl.2.1, hl.2.2.1, hl.2.2.2.1, hl.2.2.2.2⟩
end
end Hy
end Go.Proofs.YtjijijjkkhpjnaaGreatDoor
end

section
namespace Go.Proofs.YtjijijjkkhpjnaaGreatDoor
open Go.RowKit Pl Ad
attribute [local go_sem] ba_get ba_append ba_extract conv_one
set_option maxRecDepth 100000
set_option maxHeartbeats 4000000
set_option linter.unusedVariables false
set_option linter.unusedSimpArgs false
namespace Hy
open A1 Kr
theorem flat_get {α : Type} {F : α → List Value} {k : Nat} (hF : ∀ x, (F x).length = k) (hk : 0 < k) : ∀ (xs : List α) (j : Nat), (xs.flatMap F)[j]? = (xs[j / k]?).bind fun x => (F x)[j % k]?
  | [], j => by simp
  | x :: r, j => by
    rw [List.flatMap_cons]
    by_cases h : j < k
    · rw [List.getElem?_append_left (by rw [hF]; exact h), Nat.div_eq_of_lt h, Nat.mod_eq_of_lt h]; rfl
    · obtain ⟨m, rfl⟩ : ∃ m, j = m + k := ⟨j - k, by omega⟩
      rw [List.getElem?_append_right (by rw [hF]; omega), hF, Nat.add_sub_cancel, flat_get hF hk r m, Nat.add_div_right m hk, Nat.add_mod_right]
      rfl
theorem flat_at {α : Type} {F : α → List Value} {k : Nat} (hF : ∀ x, (F x).length = k) {xs : List α} {i j : Nat} {x : α} {u : Value} (hx : xs[i]? = some x) (hu : (F x)[j]? = some u) : (xs.flatMap F)[i * k + j]? = some u := by
  have hj : j < k := by rw [← hF x]; exact (List.getElem?_eq_some_iff.1 hu).1
  rw [flat_get hF (by omega), show i * k + j = j + k * i by rw [Nat.mul_comm]; omega, Nat.add_mul_div_left _ _ (by omega), Nat.div_eq_of_lt hj, Nat.add_mul_mod_self_left, Nat.mod_eq_of_lt hj, Nat.zero_add, hx]
  exact hu
theorem flat_len {α : Type} {F : α → List Value} {k : Nat} (hF : ∀ x, (F x).length = k) : ∀ xs : List α, (xs.flatMap F).length = xs.length * k
  | [] => by simp
  | x :: r => by rw [List.flatMap_cons, List.length_append, hF, flat_len hF r, List.length_cons, Nat.add_mul]; omega
section
variable {α : Type} {F : α → List Value} {k : Nat} {w w' : World} {v : Value} {xs : List α}
theorem rows_src (h : RowsV F k w v xs) (hF : ∀ x, (F x).length = k) (hk : 0 < k) : SrcAt w v xs.length (xs.flatMap F) := by
  rcases h with ⟨rfl, h1 | ⟨a, c, h1⟩⟩ | ⟨b, o, c, h1, _, _, h4⟩
  · exact .inl ⟨h1, rfl, rfl⟩
  · exact .inr ⟨a, c, h1, fun j x hx => by simp at hx⟩
  · refine .inr ⟨⟨b, o, none⟩, c, h1, fun j u hu => ?_⟩
    rw [flat_get hF hk] at hu
    obtain ⟨x, hx, hxu⟩ := Option.bind_eq_some_iff.1 hu
    have := h4 _ x hx _ u hxu
    rw [Nat.div_add_mod'] at this
    rw [Addr.add_lit]
    exact this
theorem rows_ownF {B : Nat} {e : TypeId} (h : OwnWin w B e k v xs.length (xs.flatMap F)) (hF : ∀ x, (F x).length = k) : RowsV F k w v xs := by
  rcases Nat.eq_zero_or_pos xs.length with h0 | h0
  · obtain rfl := List.eq_nil_of_length_eq_zero h0
    rcases h.2 with ⟨h1, _⟩ | ⟨g, o, cap, cur, h1, _⟩
    · exact .inl ⟨rfl, .inl h1⟩
    · exact .inl ⟨rfl, .inr ⟨_, _, h1⟩⟩
  · obtain ⟨g, o, c, e1, h1, _, _, h2, h3⟩ := h.cells h0
    exact .inr ⟨g, o, c, e1, h1, h2, fun i x hx j u hu => h3 _ u (flat_at hF hx hu)⟩
/-- Rows that are a block. -/
theorem rows_bx {b T c : Nat} {C : Array Value} {fr : Nat × Nat} (h : w.heap[b]? = some (.cells C T fr)) (hC : C.toList = xs.flatMap F) (hF : ∀ x, (F x).length = k) (hc : xs.length ≤ c) {n : Nat} (hn : n = xs.length) : RowsV F k w (.slice (some ⟨b, 0, none⟩) n c) xs := by
  subst hn
  refine .inr ⟨b, 0, c, rfl, hc, (Array.getElem?_eq_some_iff.1 h).1, fun i x hx j u hu => ?_⟩
  have h1 := flat_at hF hx hu
  rw [← hC] at h1
  rw [Nat.zero_add, cell_of_row w b _ C T fr h]
  simpa using h1
end
theorem pubR_len (p : PubM) : (pubR p).length = 5 := rfl
theorem prgR_len (p : PrgM) : (prgR p).length = 3 := rfl
theorem partR_len (p : PartM) : (partR p).length = 3 := rfl
theorem srvR_len (p : SrvM) : (srvR p).length = 11 := rfl
theorem byteC_len (b : UInt8) : (Sg.byteC b).length = 1 := rfl
theorem bytes_flat (l : Bs) : l.flatMap Sg.byteC = bvals l := by
  induction l with
  | nil => rfl
  | cons b r ih => rw [List.flatMap_cons, ih]; rfl
theorem bytes_bx {w : World} {b T c n : Nat} {C : Array Value} {fr : Nat × Nat} (l : Bs) (h : w.heap[b]? = some (.cells C T fr)) (hC : C.toList = bvals l) (hc : l.length ≤ c) (hn : n = l.length) : RowsV Sg.byteC 1 w (.slice (some ⟨b, 0, none⟩) n c) l := rows_bx h (by rw [bytes_flat]; exact hC) byteC_len hc hn
theorem bx_newH {w : World} {n T : Nat} {cs : Array Value} (h : w.heap.size = n) : Bx (w.alloc (.cells cs T)) n T cs := h ▸ Bx.new w T cs
theorem bx_allocH {w : World} {R T : Nat} {cs : Array Value} (h : Bx w R T cs) (o : Obj) : Bx (w.alloc o) R T cs := h.older ((Below.refl _ _).alloc (Nat.le_refl _) o)
def exX : Bs := [97, 46, 101, 120, 97, 109, 112, 108, 101, 47, 120]
def exT : Bs := [101, 120, 97, 99, 116, 32, 48, 32, 97, 46, 101, 120, 97, 109, 112, 108, 101, 47, 120]
/-- The document's example, with a response at a time and a purge that was ordered at a time. -/
def exM (v1 v2 v3 v4 : Value) (a o : Int) : HisM := ⟨[⟨10, 100, exX, [49], v1, [97, 98]⟩, ⟨50, 100, exX, [50], v2, [99, 100]⟩], [⟨exT, o, 70⟩], [⟨[101, 49], exX, [49], 0, a, a, 0, 2, .slice none 0 0, [], v4, [⟨a, 0, v3, [97, 98]⟩], true⟩], [], [], 100, 200⟩
theorem ex_one (v1 v2 v3 v4 : Value) : checkL (exM v1 v2 v3 v4 149 60) = [⟨1, 0, tx1⟩] := by kernel_rfl
theorem ex_two (v1 v2 v3 v4 : Value) : checkL (exM v1 v2 v3 v4 149 49) = [] := by kernel_rfl
theorem ex_three (v1 v2 v3 v4 : Value) : (checkL (exM v1 v2 v3 v4 150 49)).length = 1 := by kernel_rfl
theorem ex_small (v1 v2 v3 v4 : Value) {a o : Int} (ha : 0 ≤ a ∧ a ≤ 1000) (ho : 0 ≤ o ∧ o ≤ 1000) : (exM v1 v2 v3 v4 a o).Small := by
  refine ⟨fun p hp => ?_, fun p hp => ?_, fun p hp => ?_, fun p hp => ?_, fun p hp => ?_, ?_, ?_, ?_, ?_, ?_, ?_, ?_⟩
  all_goals simp [exM, inB] at *
  · rcases hp with rfl | rfl <;> simp
  · subst hp; simp; omega
  · subst hp; simp; omega
theorem hb_new {w : World} {n : Nat} {o : Obj} (h : w.heap.size = n) : (w.alloc o).heap[n]? = some o := h ▸ heap_alloc_new w o
theorem hb_alloc {w : World} {n : Nat} {o : Obj} (h : w.heap[n]? = some o) (q : Obj) : (w.alloc q).heap[n]? = some o :=
  (Below.heap_alloc w q n (Array.getElem?_eq_some_iff.1 h).1).trans h
theorem conv_at (w : World) (C : Array Value) (n c g : Nat) (hg : g = w.heap.size) : (convert 84 84 (.slice (some ⟨g, 0, none⟩) n c)).run Tryz.prog (w.alloc (.cells C 5)) = .ok (.slice (some ⟨g, 0, none⟩) n c) (w.alloc (.cells C 5 (C.size, C.size + 1))) :=
  Joins.run_convert_bytes_const_at w 84 5 C n c g hg Tryz.underlying84 Tryz.underlying5
attribute [local go_sem] conv_at
theorem example_any (a o : Int) (w : World) : Calls Tryz.prog 54 #[.int .i64 a, .int .i64 o] w fun e w' => ∃ va vb vc vd ve v1 v2 v3 v4, e = .returned (.agg #[va, vb, vc, vd, ve, .int .i64 100, .int .i64 200]) ∧ HisAt w' 20 va vb vc vd ve (exM v1 v2 v3 v4 a o) ∧ Below w.heap.size w w' := by
  go_enter Tryz.func54, Tryz.ntmps54
  go_wp2_with fail
  obtain ⟨n0, hn0⟩ : ∃ z, w.heap.size = z := ⟨_, rfl⟩
  have h0 : ((((((((w.alloc (.cells #[.slice (some ⟨w.heap.size + 1 + 1 + 1, 0, none⟩) 2 2, .slice (some ⟨w.heap.size + 1 + 1 + 1 + 1, 0, none⟩) 1 1, .slice (some ⟨w.heap.size + 1 + 1 + 1 + 1 + 1 + 1 + 1, 0, none⟩) 1 1, .slice none 0 0, .slice none 0 0, .int .i64 100, .int .i64 200] 69 )).alloc (.cells #[.int .u8 97, .int .u8 98] 5 (2, 3))).alloc (.cells #[.int .u8 99, .int .u8 100] 5 (2, 3))).alloc (.cells #[.int .i64 10, .int .i64 100, .string ⟨#[97, 46, 101, 120, 97, 109, 112, 108, 101, 47, 120]⟩, .string ⟨#[49]⟩, .slice (some ⟨w.heap.size + 1, 0, none⟩) 2 2, .int .i64 50, .int .i64 100, .string ⟨#[97, 46, 101, 120, 97, 109, 112, 108, 101, 47, 120]⟩, .string ⟨#[50]⟩, .slice (some ⟨w.heap.size + 1 + 1, 0, none⟩) 2 2] 86 )).alloc (.cells #[.string ⟨#[101, 120, 97, 99, 116, 32, 48, 32, 97, 46, 101, 120, 97, 109, 112, 108, 101, 47, 120]⟩, .int .i64 o, .int .i64 70] 97 )).alloc (.cells #[.int .u8 97, .int .u8 98] 5 (2, 3))).alloc (.cells #[.int .i64 a, .int .i64 0, .slice (some ⟨w.heap.size + 1 + 1 + 1 + 1 + 1, 0, none⟩) 2 2] 88 )).alloc (.cells #[.string ⟨#[101, 49]⟩, .string ⟨#[97, 46, 101, 120, 97, 109, 112, 108, 101, 47, 120]⟩, .string ⟨#[49]⟩, .int .i64 0, .int .i64 a, .int .i64 a, .int .i64 0, .int .i64 2, .slice none 0 0, .slice (some ⟨w.heap.size + 1 + 1 + 1 + 1 + 1 + 1, 0, none⟩) 1 1, .bool true] 82 )).heap[w.heap.size]? = some (.cells #[.slice (some ⟨w.heap.size + 1 + 1 + 1, 0, none⟩) 2 2, .slice (some ⟨w.heap.size + 1 + 1 + 1 + 1, 0, none⟩) 1 1, .slice (some ⟨w.heap.size + 1 + 1 + 1 + 1 + 1 + 1 + 1, 0, none⟩) 1 1, .slice none 0 0, .slice none 0 0, .int .i64 100, .int .i64 200] 69 (0, 0)) := (hb_alloc (hb_alloc (hb_alloc (hb_alloc (hb_alloc (hb_alloc (hb_alloc (hb_new (by simp)) _) _) _) _) _) _) _)
  have h1 : ((((((((w.alloc (.cells #[.slice (some ⟨w.heap.size + 1 + 1 + 1, 0, none⟩) 2 2, .slice (some ⟨w.heap.size + 1 + 1 + 1 + 1, 0, none⟩) 1 1, .slice (some ⟨w.heap.size + 1 + 1 + 1 + 1 + 1 + 1 + 1, 0, none⟩) 1 1, .slice none 0 0, .slice none 0 0, .int .i64 100, .int .i64 200] 69 )).alloc (.cells #[.int .u8 97, .int .u8 98] 5 (2, 3))).alloc (.cells #[.int .u8 99, .int .u8 100] 5 (2, 3))).alloc (.cells #[.int .i64 10, .int .i64 100, .string ⟨#[97, 46, 101, 120, 97, 109, 112, 108, 101, 47, 120]⟩, .string ⟨#[49]⟩, .slice (some ⟨w.heap.size + 1, 0, none⟩) 2 2, .int .i64 50, .int .i64 100, .string ⟨#[97, 46, 101, 120, 97, 109, 112, 108, 101, 47, 120]⟩, .string ⟨#[50]⟩, .slice (some ⟨w.heap.size + 1 + 1, 0, none⟩) 2 2] 86 )).alloc (.cells #[.string ⟨#[101, 120, 97, 99, 116, 32, 48, 32, 97, 46, 101, 120, 97, 109, 112, 108, 101, 47, 120]⟩, .int .i64 o, .int .i64 70] 97 )).alloc (.cells #[.int .u8 97, .int .u8 98] 5 (2, 3))).alloc (.cells #[.int .i64 a, .int .i64 0, .slice (some ⟨w.heap.size + 1 + 1 + 1 + 1 + 1, 0, none⟩) 2 2] 88 )).alloc (.cells #[.string ⟨#[101, 49]⟩, .string ⟨#[97, 46, 101, 120, 97, 109, 112, 108, 101, 47, 120]⟩, .string ⟨#[49]⟩, .int .i64 0, .int .i64 a, .int .i64 a, .int .i64 0, .int .i64 2, .slice none 0 0, .slice (some ⟨w.heap.size + 1 + 1 + 1 + 1 + 1 + 1, 0, none⟩) 1 1, .bool true] 82 )).heap[w.heap.size + 1]? = some (.cells #[.int .u8 97, .int .u8 98] 5 (2, 3)) := (hb_alloc (hb_alloc (hb_alloc (hb_alloc (hb_alloc (hb_alloc (hb_new (by simp)) _) _) _) _) _) _)
  have h2 : ((((((((w.alloc (.cells #[.slice (some ⟨w.heap.size + 1 + 1 + 1, 0, none⟩) 2 2, .slice (some ⟨w.heap.size + 1 + 1 + 1 + 1, 0, none⟩) 1 1, .slice (some ⟨w.heap.size + 1 + 1 + 1 + 1 + 1 + 1 + 1, 0, none⟩) 1 1, .slice none 0 0, .slice none 0 0, .int .i64 100, .int .i64 200] 69 )).alloc (.cells #[.int .u8 97, .int .u8 98] 5 (2, 3))).alloc (.cells #[.int .u8 99, .int .u8 100] 5 (2, 3))).alloc (.cells #[.int .i64 10, .int .i64 100, .string ⟨#[97, 46, 101, 120, 97, 109, 112, 108, 101, 47, 120]⟩, .string ⟨#[49]⟩, .slice (some ⟨w.heap.size + 1, 0, none⟩) 2 2, .int .i64 50, .int .i64 100, .string ⟨#[97, 46, 101, 120, 97, 109, 112, 108, 101, 47, 120]⟩, .string ⟨#[50]⟩, .slice (some ⟨w.heap.size + 1 + 1, 0, none⟩) 2 2] 86 )).alloc (.cells #[.string ⟨#[101, 120, 97, 99, 116, 32, 48, 32, 97, 46, 101, 120, 97, 109, 112, 108, 101, 47, 120]⟩, .int .i64 o, .int .i64 70] 97 )).alloc (.cells #[.int .u8 97, .int .u8 98] 5 (2, 3))).alloc (.cells #[.int .i64 a, .int .i64 0, .slice (some ⟨w.heap.size + 1 + 1 + 1 + 1 + 1, 0, none⟩) 2 2] 88 )).alloc (.cells #[.string ⟨#[101, 49]⟩, .string ⟨#[97, 46, 101, 120, 97, 109, 112, 108, 101, 47, 120]⟩, .string ⟨#[49]⟩, .int .i64 0, .int .i64 a, .int .i64 a, .int .i64 0, .int .i64 2, .slice none 0 0, .slice (some ⟨w.heap.size + 1 + 1 + 1 + 1 + 1 + 1, 0, none⟩) 1 1, .bool true] 82 )).heap[w.heap.size + 1 + 1]? = some (.cells #[.int .u8 99, .int .u8 100] 5 (2, 3)) := (hb_alloc (hb_alloc (hb_alloc (hb_alloc (hb_alloc (hb_new (by simp)) _) _) _) _) _)
  have h3 : ((((((((w.alloc (.cells #[.slice (some ⟨w.heap.size + 1 + 1 + 1, 0, none⟩) 2 2, .slice (some ⟨w.heap.size + 1 + 1 + 1 + 1, 0, none⟩) 1 1, .slice (some ⟨w.heap.size + 1 + 1 + 1 + 1 + 1 + 1 + 1, 0, none⟩) 1 1, .slice none 0 0, .slice none 0 0, .int .i64 100, .int .i64 200] 69 )).alloc (.cells #[.int .u8 97, .int .u8 98] 5 (2, 3))).alloc (.cells #[.int .u8 99, .int .u8 100] 5 (2, 3))).alloc (.cells #[.int .i64 10, .int .i64 100, .string ⟨#[97, 46, 101, 120, 97, 109, 112, 108, 101, 47, 120]⟩, .string ⟨#[49]⟩, .slice (some ⟨w.heap.size + 1, 0, none⟩) 2 2, .int .i64 50, .int .i64 100, .string ⟨#[97, 46, 101, 120, 97, 109, 112, 108, 101, 47, 120]⟩, .string ⟨#[50]⟩, .slice (some ⟨w.heap.size + 1 + 1, 0, none⟩) 2 2] 86 )).alloc (.cells #[.string ⟨#[101, 120, 97, 99, 116, 32, 48, 32, 97, 46, 101, 120, 97, 109, 112, 108, 101, 47, 120]⟩, .int .i64 o, .int .i64 70] 97 )).alloc (.cells #[.int .u8 97, .int .u8 98] 5 (2, 3))).alloc (.cells #[.int .i64 a, .int .i64 0, .slice (some ⟨w.heap.size + 1 + 1 + 1 + 1 + 1, 0, none⟩) 2 2] 88 )).alloc (.cells #[.string ⟨#[101, 49]⟩, .string ⟨#[97, 46, 101, 120, 97, 109, 112, 108, 101, 47, 120]⟩, .string ⟨#[49]⟩, .int .i64 0, .int .i64 a, .int .i64 a, .int .i64 0, .int .i64 2, .slice none 0 0, .slice (some ⟨w.heap.size + 1 + 1 + 1 + 1 + 1 + 1, 0, none⟩) 1 1, .bool true] 82 )).heap[w.heap.size + 1 + 1 + 1]? = some (.cells #[.int .i64 10, .int .i64 100, .string ⟨#[97, 46, 101, 120, 97, 109, 112, 108, 101, 47, 120]⟩, .string ⟨#[49]⟩, .slice (some ⟨w.heap.size + 1, 0, none⟩) 2 2, .int .i64 50, .int .i64 100, .string ⟨#[97, 46, 101, 120, 97, 109, 112, 108, 101, 47, 120]⟩, .string ⟨#[50]⟩, .slice (some ⟨w.heap.size + 1 + 1, 0, none⟩) 2 2] 86 (0, 0)) := (hb_alloc (hb_alloc (hb_alloc (hb_alloc (hb_new (by simp)) _) _) _) _)
  have h4 : ((((((((w.alloc (.cells #[.slice (some ⟨w.heap.size + 1 + 1 + 1, 0, none⟩) 2 2, .slice (some ⟨w.heap.size + 1 + 1 + 1 + 1, 0, none⟩) 1 1, .slice (some ⟨w.heap.size + 1 + 1 + 1 + 1 + 1 + 1 + 1, 0, none⟩) 1 1, .slice none 0 0, .slice none 0 0, .int .i64 100, .int .i64 200] 69 )).alloc (.cells #[.int .u8 97, .int .u8 98] 5 (2, 3))).alloc (.cells #[.int .u8 99, .int .u8 100] 5 (2, 3))).alloc (.cells #[.int .i64 10, .int .i64 100, .string ⟨#[97, 46, 101, 120, 97, 109, 112, 108, 101, 47, 120]⟩, .string ⟨#[49]⟩, .slice (some ⟨w.heap.size + 1, 0, none⟩) 2 2, .int .i64 50, .int .i64 100, .string ⟨#[97, 46, 101, 120, 97, 109, 112, 108, 101, 47, 120]⟩, .string ⟨#[50]⟩, .slice (some ⟨w.heap.size + 1 + 1, 0, none⟩) 2 2] 86 )).alloc (.cells #[.string ⟨#[101, 120, 97, 99, 116, 32, 48, 32, 97, 46, 101, 120, 97, 109, 112, 108, 101, 47, 120]⟩, .int .i64 o, .int .i64 70] 97 )).alloc (.cells #[.int .u8 97, .int .u8 98] 5 (2, 3))).alloc (.cells #[.int .i64 a, .int .i64 0, .slice (some ⟨w.heap.size + 1 + 1 + 1 + 1 + 1, 0, none⟩) 2 2] 88 )).alloc (.cells #[.string ⟨#[101, 49]⟩, .string ⟨#[97, 46, 101, 120, 97, 109, 112, 108, 101, 47, 120]⟩, .string ⟨#[49]⟩, .int .i64 0, .int .i64 a, .int .i64 a, .int .i64 0, .int .i64 2, .slice none 0 0, .slice (some ⟨w.heap.size + 1 + 1 + 1 + 1 + 1 + 1, 0, none⟩) 1 1, .bool true] 82 )).heap[w.heap.size + 1 + 1 + 1 + 1]? = some (.cells #[.string ⟨#[101, 120, 97, 99, 116, 32, 48, 32, 97, 46, 101, 120, 97, 109, 112, 108, 101, 47, 120]⟩, .int .i64 o, .int .i64 70] 97 (0, 0)) := (hb_alloc (hb_alloc (hb_alloc (hb_new (by simp)) _) _) _)
  have h5 : ((((((((w.alloc (.cells #[.slice (some ⟨w.heap.size + 1 + 1 + 1, 0, none⟩) 2 2, .slice (some ⟨w.heap.size + 1 + 1 + 1 + 1, 0, none⟩) 1 1, .slice (some ⟨w.heap.size + 1 + 1 + 1 + 1 + 1 + 1 + 1, 0, none⟩) 1 1, .slice none 0 0, .slice none 0 0, .int .i64 100, .int .i64 200] 69 )).alloc (.cells #[.int .u8 97, .int .u8 98] 5 (2, 3))).alloc (.cells #[.int .u8 99, .int .u8 100] 5 (2, 3))).alloc (.cells #[.int .i64 10, .int .i64 100, .string ⟨#[97, 46, 101, 120, 97, 109, 112, 108, 101, 47, 120]⟩, .string ⟨#[49]⟩, .slice (some ⟨w.heap.size + 1, 0, none⟩) 2 2, .int .i64 50, .int .i64 100, .string ⟨#[97, 46, 101, 120, 97, 109, 112, 108, 101, 47, 120]⟩, .string ⟨#[50]⟩, .slice (some ⟨w.heap.size + 1 + 1, 0, none⟩) 2 2] 86 )).alloc (.cells #[.string ⟨#[101, 120, 97, 99, 116, 32, 48, 32, 97, 46, 101, 120, 97, 109, 112, 108, 101, 47, 120]⟩, .int .i64 o, .int .i64 70] 97 )).alloc (.cells #[.int .u8 97, .int .u8 98] 5 (2, 3))).alloc (.cells #[.int .i64 a, .int .i64 0, .slice (some ⟨w.heap.size + 1 + 1 + 1 + 1 + 1, 0, none⟩) 2 2] 88 )).alloc (.cells #[.string ⟨#[101, 49]⟩, .string ⟨#[97, 46, 101, 120, 97, 109, 112, 108, 101, 47, 120]⟩, .string ⟨#[49]⟩, .int .i64 0, .int .i64 a, .int .i64 a, .int .i64 0, .int .i64 2, .slice none 0 0, .slice (some ⟨w.heap.size + 1 + 1 + 1 + 1 + 1 + 1, 0, none⟩) 1 1, .bool true] 82 )).heap[w.heap.size + 1 + 1 + 1 + 1 + 1]? = some (.cells #[.int .u8 97, .int .u8 98] 5 (2, 3)) := (hb_alloc (hb_alloc (hb_new (by simp)) _) _)
  have h6 : ((((((((w.alloc (.cells #[.slice (some ⟨w.heap.size + 1 + 1 + 1, 0, none⟩) 2 2, .slice (some ⟨w.heap.size + 1 + 1 + 1 + 1, 0, none⟩) 1 1, .slice (some ⟨w.heap.size + 1 + 1 + 1 + 1 + 1 + 1 + 1, 0, none⟩) 1 1, .slice none 0 0, .slice none 0 0, .int .i64 100, .int .i64 200] 69 )).alloc (.cells #[.int .u8 97, .int .u8 98] 5 (2, 3))).alloc (.cells #[.int .u8 99, .int .u8 100] 5 (2, 3))).alloc (.cells #[.int .i64 10, .int .i64 100, .string ⟨#[97, 46, 101, 120, 97, 109, 112, 108, 101, 47, 120]⟩, .string ⟨#[49]⟩, .slice (some ⟨w.heap.size + 1, 0, none⟩) 2 2, .int .i64 50, .int .i64 100, .string ⟨#[97, 46, 101, 120, 97, 109, 112, 108, 101, 47, 120]⟩, .string ⟨#[50]⟩, .slice (some ⟨w.heap.size + 1 + 1, 0, none⟩) 2 2] 86 )).alloc (.cells #[.string ⟨#[101, 120, 97, 99, 116, 32, 48, 32, 97, 46, 101, 120, 97, 109, 112, 108, 101, 47, 120]⟩, .int .i64 o, .int .i64 70] 97 )).alloc (.cells #[.int .u8 97, .int .u8 98] 5 (2, 3))).alloc (.cells #[.int .i64 a, .int .i64 0, .slice (some ⟨w.heap.size + 1 + 1 + 1 + 1 + 1, 0, none⟩) 2 2] 88 )).alloc (.cells #[.string ⟨#[101, 49]⟩, .string ⟨#[97, 46, 101, 120, 97, 109, 112, 108, 101, 47, 120]⟩, .string ⟨#[49]⟩, .int .i64 0, .int .i64 a, .int .i64 a, .int .i64 0, .int .i64 2, .slice none 0 0, .slice (some ⟨w.heap.size + 1 + 1 + 1 + 1 + 1 + 1, 0, none⟩) 1 1, .bool true] 82 )).heap[w.heap.size + 1 + 1 + 1 + 1 + 1 + 1]? = some (.cells #[.int .i64 a, .int .i64 0, .slice (some ⟨w.heap.size + 1 + 1 + 1 + 1 + 1, 0, none⟩) 2 2] 88 (0, 0)) := (hb_alloc (hb_new (by simp)) _)
  have h7 : ((((((((w.alloc (.cells #[.slice (some ⟨w.heap.size + 1 + 1 + 1, 0, none⟩) 2 2, .slice (some ⟨w.heap.size + 1 + 1 + 1 + 1, 0, none⟩) 1 1, .slice (some ⟨w.heap.size + 1 + 1 + 1 + 1 + 1 + 1 + 1, 0, none⟩) 1 1, .slice none 0 0, .slice none 0 0, .int .i64 100, .int .i64 200] 69 )).alloc (.cells #[.int .u8 97, .int .u8 98] 5 (2, 3))).alloc (.cells #[.int .u8 99, .int .u8 100] 5 (2, 3))).alloc (.cells #[.int .i64 10, .int .i64 100, .string ⟨#[97, 46, 101, 120, 97, 109, 112, 108, 101, 47, 120]⟩, .string ⟨#[49]⟩, .slice (some ⟨w.heap.size + 1, 0, none⟩) 2 2, .int .i64 50, .int .i64 100, .string ⟨#[97, 46, 101, 120, 97, 109, 112, 108, 101, 47, 120]⟩, .string ⟨#[50]⟩, .slice (some ⟨w.heap.size + 1 + 1, 0, none⟩) 2 2] 86 )).alloc (.cells #[.string ⟨#[101, 120, 97, 99, 116, 32, 48, 32, 97, 46, 101, 120, 97, 109, 112, 108, 101, 47, 120]⟩, .int .i64 o, .int .i64 70] 97 )).alloc (.cells #[.int .u8 97, .int .u8 98] 5 (2, 3))).alloc (.cells #[.int .i64 a, .int .i64 0, .slice (some ⟨w.heap.size + 1 + 1 + 1 + 1 + 1, 0, none⟩) 2 2] 88 )).alloc (.cells #[.string ⟨#[101, 49]⟩, .string ⟨#[97, 46, 101, 120, 97, 109, 112, 108, 101, 47, 120]⟩, .string ⟨#[49]⟩, .int .i64 0, .int .i64 a, .int .i64 a, .int .i64 0, .int .i64 2, .slice none 0 0, .slice (some ⟨w.heap.size + 1 + 1 + 1 + 1 + 1 + 1, 0, none⟩) 1 1, .bool true] 82 )).heap[w.heap.size + 1 + 1 + 1 + 1 + 1 + 1 + 1]? = some (.cells #[.string ⟨#[101, 49]⟩, .string ⟨#[97, 46, 101, 120, 97, 109, 112, 108, 101, 47, 120]⟩, .string ⟨#[49]⟩, .int .i64 0, .int .i64 a, .int .i64 a, .int .i64 0, .int .i64 2, .slice none 0 0, .slice (some ⟨w.heap.size + 1 + 1 + 1 + 1 + 1 + 1, 0, none⟩) 1 1, .bool true] 82 (0, 0)) := (hb_new (by simp))
  have HB : Hid (Below w.heap.size w ((((((((w.alloc (.cells #[.slice (some ⟨w.heap.size + 1 + 1 + 1, 0, none⟩) 2 2, .slice (some ⟨w.heap.size + 1 + 1 + 1 + 1, 0, none⟩) 1 1, .slice (some ⟨w.heap.size + 1 + 1 + 1 + 1 + 1 + 1 + 1, 0, none⟩) 1 1, .slice none 0 0, .slice none 0 0, .int .i64 100, .int .i64 200] 69 )).alloc (.cells #[.int .u8 97, .int .u8 98] 5 (2, 3))).alloc (.cells #[.int .u8 99, .int .u8 100] 5 (2, 3))).alloc (.cells #[.int .i64 10, .int .i64 100, .string ⟨#[97, 46, 101, 120, 97, 109, 112, 108, 101, 47, 120]⟩, .string ⟨#[49]⟩, .slice (some ⟨w.heap.size + 1, 0, none⟩) 2 2, .int .i64 50, .int .i64 100, .string ⟨#[97, 46, 101, 120, 97, 109, 112, 108, 101, 47, 120]⟩, .string ⟨#[50]⟩, .slice (some ⟨w.heap.size + 1 + 1, 0, none⟩) 2 2] 86 )).alloc (.cells #[.string ⟨#[101, 120, 97, 99, 116, 32, 48, 32, 97, 46, 101, 120, 97, 109, 112, 108, 101, 47, 120]⟩, .int .i64 o, .int .i64 70] 97 )).alloc (.cells #[.int .u8 97, .int .u8 98] 5 (2, 3))).alloc (.cells #[.int .i64 a, .int .i64 0, .slice (some ⟨w.heap.size + 1 + 1 + 1 + 1 + 1, 0, none⟩) 2 2] 88 )).alloc (.cells #[.string ⟨#[101, 49]⟩, .string ⟨#[97, 46, 101, 120, 97, 109, 112, 108, 101, 47, 120]⟩, .string ⟨#[49]⟩, .int .i64 0, .int .i64 a, .int .i64 a, .int .i64 0, .int .i64 2, .slice none 0 0, .slice (some ⟨w.heap.size + 1 + 1 + 1 + 1 + 1 + 1, 0, none⟩) 1 1, .bool true] 82 ))) := Lib.hid (((((((((Below.refl _ _).alloc (by simp <;> omega) _).alloc (by simp <;> omega) _).alloc (by simp <;> omega) _).alloc (by simp <;> omega) _).alloc (by simp <;> omega) _).alloc (by simp <;> omega) _).alloc (by simp <;> omega) _).alloc (by simp <;> omega) _)
  refine bodyPost_ret (v := .agg #[.slice (some ⟨w.heap.size + 1 + 1 + 1, 0, none⟩) 2 2, .slice (some ⟨w.heap.size + 1 + 1 + 1 + 1, 0, none⟩) 1 1, .slice (some ⟨w.heap.size + 1 + 1 + 1 + 1 + 1 + 1 + 1, 0, none⟩) 1 1, .slice none 0 0, .slice none 0 0, .int .i64 100, .int .i64 200]) (by simp [results, Tryz.results54, go_sem]) rfl ?_
  clear hn0
  have b1 := bytes_bx [97, 98] h1 rfl (c := 2) (n := 2) (by decide) rfl
  have b2 := bytes_bx [99, 100] h2 rfl (c := 2) (n := 2) (by decide) rfl
  have b5 := bytes_bx [97, 98] h5 rfl (c := 2) (n := 2) (by decide) rfl
  refine ⟨_, _, _, _, _, .slice (some ⟨w.heap.size + 1, 0, none⟩) 2 2, .slice (some ⟨w.heap.size + 1 + 1, 0, none⟩) 2 2, .slice (some ⟨w.heap.size + 1 + 1 + 1 + 1 + 1, 0, none⟩) 2 2, .slice (some ⟨w.heap.size + 1 + 1 + 1 + 1 + 1 + 1, 0, none⟩) 1 1, rfl, ?_, HB.out⟩
  refine ⟨rows_bx h3 rfl pubR_len (by simp [exM]) rfl, by simp [exM, exX, exT], fun p hp => ?_, rows_bx h4 rfl prgR_len (by simp [exM]) rfl, by simp [exM, exX, exT], fun g hg => ?_, rows_bx h7 rfl srvR_len (by simp [exM]) rfl, by simp [exM, exX, exT], fun x hx => ?_, .inl ⟨rfl, .inl rfl⟩, by simp [exM, exX, exT], fun f hf => (by cases hf), .inl ⟨rfl, .inl rfl⟩, by simp [exM, exX, exT], fun d hd => (by cases hd)⟩
  · simp [exM] at hp
    rcases hp with rfl | rfl
    · exact ⟨by simp [exM, exX, exT], by simp [exM, exX, exT], Sg.rows_src b1, by simp [exM, exX, exT], b1⟩
    · exact ⟨by simp [exM, exX, exT], by simp [exM, exX, exT], Sg.rows_src b2, by simp [exM, exX, exT], b2⟩
  · simp [exM] at hg
    subst hg
    exact (by simp [exM, exX, exT] : exT.length ≤ 20)
  · simp [exM] at hx
    subst hx
    refine ⟨by simp [exM, exX, exT], by simp [exM, exX, exT], by simp [exM, exX, exT], .inl ⟨rfl, .inl rfl⟩, by simp [exM, exX, exT], fun t ht => (by cases ht), rows_bx h6 rfl partR_len (by simp [exM]) rfl, by simp [exM, exX, exT], fun y hy => ?_⟩
    simp at hy
    subst hy
    exact ⟨Sg.rows_src b5, by simp [exM, exX, exT]⟩
theorem awake58_any (w : World) (hr : Ready w) (hpw : ParseAt w) : Calls Tryz.prog 29 #[] w fun e w' => e = .returned (.bool true) ∧ Below w.heap.size w w' := by
  have HRY := Lib.hid hr
  have HPW := Lib.hid hpw
  clear hr hpw
  go_enter Tryz.func29, Tryz.ntmps29
  go_wp2_with fail
  refine (example_any 149 60 _).mono ?_
  rintro e w1 ⟨va, vb, vc, vd, ve, v1, v2, v3, v4, rfl, ha1, hb1⟩
  have HB1 := Lib.hid hb1
  have HA1 := Lib.hid ha1
  clear ha1 hb1
  go_wp2_with fail
  refine (check_any (exM v1 v2 v3 v4 149 60) va vb vc vd ve 20 _ (HRY.out.below HB1.out) (HPW.out.below HB1.out) HA1.out (ex_small v1 v2 v3 v4 (by decide) (by decide)) (by decide)).mono ?_
  rw [ex_one]
  rintro e w2 ⟨u2, rfl, ho2, hb2⟩
  have HB2 := Lib.hid (HB1.out.trans (hb2.mono HB1.out.size))
  obtain ⟨g, o, c, hu, _, _, _, hgz, hcell⟩ := ho2.cells (by decide)
  subst hu
  have r0 := hcell 0 (.int .i64 1) rfl
  rw [Nat.add_zero] at r0
  clear hb2 ho2 hcell HA1 HB1
  rw [show ([(⟨1, 0, tx1⟩ : VioM)]).length = 1 from rfl]
  go_wp2_with fail
  clear r0 hgz
  refine (example_any 149 49 _).mono ?_
  rintro e w3 ⟨xa, xb, xc, xd, xe, x1, x2, x3, x4, rfl, ha3, hb3⟩
  have HBX3 := Lib.hid (HB2.out.trans (hb3.mono HB2.out.size))
  have HAX3 := Lib.hid ha3
  clear ha3 hb3
  go_wp2_with fail
  refine (check_any (exM x1 x2 x3 x4 149 49) xa xb xc xd xe 20 _ (HRY.out.below HBX3.out) (HPW.out.below HBX3.out) HAX3.out (ex_small x1 x2 x3 x4 (by decide) (by decide)) (by decide)).mono ?_
  rw [ex_two, show ([] : List VioM).length = 0 from rfl]
  rintro e w4 ⟨u4, rfl, ho4, hb4⟩
  have HB4 := Lib.hid (HBX3.out.trans (hb4.mono HBX3.out.size))
  obtain ⟨ya, yc, rfl, _⟩ := ho4.form
  clear hb4 ho4 HAX3 HBX3
  go_wp2_with fail
  refine (example_any 150 49 _).mono ?_
  rintro e w5 ⟨ya5, yb5, yc5, yd5, ye5, y1, y2, y3, y4, rfl, ha5, hb5⟩
  have HBX5 := Lib.hid (HB4.out.trans (hb5.mono HB4.out.size))
  have HAX5 := Lib.hid ha5
  clear ha5 hb5
  go_wp2_with fail
  refine (check_any (exM y1 y2 y3 y4 150 49) ya5 yb5 yc5 yd5 ye5 20 _ (HRY.out.below HBX5.out) (HPW.out.below HBX5.out) HAX5.out (ex_small y1 y2 y3 y4 (by decide) (by decide)) (by decide)).mono ?_
  rw [ex_three]
  rintro e w6 ⟨u6, rfl, ho6, hb6⟩
  have HB6 := Lib.hid (HBX5.out.trans (hb6.mono HBX5.out.size))
  obtain ⟨za, zc, rfl, _⟩ := ho6.form
  clear hb6 ho6 HAX5 HBX5
  go_wp2_with fail
  go_ret
  exact ⟨rfl, HB6.out⟩
end Hy
end Go.Proofs.YtjijijjkkhpjnaaGreatDoor
end

section
namespace Go.Proofs.YtjijijjkkhpjnaaGreatDoor
open Pl Ad
namespace Hy
theorem vio_all {α : Type} {r : Int} {tx : Bs} {bad : α → Bool} {l : List α} : vioF r tx (fun _ x => bad x) l 0 = [] ↔ ∀ x ∈ l, bad x = false := by
  rw [vioF_nil]
  constructor
  · intro h x hx
    obtain ⟨j, hj, rfl⟩ := List.getElem_of_mem hx
    exact h j _ (List.getElem?_eq_getElem hj)
  · intro h j x hx
    exact h x (List.mem_of_getElem? hx)
/-- The latest fetch first: was f fetched again without a reason? -/
def agL (ds : List DroM) (f : FetM) : List FetM → Bool
  | [] => false
  | x :: r => if sameF f x then !dropB ds f x else agL ds f r
/-- No fetch without a reason; the latest first. -/
def GoodF (ds : List DroM) : List FetM → Prop
  | [] => True
  | f :: r => (f.failed = false → agL ds f r = false) ∧ GoodF ds r
theorem agF_list {h : HisM} {f : FetM} : ∀ {k : Nat}, k ≤ h.fets.length → agF h f k = agL h.dros f (h.fets.take k).reverse
  | 0, _ => by simp [agF, agL]
  | k + 1, hk => by
    have hx : h.fets[k]? = some (h.fets[k]'(by omega)) := List.getElem?_eq_getElem (by omega)
    rw [agF, hx, List.take_add_one, hx, Option.toList_some, List.reverse_append, List.reverse_cons, List.reverse_nil, List.nil_append, List.singleton_append, agL]
    simp only
    rw [agF_list (k := k) (by omega)]
theorem good_take {h : HisM} : ∀ {k : Nat}, k ≤ h.fets.length → (GoodF h.dros (h.fets.take k).reverse ↔ ∀ i, i < k → againB h i = false)
  | 0, _ => by simp [GoodF]
  | k + 1, hk => by
    have hx : h.fets[k]? = some (h.fets[k]'(by omega)) := List.getElem?_eq_getElem (by omega)
    rw [List.take_add_one, hx, Option.toList_some, List.reverse_append, List.reverse_cons, List.reverse_nil, List.nil_append, List.singleton_append, GoodF, good_take (k := k) (by omega)]
    have hb : againB h k = (!(h.fets[k]'(by omega)).failed && agF h (h.fets[k]'(by omega)) k) := by unfold againB; rw [hx]
    constructor
    · rintro ⟨h1, h2⟩ i hi
      rcases Nat.lt_or_ge i k with hlt | hge
      · exact h2 i hlt
      · obtain rfl : i = k := by omega
        rw [hb, agF_list (by omega)]
        cases hf : (h.fets[i]'(by omega)).failed with
        | true => rfl
        | false => rw [h1 hf]; rfl
    · intro h1
      refine ⟨fun hf => ?_, fun i hi => h1 i (by omega)⟩
      have h2 := h1 k (by omega)
      rw [hb, agF_list (by omega), hf] at h2
      simpa using h2
theorem checkL_nil {h : HisM} : checkL h = [] ↔ (∀ s ∈ h.srvs, purgedB h s = false) ∧ (∀ g ∈ h.prgs, lateB h g = false) ∧ (∀ s ∈ h.srvs, oldB h s = false) ∧ (∀ s ∈ h.srvs, mixedB h s = false) ∧ GoodF h.dros h.fets.reverse := by
  unfold checkL
  rw [List.append_eq_nil_iff, List.append_eq_nil_iff, List.append_eq_nil_iff, List.append_eq_nil_iff]
  have e1 : vio1 h = [] ↔ ∀ s ∈ h.srvs, purgedB h s = false := vio_all
  have e2 : vio2 h = [] ↔ ∀ g ∈ h.prgs, lateB h g = false := vio_all
  have e3 : vio3 h = [] ↔ ∀ s ∈ h.srvs, oldB h s = false := vio_all
  have e4 : vio4 h = [] ↔ ∀ s ∈ h.srvs, mixedB h s = false := vio_all
  have e5 : vio5 h = [] ↔ GoodF h.dros h.fets.reverse := by
    have h9 := good_take (h := h) (k := h.fets.length) (Nat.le_refl _)
    rw [List.take_length] at h9
    rw [h9]
    unfold vio5
    rw [vioF_nil]
    constructor
    · intro h1 i hi
      have := h1 i _ (List.getElem?_eq_getElem hi)
      rwa [Nat.zero_add] at this
    · intro h1 j x hx
      rw [Nat.zero_add]
      exact h1 j (List.getElem?_eq_some_iff.1 hx).1
  rw [e1, e2, e3, e4, e5]
  simp only [and_assoc]
end Hy
end Go.Proofs.YtjijijjkkhpjnaaGreatDoor
end

section
namespace Go.Proofs.YtjijijjkkhpjnaaGreatDoor
open Pl Ad
namespace Hy
theorem runP_one {body : Bs} {til : Int} {at_ : Int} {x : PartM} {r : List PartM} (h : x.off = at_ ∧ (x.data.length : Int) ≤ til - at_ ∧ x.data = (body.drop at_.toNat).take x.data.length) : runP body til at_ (x :: r) = runP body til (at_ + x.data.length) r := by
  rw [runP, if_pos h]
theorem runP_app {body : Bs} {til : Int} : ∀ {l : List PartM} {at_ e : Int} {r : List PartM}, runP body til at_ l = some e → runP body til at_ (l ++ r) = runP body til e r
  | [], at_, e, r, h => by
    simp only [runP, Option.some.injEq] at h
    rw [h]; rfl
  | x :: l, at_, e, r, h => by
    rw [List.cons_append]
    by_cases hc : x.off = at_ ∧ (x.data.length : Int) ≤ til - at_ ∧ x.data = (body.drop at_.toNat).take x.data.length
    · rw [runP_one hc] at h ⊢
      exact runP_app h
    · rw [runP, if_neg hc] at h
      cases h
theorem runP_off {body : Bs} {til : Int} {at_ : Int} {x : PartM} {r : List PartM} (h : ¬ x.off = at_) : runP body til at_ (x :: r) = none := by
  rw [runP, if_neg (fun e => h e.1)]
end Hy
end Go.Proofs.YtjijijjkkhpjnaaGreatDoor
end

section
namespace Go.Proofs.YtjijijjkkhpjnaaGreatDoor
open Pl Ad
namespace Hy
/-- What is built of a body from frm on, up to at_. -/
structure BuiltP (body : Bs) (til frm at_ : Nat) (l : List PartM) : Prop where
  le : frm ≤ at_ ∧ at_ ≤ til
  run : runP body til frm l = some (at_ : Int)
  last : (l = [] ∧ at_ = frm) ∨ ∃ (l0 : List PartM) (x : PartM) (n : Nat), l = l0 ++ [x] ∧ x.off = (n : Int) ∧ n < at_ ∧ frm ≤ n ∧ runP body til frm l0 = some (n : Int) ∧ (l0 = [] → n = frm) ∧ (l0 ≠ [] → frm < n)
theorem built_start (body : Bs) {til frm : Nat} (h : frm ≤ til) : BuiltP body til frm frm [] := ⟨⟨Nat.le_refl _, h⟩, rfl, .inl ⟨rfl, rfl⟩⟩
theorem built_push {body : Bs} {til frm at_ n : Nat} {l : List PartM} (h : BuiltP body til frm at_ l) (hn : 0 < n) (ht : at_ + n ≤ til) (hb : til ≤ body.length) {x : PartM} (hx : x.off = (at_ : Int)) (hd : x.data = (body.drop at_).take n) : BuiltP body til frm (at_ + n) (l ++ [x]) := by
  have hl : x.data.length = n := by rw [hd, List.length_take, List.length_drop]; omega
  refine ⟨⟨by have := h.le; omega, ht⟩, ?_, .inr ⟨l, x, at_, rfl, hx, by omega, h.le.1, h.run, ?_, ?_⟩⟩
  · rw [runP_app h.run, runP_one ⟨hx, by rw [hl]; omega, by rw [hl, Int.toNat_natCast]; exact hd⟩, hl]
    simp [runP]
  · intro h0
    subst h0
    have := h.run
    simp only [runP, Option.some.injEq] at this
    omega
  · intro h0
    rcases h.last with ⟨h1, _⟩ | ⟨l0, y, m, _, _, h3, h4, _⟩
    · exact absurd h1 h0
    · omega
section
variable {p : PubM} {s : SrvM}
/-- One version, one response. -/
def oneH (p : PubM) (s : SrvM) : HisM := ⟨[p], [], [s], [], [], 0, 0⟩
theorem one_vers (hv : isV p s.addr s.tag = true) : versM [p] s.addr s.tag = [0] := by
  unfold versM versF versF
  rw [if_pos hv]
theorem one_mixed (hv : isV p s.addr s.tag = true) : mixedB (oneH p s) s = !fitsB p.body s := by
  unfold mixedB
  show ((versM [p] s.addr s.tag).all _) = _
  rw [one_vers hv, List.all_cons, List.all_nil, Bool.and_true]
  rfl
theorem one_old (hv : isV p s.addr s.tag = true) (h1 : p.at_ ≤ s.at_) (h2 : s.ask - s.at_ ≤ p.lim) : oldB (oneH p s) s = false := by
  have he : endO [p] 0 = none := endO_none (p := p) rfl (fstI_end (Nat.le_refl _))
  have hi : inLimB (oneH p s) s 0 = true := by
    unfold inLimB
    show ((lastM (spanI [p] 0) s.at_).2 && decide (s.ask - (lastM (spanI [p] 0) s.at_).1 ≤ p.lim)) = true
    rw [spanI_at (p := p) rfl, he]
    unfold lastM
    rw [if_neg (by simp)]
    simp only
    rw [decide_eq_true h1, decide_eq_true h2]; rfl
  unfold oldB
  show (!(versM [p] s.addr s.tag).isEmpty && (versM [p] s.addr s.tag).all fun i => !inLimB (oneH p s) s i) = false
  rw [one_vers hv, List.all_cons, hi]; rfl
theorem one_check (hv : isV p s.addr s.tag = true) (h1 : p.at_ ≤ s.at_) (h2 : s.ask - s.at_ ≤ p.lim) (hf : fitsB p.body s = true) : checkL (oneH p s) = [] := by
  rw [checkL_nil]
  refine ⟨fun x hx => ?_, fun g hg => (by cases hg), fun x hx => ?_, fun x hx => ?_, trivial⟩
  · obtain rfl := List.mem_singleton.1 hx
    show (_ && List.any [] _) = false
    rw [List.any_nil, Bool.and_false]
  · obtain rfl := List.mem_singleton.1 hx
    exact one_old hv h1 h2
  · obtain rfl := List.mem_singleton.1 hx
    rw [one_mixed hv, hf]; rfl
theorem one_bad (hv : isV p s.addr s.tag = true) (hf : fitsB p.body s = false) : vio4 (oneH p s) = [⟨4, 0, tx4⟩] := by
  show (if mixedB (oneH p s) s = true then _ else _) = _
  rw [if_pos (by rw [one_mixed hv, hf]; rfl)]
  rfl
end
section
variable {body : Bs} {til frm : Nat} {l : List PartM} {s : SrvM}
def endB (ended : Bool) (til : Nat) : Option Int → Bool
  | none => false
  | some e => !ended || decide (e = (til : Int))
theorem fit_run (hfrm : s.frm = (frm : Int)) (htil : s.til = (til : Int)) (h1 : frm ≤ til) (h2 : til ≤ body.length) {e : Option Int} (hr : runP body til frm s.parts = e) : fitsB body s = endB s.ended til e := by
  unfold fitsB
  rw [hfrm, htil, hr, decide_eq_true (show (0 : Int) ≤ (frm : Int) by omega), decide_eq_true (show (frm : Int) ≤ (til : Int) by omega), decide_eq_true (show (til : Int) ≤ (body.length : Int) by omega)]
  cases e <;> rfl
/-- The whole division fits. -/
theorem whole_fits (hfrm : s.frm = (frm : Int)) (htil : s.til = (til : Int)) (h1 : frm ≤ til) (h2 : til ≤ body.length) (hb : BuiltP body til frm til s.parts) : fitsB body s = true := by
  rw [fit_run hfrm htil h1 h2 hb.run]
  show (!s.ended || decide ((til : Int) = (til : Int))) = true
  rw [decide_eq_true rfl, Bool.or_true]
/-- Without the last part: it ends too early. -/
theorem early_fits {l0 : List PartM} {n : Nat} (hfrm : s.frm = (frm : Int)) (htil : s.til = (til : Int)) (h1 : frm ≤ til) (h2 : til ≤ body.length) (hp : s.parts = l0) (hr : runP body til frm l0 = some (n : Int)) (hn : n < til) : fitsB body s = !s.ended := by
  rw [fit_run hfrm htil h1 h2 (e := some (n : Int)) (by rw [hp]; exact hr)]
  show (!s.ended || decide ((n : Int) = (til : Int))) = _
  rw [decide_eq_false (by omega), Bool.or_false]
/-- A part that lies elsewhere. -/
theorem off_fits (hfrm : s.frm = (frm : Int)) (htil : s.til = (til : Int)) (h1 : frm ≤ til) (h2 : til ≤ body.length) {l0 : List PartM} {x : PartM} {e : Nat} (hp : s.parts = l0 ++ [x]) (hr : runP body til frm l0 = some (e : Int)) (hx : x.off ≠ (e : Int)) : fitsB body s = false := by
  rw [fit_run hfrm htil h1 h2 (e := none) (by rw [hp, runP_app hr, runP_off hx])]; rfl
end
/-! ### a purge's answer -/
end Hy
end Go.Proofs.YtjijijjkkhpjnaaGreatDoor
end

section
namespace Go.Proofs.YtjijijjkkhpjnaaGreatDoor
open Pl Ad
namespace Hy
def keyX : Bs := [97, 46, 101, 120, 97, 109, 112, 108, 101, 47, 120]
end Hy
end Go.Proofs.YtjijijjkkhpjnaaGreatDoor
end

section
namespace Go.Proofs.YtjijijjkkhpjnaaGreatDoor
open Go.RowKit Pl Ad
set_option maxRecDepth 100000
set_option linter.unusedVariables false
namespace Hy
open A1 Kr
/-- What a slice type's tables say. -/
structure WideTy (P : Program) (T e : TypeId) (size bytes : Nat) : Prop where
  under : P.underlying T = some (.slice e)
  info : ∃ i z, P.info? e = some i ∧ i.zero = some z ∧ i.size = size ∧ i.bytes = bytes ∧ z.cells.size = size
  pos : 0 < size
  small : bytes ≤ 1024
section
variable {P : Program} {T e : TypeId} {size bytes : Nat} (ty : WideTy P T e size bytes)
include ty
theorem wp_appB {o : Oper} {a : Act} {w : World} {K : Act → World → Prop} {Q : Exit → Act → World → Prop} (s x : Operand)
    (ho : o.op = .call { callee := .builtin .append, args := #[s, x], argTypes := #[T, T] })
    (B : Nat) (v : Value) (n : Nat) (xs : List Value) (hs : a.eval s = v) (hown : OwnWin w B e size v n xs) (hB : B ≤ w.heap.size)
    (u : Value) (m : Nat) (C : List Value) (hx : a.eval x = u) (hC : SrcAt w u m C) (hl : C.length = m * size) (h1 : ∀ u ∈ C, u.oneCell' = true)
    (hn : n + m ≤ 100000000)
    (h : ∀ v' w', OwnWin w' B e size v' (n + m) (xs ++ C) → w.grownBy w' v.ownBlock → (v'.ownBlock = v.ownBlock ∨ v'.ownBlock = some w.heap.size) → K (a.put o.dst v') w') : o.wp P a w K Q := by
  obtain ⟨i, z, hi, hz, hsize, hby, hzs⟩ := ty.info
  have hsm := ty.small
  obtain ⟨v', w', hr, h2, h3, h4, _⟩ := run_append_win (P := P) w B T o.type e i z size bytes ty.under hi hz hsize hby hzs ty.pos v n xs hown u m C hl hC h1 (by unfold maxLen; omega) (by
    calc (n + m) * bytes ≤ 100000000 * 1024 := Nat.mul_le_mul hn hsm
      _ ≤ 140737488355328 := by decide) hB
  unfold Oper.wp execOp
  simp only [ho, resolve, invoke, builtin, Sem.run_bind, Sem.run_pure, Result.andThen_ok, List.map_toArray, List.map_cons, List.map_nil, hs, hx, hr]
  exact h v' w' h2 h3 h4
theorem step_appB {ops : Array Oper} {o : Oper} {a : Act} {w : World} {K : Act → World → Prop} {Q : Exit → Act → World → Prop} {E : Prop} (hgd : o.guard = none) (s x : Operand)
    (ho : o.op = .call { callee := .builtin .append, args := #[s, x], argTypes := #[T, T] })
    (B : Nat) (v : Value) (n : Nat) (xs : List Value) (hs : a.eval s = v) (hown : OwnWin w B e size v n xs) (hB : B ≤ w.heap.size)
    (u : Value) (m : Nat) (C : List Value) (hx : a.eval x = u) (hC : SrcAt w u m C) (hl : C.length = m * size) (h1 : ∀ u ∈ C, u.oneCell' = true)
    (hn : n + m ≤ 100000000)
    (h : ∀ v' w', OwnWin w' B e size v' (n + m) (xs ++ C) → w.grownBy w' v.ownBlock → (v'.ownBlock = v.ownBlock ∨ v'.ownBlock = some w.heap.size) → K (a.put o.dst v') w') :
    if Region.wanted o (yielded ops a.tmps) = true then Oper.wp P o a w K Q else E := by
  have hw : Region.wanted o (yielded ops a.tmps) = true := by simp [Region.wanted, hgd]
  rw [if_pos hw]
  exact wp_appB ty s x ho B v n xs hs hown hB u m C hx hC hl h1 hn h
end
theorem tyPart : WideTy Tryz.prog 80 88 3 40 :=
  ⟨Tryz.underlying80, by
    obtain ⟨i, h1, h2, h3, h4⟩ := info_parts (show (Tryz.prog.info? 88).map (fun i => (i.zero, i.size, i.bytes)) = some (some (.agg #[.int .i64 0, .int .i64 0, .slice none 0 0]), 3, 40) by kernel_rfl)
    exact ⟨i, _, h1, h2, h3, h4, rfl⟩, by decide, by decide⟩
end Hy
end Go.Proofs.YtjijijjkkhpjnaaGreatDoor
end

section
namespace Go.Proofs.YtjijijjkkhpjnaaGreatDoor
open Go.RowKit Pl Ad
set_option maxRecDepth 100000
set_option maxHeartbeats 1000000
set_option linter.unusedVariables false
namespace Hy
open A1 Kr
section
variable {α : Type} {F : α → List Value} {K : Nat} {w : World} {xs : List α}
theorem rows_take {a : Option Addr} {n c m : Nat} (h : RowsV F K w (.slice a n c) xs) (hm : m ≤ xs.length) : RowsV F K w (.slice a m c) (xs.take m) := by
  rcases h with ⟨rfl, h1⟩ | ⟨b, o, c', e, h2, h3, h4⟩
  · obtain rfl : m = 0 := by simpa using hm
    rcases h1 with h1 | ⟨a', c', h1⟩
    · cases h1; exact .inl ⟨rfl, .inl rfl⟩
    · cases h1; exact .inl ⟨rfl, .inr ⟨_, _, rfl⟩⟩
  · cases e
    refine .inr ⟨b, o, c, by rw [List.length_take, Nat.min_eq_left hm], by rw [List.length_take]; omega, h3, fun i x hx j u hu => h4 i x ?_ j u hu⟩
    have hi := (List.getElem?_eq_some_iff.1 hx).1
    rw [List.length_take] at hi
    rw [List.getElem?_take_of_lt (by omega)] at hx
    exact hx
end
theorem one_src {w : World} {v : Value} {m : Nat} {C : List Value} (h : SrcAt w v m C) : v.oneCell' = true := by
  rcases h with ⟨rfl, _⟩ | ⟨_, _, rfl, _⟩ <;> rfl
theorem one_part {w : World} {B : Nat} {xs : List PartM} (h : ∀ x ∈ xs, PartAt w B x) : ∀ u ∈ xs.flatMap partR, u.oneCell' = true := fun u hu => by
  obtain ⟨s, hs, hu⟩ := List.mem_flatMap.1 hu
  simp only [partR, List.mem_cons, List.not_mem_nil, or_false] at hu
  rcases hu with rfl | rfl | rfl
  all_goals first | rfl | exact one_src (h s hs).1
/-- A history's parts changed: the small bounds stay. -/
theorem Small.srvs {h : HisM} (k : h.Small) {l : List SrvM} (hl : l.length ≤ 1000) (hs : ∀ s ∈ l, inB s.at_ ∧ inB s.ask ∧ ∀ x ∈ s.parts, inB x.at_) : ({ h with srvs := l } : HisM).Small :=
  ⟨k.pubs, k.prgs, hs, k.fets, k.dros, k.bound, k.fin, k.npub, k.nprg, hl, k.nfet, k.ndro⟩
theorem Small.prgs {h : HisM} (k : h.Small) {l : List PrgM} (hl : l.length ≤ 1000) (hs : ∀ g ∈ l, inB g.ord ∧ inB g.stl) : ({ h with prgs := l } : HisM).Small :=
  ⟨k.pubs, hs, k.srvs, k.fets, k.dros, k.bound, k.fin, k.npub, hl, k.nsrv, k.nfet, k.ndro⟩
theorem Small.fets {h : HisM} (k : h.Small) {l : List FetM} (hl : l.length ≤ 1000) (hs : ∀ g ∈ l, inB g.at_) : ({ h with fets := l } : HisM).Small :=
  ⟨k.pubs, k.prgs, k.srvs, hs, k.dros, k.bound, k.fin, k.npub, k.nprg, k.nsrv, hl, k.ndro⟩
end Hy
end Go.Proofs.YtjijijjkkhpjnaaGreatDoor
end

