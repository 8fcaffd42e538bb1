/- Contracts: the reference's Shrink, Get, Since over the log of purges. Conditions: logs of at most a million entries. Contract: the reference's Append over the log of purges. Conditions: logs of at most a million entries; values of at most 2^27 bytes. What the laws over the log of purges share: a run's state; window, fits, awake. Conditions: logs of at most a million entries. -/
import Derived.Test.YtijjggbiljkalaaDoorPlog1
import Derived.Deep.RegionHeld3
import Derived.Deep.RegionLaw
import Derived.Deep.DeepCutAuto
section
namespace Go.Proofs.YtijjggbiljkalaaDoor
open Go.RowKit Pl Ad
attribute [local go_sem] ba_get ba_append ba_extract_end ba_extract_zero ba_extract
set_option maxRecDepth 100000
set_option maxHeartbeats 4000000
set_option linter.unusedVariables false
namespace A1
theorem tyRPgs : SliceTy Tryd.prog 49 39 3 32 :=
  ⟨Tryd.underlying49, by
    obtain ⟨i, h1, h2, h3, h4⟩ := info_parts (show (Tryd.prog.info? 39).map (fun i => (i.zero, i.size, i.bytes)) = some (some (.agg #[.int .i64 0, .int .i64 0, .string ⟨#[]⟩]), 3, 32) by kernel_rfl)
    exact ⟨i, _, h1, h2, h3, h4, rfl⟩, by decide, by decide⟩
/-- The reference's log. -/
@[reducible] def refV (u : Value) (L : LogM) : Value := .agg #[u, .int .i64 L.dropped, .int .i64 L.win]
/-- Its entries. -/
def RefOwn (w : World) (B : Nat) (u : Value) (L : LogM) : Prop := OwnWin w B 39 3 u L.all.length (pvals L.all)

theorem plogRShrink (u : Value) (L : LogM) (n : Int) (w : World) (hu : ∃ a c, u = .slice a L.all.length c) :
    Calls Tryd.prog 53 #[refV u L, .int .i64 n] w fun e w' => e = .returned (refV u (L.cut n)) ∧ Below w.heap.size w w' := by
  obtain ⟨ua, uc, rfl⟩ := hu
  obtain ⟨m, hm⟩ : ∃ m : Nat, max (L.dropped : Int) (min n (L.all.length : Int)) = (m : Int) := ⟨(max (L.dropped : Int) (min n (L.all.length : Int))).toNat, by omega⟩
  have HM := Lib.hid (show m = (L.cut n).dropped by show m = max L.dropped (min n (L.all.length : Int)).toNat; omega)
  go_enter Tryd.func53, Tryd.ntmps53
  go_wp2_with fail
  refine bodyPost_ret (v := .agg #[.slice ua L.all.length uc, .int .i64 (m : Int), .int .i64 L.win]) (by simp [results, Tryd.results53, go_sem]) rfl ⟨?_, ?_⟩
  · rw [HM.out]; rfl
  · (repeat (first | exact Below.refl _ _ | (refine Below.setCell ?_ (by simp) _) | (refine below_drewN ?_ _) | (refine Below.drew ?_) | (refine Below.alloc ?_ (by simp) _)))
theorem plogRGet (u : Value) (L : LogM) (n : Int) (w : World) (hu : ∃ a c, u = .slice a L.all.length c) :
    Calls Tryd.prog 55 #[refV u L, .int .i64 n] w fun e w' => e = .returned (.int .i64 (L.getC n)) ∧ Below w.heap.size w w' := by
  obtain ⟨ua, uc, rfl⟩ := hu
  by_cases h1 : n < 1
  · have HC := Lib.hid (show L.getC n = 3 from if_pos (.inl h1))
    go_enter Tryd.func55, Tryd.ntmps55
    go_wp2_with fail
    go_ret
    exact ⟨ret_int HC.out.symm, (Below.refl _ _).alloc (Nat.le_refl _) _⟩
  by_cases h2 : (L.all.length : Int) < n
  · have HC := Lib.hid (show L.getC n = 3 from if_pos (.inr h2))
    go_enter Tryd.func55, Tryd.ntmps55
    go_wp2_with fail
    go_ret
    exact ⟨ret_int HC.out.symm, (Below.refl _ _).alloc (Nat.le_refl _) _⟩
  by_cases h3 : n ≤ (L.dropped : Int)
  · have HC := Lib.hid (show L.getC n = 15 by unfold LogM.getC; rw [if_neg (by omega), if_pos h3])
    go_enter Tryd.func55, Tryd.ntmps55
    go_wp2_with fail
    go_ret
    exact ⟨ret_int HC.out.symm, (Below.refl _ _).alloc (Nat.le_refl _) _⟩
  · have HC := Lib.hid (show L.getC n = 0 by unfold LogM.getC; rw [if_neg (by omega), if_neg h3])
    go_enter Tryd.func55, Tryd.ntmps55
    go_wp2_with fail
    go_ret
    exact ⟨ret_int HC.out.symm, (Below.refl _ _).alloc (Nat.le_refl _) _⟩
theorem rows_own {w : World} {B : Nat} {e : TypeId} {v : Value} {l : List Pg} (h : OwnWin w B e 3 v l.length (pvals l)) : RowsV pcells 3 w v l := by
  rcases h.2 with ⟨h1, h2⟩ | ⟨g, o, cap, cur, rfl, hb, hg, hc, hm, hs, ht⟩
  · exact .inl ⟨List.eq_nil_of_length_eq_zero h2, .inl h1⟩
  · refine .inr ⟨g, o, cap, rfl, hc, (Array.getElem?_eq_some_iff.1 hg).1, fun i x hx j u hu => ?_⟩
    obtain ⟨hi, hix⟩ := List.getElem?_eq_some_iff.1 hx
    obtain ⟨g', o', c', e', _, _, _, _, hcell⟩ := h.cells (by omega)
    cases e'
    refine hcell (i * 3 + j) u ?_
    rw [← List.getElem?_drop, pvals_drop, drop_cons hi, pvals, hix]
    have hj : j < (pcells x).length := (List.getElem?_eq_some_iff.1 hu).1
    rw [List.getElem?_append_left hj]
    exact hu
theorem plogRSince (B : Nat) (u : Value) (L : LogM) (n : Int) (w : World) (hu : RefOwn w B u L) (hl : L.all.length ≤ 1000000) :
    Calls Tryd.prog 56 #[refV u L, .int .i64 n] w fun e w' => ∃ v, e = .returned (.tuple #[v, .int .i64 (L.sinceC n)]) ∧ RowsV pcells 3 w' v (L.since n) ∧ Below w.heap.size w w' := by
  have HU := Lib.hid hu
  by_cases h1 : n < 0
  · have HC := Lib.hid (show L.sinceC n = 1 from if_pos h1)
    have HS := Lib.hid (show L.since n = [] from if_pos (.inl h1))
    obtain ⟨ua, uc, rfl, _⟩ := hu.form
    clear hu
    go_enter Tryd.func56, Tryd.ntmps56
    go_wp2_with fail
    go_ret2
    exact ⟨.slice none 0 0, by rw [HC.out]; rfl, .inl ⟨HS.out, .inl rfl⟩, (Below.refl _ _).alloc (Nat.le_refl _) _⟩
  by_cases h2 : (L.all.length : Int) ≤ n
  · have HC := Lib.hid (show L.sinceC n = 0 by unfold LogM.sinceC; rw [if_neg h1, if_pos h2])
    have HS := Lib.hid (show L.since n = [] from if_pos (.inr (.inl h2)))
    obtain ⟨ua, uc, rfl, _⟩ := hu.form
    clear hu
    go_enter Tryd.func56, Tryd.ntmps56
    go_wp2_with fail
    go_ret2
    exact ⟨.slice none 0 0, by rw [HC.out]; rfl, .inl ⟨HS.out, .inl rfl⟩, (Below.refl _ _).alloc (Nat.le_refl _) _⟩
  by_cases h3 : n < (L.dropped : Int)
  · have HC := Lib.hid (show L.sinceC n = 15 by unfold LogM.sinceC; rw [if_neg h1, if_neg h2, if_pos h3])
    have HS := Lib.hid (show L.since n = [] from if_pos (.inr (.inr h3)))
    obtain ⟨ua, uc, rfl, _⟩ := hu.form
    clear hu
    go_enter Tryd.func56, Tryd.ntmps56
    go_wp2_with fail
    go_ret2
    exact ⟨.slice none 0 0, by rw [HC.out]; rfl, .inl ⟨HS.out, .inl rfl⟩, (Below.refl _ _).alloc (Nat.le_refl _) _⟩
  · have HC := Lib.hid (show L.sinceC n = 0 by unfold LogM.sinceC; rw [if_neg h1, if_neg h2, if_neg h3])
    have HS := Lib.hid (show L.since n = L.all.drop n.toNat from if_neg (by omega))
    obtain ⟨j, rfl⟩ : ∃ j : Nat, n = (j : Int) := ⟨n.toNat, by omega⟩
    obtain ⟨b, o, c, rfl, hc, _⟩ := hu.cells (by omega)
    have hj1 : j < c := by omega
    have hj2 : j < L.all.length := by omega
    have HD := Lib.hid (hu.drop (k := j) rfl (by omega) hj1)
    rw [pvals_drop] at HD
    have hne : ¬ c = j := by omega
    have hle : j ≤ L.all.length := by omega
    clear hu
    go_enter Tryd.func56, Tryd.ntmps56
    go_wp2_with fail
    go_ret2
    refine ⟨.slice (some ⟨b, o + j * 3, none⟩) (L.all.length - j) (c - j), by rw [HC.out]; rfl, ?_, (Below.refl _ _).alloc (Nat.le_refl _) _⟩
    rw [HS.out]
    exact rows_own (B := B) (e := 39) (by rw [List.length_drop]; exact HD.out.alloc _)
end A1
end Go.Proofs.YtijjggbiljkalaaDoor
end

section
namespace Go.Proofs.YtijjggbiljkalaaDoor
open Go.RowKit Pl Ad
attribute [local go_sem] ba_get ba_append ba_extract_end ba_extract_zero ba_extract
set_option maxRecDepth 100000
set_option maxHeartbeats 4000000
set_option linter.unusedVariables false
namespace A1
/-- The blocks that the reference's Append makes at its head. -/
@[reducible] def apW (w : World) (u d n k t s : Value) : World := ((w.alloc (.cells #[u, d, n] 51)).alloc (.cells #[k, t, s] 39)).alloc (.cells #[.slice none 0 0, .int .i64 0, .int .i64 0] 51)
structure ApR (w w' : World) (u d n k t s : Value) : Prop where
  bel : Below w.heap.size w w'
  l : Box3 w' w.heap.size 51 u d n
  p : Box3 w' (w.heap.size + 1) 39 k t s
  z : Box3 w' (w.heap.size + 1 + 1) 51 (.slice none 0 0) (.int .i64 0) (.int .i64 0)
theorem apR_new (w : World) (u d n k t s : Value) : ApR w (apW w u d n k t s) u d n k t s := by
  refine ⟨(((Below.refl _ _).alloc (Nat.le_refl _) _).alloc (by simp) _).alloc (by simp; omega) _, ((box3_new w _ _ _ _).alloc _).alloc _, ?_, ?_⟩
  · have h := (box3_new (w.alloc (.cells #[u, d, n] 51)) 39 k t s).alloc (.cells #[.slice none 0 0, .int .i64 0, .int .i64 0] 51)
    simpa using h
  · have h := box3_new ((w.alloc (.cells #[u, d, n] 51)).alloc (.cells #[k, t, s] 39)) 51 (.slice none 0 0) (.int .i64 0) (.int .i64 0)
    simpa using h
theorem ApR.older {w w1 w2 : World} {u d n k t s : Value} (h : ApR w w1 u d n k t s) (hb : Below w1.heap.size w1 w2) : ApR w w2 u d n k t s := ⟨h.bel.trans (hb.mono h.bel.size), h.l.older hb, h.p.older hb, h.z.older hb⟩
theorem plogRAppend_err (u : Value) (L : LogM) (p : Pg) (w : World) (hu : ∃ a c, u = .slice a L.all.length c) (hc : ¬ checkN p = 0) (hp : p.value.length ≤ 134217728) :
    Calls Tryd.prog 54 #[refV u L, pgV p] w fun e w' => e = .returned (.tuple #[refV u L, .int .i64 0, .int .i64 (checkN p)]) ∧ Below w.heap.size w w' := by
  obtain ⟨ua, uc, rfl⟩ := hu
  obtain ⟨k, t, s⟩ := p
  obtain ⟨n, hn⟩ : ∃ n, checkN ⟨k, t, s⟩ = n := ⟨_, rfl⟩
  have HN := Lib.hid hn
  have hn0 : (n != 0) = true := by rw [hn] at hc; simpa using hc
  clear hc hn
  have HA := Lib.hid (apR_new w (.slice ua L.all.length uc) (.int .i64 L.dropped) (.int .i64 L.win) (.int .i64 k) (.int .i64 t) (.string ⟨s.toArray⟩))
  go_enter Tryd.func54, Tryd.ntmps54
  go_wp2_with (go_at_call 70; refine (refCheck_any ⟨k, t, s⟩ _ hp).mono ?_; rintro e w1 ⟨rfl, hb1⟩; rw [HN.out]; have HA1 := Lib.hid (HA.out.older hb1); clear hb1; obtain ⟨⟨c0, c1, c2⟩, ⟨f0, f1, f2⟩, hz⟩ := HA1.out.l.facts; obtain ⟨⟨d0, d1, d2⟩, _, hz1⟩ := HA1.out.p.facts; obtain ⟨⟨e0, e1, e2⟩, ⟨j0, j1, j2⟩, hz2⟩ := HA1.out.z.facts)
  refine bodyPost_ret (v := .tuple #[refV (.slice ua L.all.length uc) L, .int .i64 0, .int .i64 n]) (by simp [results, Tryd.results54, go_sem, e0, e1, e2]) rfl ⟨by rw [HN.out], ?_⟩
  exact ((HA1.out.bel.setCell (p := ⟨w.heap.size + 1 + 1, 0, none⟩) (by show w.heap.size ≤ w.heap.size + 1 + 1; omega) _).setCell (p := ⟨w.heap.size + 1 + 1, 1, none⟩) (by show w.heap.size ≤ w.heap.size + 1 + 1; omega) _).setCell (p := ⟨w.heap.size + 1 + 1, 2, none⟩) (by show w.heap.size ≤ w.heap.size + 1 + 1; omega) _
/-- What the statement that appends leaves. -/
def ApEnd (w wx : World) (L : LogM) (k t s : Value) : Prop :=
  ∃ a3 q3, OwnWin wx w.heap.size 39 3 (.slice a3 (L.all.length + 1) q3) (L.all.length + 1) (pvals L.all ++ [k, t, s]) ∧ Box3 wx w.heap.size 51 (.slice a3 (L.all.length + 1) q3) (.int .i64 L.dropped) (.int .i64 L.win) ∧
    Box3 wx (w.heap.size + 1 + 1) 51 (.slice none 0 0) (.int .i64 0) (.int .i64 0) ∧ Below w.heap.size w wx
theorem Box3.other {w : World} {R R' T : Nat} {a b c : Value} (h : Box3 w R T a b c) (hne : R' < R) (i : Nat) (u : Value) : Box3 (w.setCell ⟨R', i, none⟩ u) R T a b c := box3_touch h (touch_set1 w R' i u) (by omega)
theorem own_neT {w : World} {R T e B n size : Nat} {a b c v : Value} {xs : List Value} (h : Box3 w R T a b c) (ho : OwnWin w B e size v n xs) (hne : T ≠ e) : ∀ q, v.ownBlock = some q → ¬ q = R := fun q hq hqr => by
  subst hqr
  rcases ho.2 with ⟨rfl, _⟩ | ⟨g, o, cap, cur, rfl, _, hg, _⟩
  · cases hq
  · simp [Value.ownBlock] at hq
    subst hq
    have := Option.some.inj (h.symm.trans hg)
    injection this with _ e2
    exact hne e2
theorem heap_first (w : World) (o o' : Obj) : ((w.alloc o).alloc o').heap[w.heap.size]? = some o := (Below.heap_alloc (w.alloc o) o' _ (by simp)).trans (heap_alloc_new w o)
theorem heap_next (w : World) (o o' : Obj) : ((w.alloc o).alloc o').heap[w.heap.size + 1]? = some o' := by
  have h := heap_alloc_new (w.alloc o) o'
  simpa using h
theorem heap_alloc_next (w : World) (o o' : Obj) : ((w.alloc o).alloc o').heap[w.heap.size + 1]? = some o' := heap_next w o o'
theorem plogRAppend_ok (B : Nat) (u : Value) (L : LogM) (p : Pg) (w : World) (hu : RefOwn w B u L) (ho : L.Ok) (hB : B ≤ w.heap.size) (hl : L.all.length < 1000000) (hc : checkN p = 0) (hp : p.value.length ≤ 134217728) :
    Calls Tryd.prog 54 #[refV u L, pgV p] w fun e w' => ∃ v, e = .returned (.tuple #[refV v (L.push p), .int .i64 ((L.all.length : Int) + 1), .int .i64 0]) ∧ RefOwn w' w.heap.size v (L.push p) ∧ Below w.heap.size w w' := by
  obtain ⟨k, t, s⟩ := p
  have HU := Lib.hid hu
  obtain ⟨ua, uc, rfl, _⟩ := hu.form
  have HN := Lib.hid hc
  clear hc hu
  have HA := Lib.hid (apR_new w (.slice ua L.all.length uc) (.int .i64 L.dropped) (.int .i64 L.win) (.int .i64 k) (.int .i64 t) (.string ⟨s.toArray⟩))
  go_enter Tryd.func54, Tryd.ntmps54
  go_upto_region 4 with (go_at_call 70; refine (refCheck_any ⟨k, t, s⟩ _ hp).mono ?_; rintro e w1 ⟨rfl, hb1⟩; rw [HN.out]; have HA1 := Lib.hid (HA.out.older hb1); clear hb1; obtain ⟨⟨c0, c1, c2⟩, ⟨f0, f1, f2⟩, hz⟩ := HA1.out.l.facts; obtain ⟨⟨d0, d1, d2⟩, _, hz1⟩ := HA1.out.p.facts; obtain ⟨⟨e0, e1, e2⟩, ⟨j0, j1, j2⟩, hz2⟩ := HA1.out.z.facts)
  have HU1 := Lib.hid (HU.out.older (HA1.out.bel))
  go_cut [] (fun wx => ApEnd w wx L (.int .i64 k) (.int .i64 t) (.string ⟨s.toArray⟩))
  case first =>
    go_region_law
        ((first
          | (refine step_appw tyRPgs (by rfl) _ _ (by rfl) w1.heap.size (.slice (some ⟨w1.heap.size, 0, none⟩) 0 0) 0 [] (by rfl) (own_empty (heap_alloc_new w1 _) (Nat.le_refl _)).drew (by first | (simp; done) | (simp; omega)) (.slice ua L.all.length uc) L.all.length (pvals L.all) (by rfl) (SrcAt.of (HU1.out.alloc _).drew) (by rw [pvals_len]) (pvals_oneCell _) (by omega) ?_; intro v2 w2 hown2 hgrow2 hlies2; rw [Nat.zero_add, List.nil_append] at hown2; obtain ⟨a2, q2, rfl, hq2⟩ := hown2.form; have hb2 : Below w1.heap.size w1 w2 := below_grown ((Below.refl w1.heap.size w1).alloc (Nat.le_refl _) _).drew hgrow2 (by first | (simp; done) | (simp; omega)) (fun q hq => by simp [Value.ownBlock] at hq; omega); have hs2 := hb2.size; obtain ⟨⟨p0, p1, p2⟩, _, _⟩ := (HA1.out.older hb2).p.facts)
          | (refine step_appw tyRPgs (by rfl) _ _ (by rfl) w1.heap.size (.slice (some ⟨w1.heap.size, 0, none⟩) 0 0) 0 [] (by rfl) ((own_empty (heap_alloc_new w1 _) (Nat.le_refl _)).alloc _).drew (by first | (simp; done) | (simp; omega)) (.slice ua L.all.length uc) L.all.length (pvals L.all) (by rfl) (SrcAt.of ((HU1.out.alloc _).alloc _).drew) (by rw [pvals_len]) (pvals_oneCell _) (by omega) ?_; intro v2 w2 hown2 hgrow2 hlies2; rw [Nat.zero_add, List.nil_append] at hown2; obtain ⟨a2, q2, rfl, hq2⟩ := hown2.form; have hb2 : Below w1.heap.size w1 w2 := below_grown (((Below.refl w1.heap.size w1).alloc (Nat.le_refl _) _).alloc (by first | (simp; done) | (simp; omega)) _).drew hgrow2 (by first | (simp; done) | (simp; omega)) (fun q hq => by simp [Value.ownBlock] at hq; omega); have hs2 := hb2.size; obtain ⟨⟨p0, p1, p2⟩, _, _⟩ := (HA1.out.older hb2).p.facts; have hP : w2.heap[w1.heap.size + 1]? = some (.cells #[.int .i64 k, .int .i64 t, .string ⟨s.toArray⟩] 39 (0, 0)) := (hgrow2.block _ (by first | (simp; done) | (simp; omega)) (by simp [Value.ownBlock])).trans (heap_next w1 _ _))
          | (refine step_appw tyRPgs (by rfl) _ _ (by rfl) w1.heap.size (.slice (some ⟨w1.heap.size + 1, 0, none⟩) 0 0) 0 [] (by rfl) (own_empty (heap_alloc_next w1 _ _) (by omega)).drew (by first | (simp; done) | (simp; omega)) (.slice ua L.all.length uc) L.all.length (pvals L.all) (by rfl) (SrcAt.of ((HU1.out.alloc _).alloc _).drew) (by rw [pvals_len]) (pvals_oneCell _) (by omega) ?_; intro v2 w2 hown2 hgrow2 hlies2; rw [Nat.zero_add, List.nil_append] at hown2; obtain ⟨a2, q2, rfl, hq2⟩ := hown2.form; have hb2 : Below w1.heap.size w1 w2 := below_grown (((Below.refl w1.heap.size w1).alloc (Nat.le_refl _) _).alloc (by first | (simp; done) | (simp; omega)) _).drew hgrow2 (by first | (simp; done) | (simp; omega)) (fun q hq => by simp [Value.ownBlock] at hq; omega); have hs2 := hb2.size; obtain ⟨⟨p0, p1, p2⟩, _, _⟩ := (HA1.out.older hb2).p.facts; have hP : w2.heap[w1.heap.size]? = some (.cells #[.int .i64 k, .int .i64 t, .string ⟨s.toArray⟩] 39 (0, 0)) := (hgrow2.block _ (by first | omega | (simp; omega)) (by simp [Value.ownBlock])).trans (heap_first w1 _ _))
          | (refine step_appw tyRPgs (by rfl) _ _ (by rfl) w1.heap.size (.slice a2 L.all.length q2) L.all.length (pvals L.all) (by rfl) (hown2.alloc _) (by first | omega | (simp; omega)) (.slice (some ⟨w2.heap.size, 0, none⟩) 1 1) 1 [.int .i64 k, .int .i64 t, .string ⟨s.toArray⟩] (by rfl) (SrcAt.one (heap_alloc_new w2 _)) (by rfl) (by simp [Value.oneCell']) (by omega) ?_; intro v3 w3 hown3 hgrow3 hlies3; obtain ⟨a3, q3, rfl, hq3⟩ := hown3.form; have hb3 : Below w1.heap.size w1 w3 := below_grown (hb2.alloc (by omega) _) hgrow3 (by first | omega | (simp; omega)) (fun q hq => (hown2.lt q hq).1); obtain ⟨⟨g0, g1, g2⟩, ⟨m0, m1, m2⟩, hz3⟩ := (HA1.out.older hb3).l.facts; obtain ⟨⟨x0, x1, x2⟩, _, _⟩ := (HA1.out.older hb3).p.facts; obtain ⟨⟨y0, y1, y2⟩, ⟨n0, n1, n2⟩, hz4⟩ := (HA1.out.older hb3).z.facts)
          | (refine step_appw tyRPgs (by rfl) _ _ (by rfl) w1.heap.size (.slice a2 L.all.length q2) L.all.length (pvals L.all) (by rfl) hown2 (by first | omega | (simp; omega)) (.slice (some ⟨w1.heap.size + 1, 0, none⟩) 1 1) 1 [.int .i64 k, .int .i64 t, .string ⟨s.toArray⟩] (by rfl) (SrcAt.one hP) (by rfl) (by simp [Value.oneCell']) (by omega) ?_; intro v3 w3 hown3 hgrow3 hlies3; obtain ⟨a3, q3, rfl, hq3⟩ := hown3.form; have hb3 : Below w1.heap.size w1 w3 := below_grown hb2 hgrow3 (by first | omega | (simp; omega)) (fun q hq => (hown2.lt q hq).1); obtain ⟨⟨g0, g1, g2⟩, ⟨m0, m1, m2⟩, hz3⟩ := (HA1.out.older hb3).l.facts; obtain ⟨⟨x0, x1, x2⟩, _, _⟩ := (HA1.out.older hb3).p.facts; obtain ⟨⟨y0, y1, y2⟩, ⟨n0, n1, n2⟩, hz4⟩ := (HA1.out.older hb3).z.facts)
          | (refine step_appw tyRPgs (by rfl) _ _ (by rfl) w1.heap.size (.slice a2 L.all.length q2) L.all.length (pvals L.all) (by rfl) hown2 (by first | omega | (simp; omega)) (.slice (some ⟨w1.heap.size, 0, none⟩) 1 1) 1 [.int .i64 k, .int .i64 t, .string ⟨s.toArray⟩] (by rfl) (SrcAt.one hP) (by rfl) (by simp [Value.oneCell']) (by omega) ?_; intro v3 w3 hown3 hgrow3 hlies3; obtain ⟨a3, q3, rfl, hq3⟩ := hown3.form; have hb3 : Below w1.heap.size w1 w3 := below_grown hb2 hgrow3 (by first | omega | (simp; omega)) (fun q hq => (hown2.lt q hq).1); obtain ⟨⟨g0, g1, g2⟩, ⟨m0, m1, m2⟩, hz3⟩ := (HA1.out.older hb3).l.facts; obtain ⟨⟨x0, x1, x2⟩, _, _⟩ := (HA1.out.older hb3).p.facts; obtain ⟨⟨y0, y1, y2⟩, ⟨n0, n1, n2⟩, hz4⟩ := (HA1.out.older hb3).z.facts)))
    all_goals
      go_wp2
      go_meet
      exact ⟨a3, q3, (own_setR hown3 (fun q hq => by have := (hown3.lt q hq).1; omega) 0 _).mono (fun q hq => by have := (hown3.lt q hq).1; omega), box3_set0 (HA1.out.older hb3).l _, (HA1.out.older hb3).z.other (by omega) 0 _, (HA1.out.older hb3).bel.setCell (Nat.le_refl _) _⟩
  case rest =>
    obtain ⟨a3, q3, hown, hbl, hbz, hbe⟩ := hcut
    obtain ⟨m, hm⟩ : ∃ m : Nat, max (L.dropped : Int) ((L.all.length : Int) + 1 - (L.win : Int)) = (m : Int) := ⟨(max (L.dropped : Int) ((L.all.length : Int) + 1 - (L.win : Int))).toNat, by omega⟩
    have HM := Lib.hid (show m = (L.push ⟨k, t, s⟩).dropped by show m = max L.dropped (L.all.length + 1 - L.win); omega)
    have hw2 : L.win ≤ 1024 := ho.win2
    have HO := Lib.hid hown
    have HBE := Lib.hid hbe
    have HN1 := Lib.hid (own_neT hbl hown (by decide))
    have HN2 := Lib.hid (own_neT hbz hown (by decide))
    have HBL := Lib.hid hbl
    have HE := Lib.hid (show pvals (L.push ⟨k, t, s⟩).all = pvals L.all ++ [.int .i64 k, .int .i64 t, .string ⟨s.toArray⟩] by show pvals (L.all ++ [_]) = _; rw [pvals_append, pvals_one]; rfl)
    have HLn := Lib.hid (show (L.push ⟨k, t, s⟩).all.length = L.all.length + 1 by show (L.all ++ [_]).length = _; simp)
    obtain ⟨⟨g0, g1, g2⟩, ⟨m0, m1, m2⟩, hz3⟩ := hbl.facts
    obtain ⟨⟨y0, y1, y2⟩, ⟨n0, n1, n2⟩, hz4⟩ := hbz.facts
    clear hown hbe hbl hbz ho
    go_wp2
    go_region
    all_goals
      go_wp2
      refine bodyPost_ret (v := .tuple #[.agg #[.slice a3 (L.all.length + 1) q3, .int .i64 (m : Int), .int .i64 L.win], .int .i64 ((L.all.length : Int) + 1), .int .i64 0]) (by simp [results, Tryd.results54, go_sem, y0, y1, y2]) rfl ⟨.slice a3 (L.all.length + 1) q3, ?_, ?_, ?_⟩
      · rw [HM.out]; rfl
      · unfold RefOwn
        rw [HLn.out, HE.out]
        exact (own_setR (own_setR (own_setR (own_setR HO.out HN1.out _ _) HN2.out _ _) HN2.out _ _) HN2.out _ _).drew
      · exact ((((HBE.out.setCell (p := ⟨w.heap.size, 1, none⟩) (Nat.le_refl _) _).setCell (p := ⟨w.heap.size + 1 + 1, 0, none⟩) (by show w.heap.size ≤ w.heap.size + 1 + 1; omega) _).setCell (p := ⟨w.heap.size + 1 + 1, 1, none⟩) (by show w.heap.size ≤ w.heap.size + 1 + 1; omega) _).setCell (p := ⟨w.heap.size + 1 + 1, 2, none⟩) (by show w.heap.size ≤ w.heap.size + 1 + 1; omega) _).drew
end A1
end Go.Proofs.YtijjggbiljkalaaDoor
end

section
namespace Go.Proofs.YtijjggbiljkalaaDoor
open Go.RowKit Pl Ad
attribute [local go_sem] ba_get ba_append ba_extract_end ba_extract_zero ba_extract
set_option maxRecDepth 100000
set_option maxHeartbeats 4000000
set_option linter.unusedVariables false
namespace A1
/-- A law's log on its way: the law began at w0. -/
structure Run (w0 w : World) (R : Nat) (v : Value) (L : LogM) : Prop where
  bel : Below w0.heap.size w0 w
  log : LogAt w w0.heap.size R v L
  ok : L.Ok
theorem Run.older {w0 w w' : World} {R : Nat} {v : Value} {L : LogM} (h : Run w0 w R v L) (hb : Below w.heap.size w w') : Run w0 w' R v L := ⟨h.bel.trans (hb.mono h.bel.size), h.log.below hb, h.ok⟩
theorem Goes.below {w0 w w' : World} {R : Nat} {v v' : Value} {L : LogM} (hg : Goes w w' R v v') (h : Run w0 w R v L) : Below w0.heap.size w w' :=
  hg.touch.below h.bel.size fun i hi => by
    rcases hi with rfl | hi
    · exact h.log.hR
    · exact (h.log.own.lt i hi).1
theorem Run.goes {w0 w w' : World} {R : Nat} {v v' : Value} {L L' : LogM} (h : Run w0 w R v L) (hl : LogAt w' w0.heap.size R v' L') (hg : Goes w w' R v v') (ho : L'.Ok) : Run w0 w' R v' L' := ⟨h.bel.trans (hg.below h), hl, ho⟩
theorem own_own_ne {w : World} {B B' e e' n n' s s' : Nat} {v v' : Value} {xs xs' : List Value} (h : OwnWin w B e s v n xs) (h' : OwnWin w B' e' s' v' n' xs') (hne : e ≠ e') : ∀ q, v.ownBlock = some q → ¬ v'.ownBlock = some q := fun q hq hq' => by
  rcases h.2 with ⟨rfl, _⟩ | ⟨g, o, cap, cur, rfl, _, hg, _⟩
  · cases hq
  · rcases h'.2 with ⟨rfl, _⟩ | ⟨g', o', cap', cur', rfl, _, hg', _⟩
    · cases hq'
    · simp [Value.ownBlock] at hq hq'
      subst hq hq'
      have := Option.some.inj (hg.symm.trans hg')
      injection this with _ e2
      exact hne e2
theorem RefOwn.goes {w w' : World} {B B' R : Nat} {u v v' : Value} {L L' : LogM} (h : RefOwn w B u L) (hl : LogAt w B' R v L') (hg : Goes w w' R v v') : RefOwn w' B u L := by
  unfold RefOwn at h ⊢
  refine h.touch hg.touch fun q hq hs => ?_
  rcases hs with hs | hs
  · exact own_neT hl.box h (by decide) q hq hs
  · exact own_own_ne h hl.own (by decide) q hq hs
theorem RefOwn.older {w w' : World} {B : Nat} {u : Value} {L : LogM} (h : RefOwn w B u L) (hb : Below w.heap.size w w') : RefOwn w' B u L := OwnWin.older h hb
theorem run_append (w0 w : World) (R : Nat) (v : Value) (L : LogM) (p : Pg) (h : Run w0 w R v L) (hr : Ready w0) (hc : checkN p = 0) (hp : p.value.length ≤ 134217728) (hl : L.all.length < 1000000) :
    Calls Tryd.prog 22 #[ptrV R, pgV p] w fun e w' => ∃ v', e = .returned (.tuple #[.int .i64 ((L.all.length : Int) + 1), .nilIface]) ∧ Run w0 w' R v' (L.push p) ∧ Goes w w' R v v' :=
  (plogAppend_ok w0.heap.size R v L p w h.log h.ok (hr.below h.bel) hc hp hl h.bel.size).mono fun e w' he => by
    obtain ⟨v', h1, h2, h3⟩ := he
    exact ⟨v', h1, h.goes h2 h3 (LogM.ok_push h.ok hc hp), h3⟩
theorem run_last (w0 w : World) (R : Nat) (v : Value) (L : LogM) (h : Run w0 w R v L) (hl : L.all.length ≤ 1000000) :
    Calls Tryd.prog 17 #[ptrV R] w fun e w' => e = .returned (.int .i64 L.all.length) ∧ Run w0 w' R v L ∧ Below w.heap.size w w' :=
  (plogLast_log w0.heap.size R v L w h.log h.ok.drop hl).mono fun e w' he => ⟨he.1, h.older he.2.2, he.2.2⟩
theorem Box3.goes {w w' : World} {R R' T : Nat} {a b c v v' : Value} (h : Box3 w R' T a b c) (hg : Goes w w' R v v') (h1 : R' ≠ R) (h2 : v.ownBlock ≠ some R') : Box3 w' R' T a b c :=
  (hg.touch.block R' h.facts.2.2 (fun hs => by rcases hs with hs | hs; exact h1 hs; exact h2 hs)).trans h

theorem window37_any (n : Int) (w : World) (h0 : 0 ≤ n) (h1 : n < 256) :
    Calls Tryd.prog 20 #[.int .u8 n] w fun e w' => e = .returned (.int .i64 (1 + n % 24)) ∧ w = w' := by
  go_enter Tryd.func20, Tryd.ntmps20
  go_wp2
  go_ret
  exact ⟨rfl, rfl⟩
def p1 : Pg := ⟨3, 0, [116]⟩
theorem awake37_any (w : World) (hr : Ready w) : Calls Tryd.prog 14 #[] w fun e w' => e = .returned (.bool true) ∧ Below w.heap.size w w' := by
  have hp1 : checkN p1 = 0 := by decide
  have HP := Lib.hid hp1
  have h0 : Run w (w.alloc (.cells #[.int .i64 3, .int .i64 1, .slice none 0 0] 100)) w.heap.size (.slice none 0 0) (.start 3) := ⟨(Below.refl _ _).alloc (Nat.le_refl _) _, logAt_new w 3 w.heap.size (Nat.le_refl _), LogM.ok_start (by decide) (by decide)⟩
  have HR := Lib.hid (h0.older ((Below.refl _ _).alloc (Nat.le_refl _) (.cells #[.int .i64 3, .int .i64 0, .string ⟨#[116]⟩] 37)))
  have hb := box3_new (w.alloc (.cells #[.int .i64 3, .int .i64 1, .slice none 0 0] 100)) 37 (.int .i64 3) (.int .i64 0) (.string ⟨#[116]⟩)
  rw [show (w.alloc (.cells #[.int .i64 3, .int .i64 1, .slice none 0 0] 100)).heap.size = w.heap.size + 1 by simp] at hb
  have HB := Lib.hid hb
  clear h0 hb hp1
  go_enter Tryd.func14, Tryd.ntmps14
  go_wp2_with fail
  refine (plogNew_ok 3 _ (by decide) (by decide)).mono ?_
  rintro e w1 ⟨rfl, rfl⟩
  go_wp2_with fail
  refine (run_append w _ w.heap.size _ (.start 3) p1 HR.out hr HP.out (by decide) (by decide)).mono ?_
  rintro e w2 ⟨v2, rfl, hr2, hg2⟩
  have hb2 := HB.out.goes hg2 (by omega) (by simp [Value.ownBlock])
  obtain ⟨⟨c0, c1, c2⟩, _, _⟩ := hb2.facts
  have HR2 := Lib.hid hr2
  clear hr2 hg2 hb2
  rw [show (((LogM.start 3).all.length : Int) + 1) = 1 from rfl]
  go_wp2_with fail
  refine (run_append w _ w.heap.size v2 _ p1 HR2.out hr HP.out (by decide) (by decide)).mono ?_
  rintro e w3 ⟨v3, rfl, hr3, hg3⟩
  have HR3 := Lib.hid hr3
  clear hr3 hg3
  rw [show ((((LogM.start 3).push p1).all.length : Int) + 1) = 2 from rfl]
  go_wp2_with (go_at_call 17; refine (run_last w _ w.heap.size v3 _ HR3.out (by decide)).mono ?_; rintro e w4 ⟨rfl, hr4, hb4⟩; rw [show ((((LogM.start 3).push p1).push p1).all.length : Int) = 2 from rfl]; have HR4 := Lib.hid hr4; clear hr4 hb4)
  go_ret
  exact ⟨rfl, HR4.out.bel⟩
end A1
end Go.Proofs.YtijjggbiljkalaaDoor
end
