/- Contract: the reference's Append over the log of purges. Conditions: logs of at most a million entries; values of at most 2^27 bytes. -/
import Derived.Test.YtijjggbiljkalaaDoorPlogR
import Derived.Deep.RegionHeld3
import Derived.Deep.RegionLaw
import Derived.Deep.DeepCutAuto
namespace Go.Proofs.YtijjggbiljkalaaDoor
open Go.RowKit Pl Ad
attribute [local go_sem] ba_get ba_append ba_extract_end ba_extract_zero ba_extract
set_option maxRecDepth 100000
set_option maxHeartbeats 4000000
set_option linter.unusedVariables false
namespace A1
/-- The blocks that the reference's Append makes at its head. -/
@[reducible] def apW (w : World) (u d n k t s : Value) : World := ((w.alloc (.cells #[u, d, n] 51)).alloc (.cells #[k, t, s] 39)).alloc (.cells #[.slice none 0 0, .int .i64 0, .int .i64 0] 51)
structure ApR (w w' : World) (u d n k t s : Value) : Prop where
  bel : Below w.heap.size w w'
  l : Box3 w' w.heap.size 51 u d n
  p : Box3 w' (w.heap.size + 1) 39 k t s
  z : Box3 w' (w.heap.size + 1 + 1) 51 (.slice none 0 0) (.int .i64 0) (.int .i64 0)
theorem apR_new (w : World) (u d n k t s : Value) : ApR w (apW w u d n k t s) u d n k t s := by
  refine ⟨(((Below.refl _ _).alloc (Nat.le_refl _) _).alloc (by simp) _).alloc (by simp; omega) _, ((box3_new w _ _ _ _).alloc _).alloc _, ?_, ?_⟩
  · have h := (box3_new (w.alloc (.cells #[u, d, n] 51)) 39 k t s).alloc (.cells #[.slice none 0 0, .int .i64 0, .int .i64 0] 51)
    simpa using h
  · have h := box3_new ((w.alloc (.cells #[u, d, n] 51)).alloc (.cells #[k, t, s] 39)) 51 (.slice none 0 0) (.int .i64 0) (.int .i64 0)
    simpa using h
theorem ApR.older {w w1 w2 : World} {u d n k t s : Value} (h : ApR w w1 u d n k t s) (hb : Below w1.heap.size w1 w2) : ApR w w2 u d n k t s := ⟨h.bel.trans (hb.mono h.bel.size), h.l.older hb, h.p.older hb, h.z.older hb⟩
theorem plogRAppend_err (u : Value) (L : LogM) (p : Pg) (w : World) (hu : ∃ a c, u = .slice a L.all.length c) (hc : ¬ checkN p = 0) (hp : p.value.length ≤ 134217728) :
    Calls Tryd.prog 54 #[refV u L, pgV p] w fun e w' => e = .returned (.tuple #[refV u L, .int .i64 0, .int .i64 (checkN p)]) ∧ Below w.heap.size w w' := by
  obtain ⟨ua, uc, rfl⟩ := hu
  obtain ⟨k, t, s⟩ := p
  obtain ⟨n, hn⟩ : ∃ n, checkN ⟨k, t, s⟩ = n := ⟨_, rfl⟩
  have HN := Lib.hid hn
  have hn0 : (n != 0) = true := by rw [hn] at hc; simpa using hc
  clear hc hn
  have HA := Lib.hid (apR_new w (.slice ua L.all.length uc) (.int .i64 L.dropped) (.int .i64 L.win) (.int .i64 k) (.int .i64 t) (.string ⟨s.toArray⟩))
  go_enter Tryd.func54, Tryd.ntmps54
  go_wp2_with (go_at_call 70; refine (refCheck_any ⟨k, t, s⟩ _ hp).mono ?_; rintro e w1 ⟨rfl, hb1⟩; rw [HN.out]; have HA1 := Lib.hid (HA.out.older hb1); clear hb1; obtain ⟨⟨c0, c1, c2⟩, ⟨f0, f1, f2⟩, hz⟩ := HA1.out.l.facts; obtain ⟨⟨d0, d1, d2⟩, _, hz1⟩ := HA1.out.p.facts; obtain ⟨⟨e0, e1, e2⟩, ⟨j0, j1, j2⟩, hz2⟩ := HA1.out.z.facts)
  refine bodyPost_ret (v := .tuple #[refV (.slice ua L.all.length uc) L, .int .i64 0, .int .i64 n]) (by simp [results, Tryd.results54, go_sem, e0, e1, e2]) rfl ⟨by rw [HN.out], ?_⟩
  exact ((HA1.out.bel.setCell (p := ⟨w.heap.size + 1 + 1, 0, none⟩) (by show w.heap.size ≤ w.heap.size + 1 + 1; omega) _).setCell (p := ⟨w.heap.size + 1 + 1, 1, none⟩) (by show w.heap.size ≤ w.heap.size + 1 + 1; omega) _).setCell (p := ⟨w.heap.size + 1 + 1, 2, none⟩) (by show w.heap.size ≤ w.heap.size + 1 + 1; omega) _
/-- What the statement that appends leaves. -/
def ApEnd (w wx : World) (L : LogM) (k t s : Value) : Prop :=
  ∃ a3 q3, OwnWin wx w.heap.size 39 3 (.slice a3 (L.all.length + 1) q3) (L.all.length + 1) (pvals L.all ++ [k, t, s]) ∧ Box3 wx w.heap.size 51 (.slice a3 (L.all.length + 1) q3) (.int .i64 L.dropped) (.int .i64 L.win) ∧
    Box3 wx (w.heap.size + 1 + 1) 51 (.slice none 0 0) (.int .i64 0) (.int .i64 0) ∧ Below w.heap.size w wx
theorem Box3.other {w : World} {R R' T : Nat} {a b c : Value} (h : Box3 w R T a b c) (hne : R' < R) (i : Nat) (u : Value) : Box3 (w.setCell ⟨R', i, none⟩ u) R T a b c := box3_touch h (touch_set1 w R' i u) (by omega)
theorem own_neT {w : World} {R T e B n size : Nat} {a b c v : Value} {xs : List Value} (h : Box3 w R T a b c) (ho : OwnWin w B e size v n xs) (hne : T ≠ e) : ∀ q, v.ownBlock = some q → ¬ q = R := fun q hq hqr => by
  subst hqr
  rcases ho.2 with ⟨rfl, _⟩ | ⟨g, o, cap, cur, rfl, _, hg, _⟩
  · cases hq
  · simp [Value.ownBlock] at hq
    subst hq
    have := Option.some.inj (h.symm.trans hg)
    injection this with _ e2
    exact hne e2
theorem heap_first (w : World) (o o' : Obj) : ((w.alloc o).alloc o').heap[w.heap.size]? = some o := (Below.heap_alloc (w.alloc o) o' _ (by simp)).trans (heap_alloc_new w o)
theorem heap_next (w : World) (o o' : Obj) : ((w.alloc o).alloc o').heap[w.heap.size + 1]? = some o' := by
  have h := heap_alloc_new (w.alloc o) o'
  simpa using h
theorem heap_alloc_next (w : World) (o o' : Obj) : ((w.alloc o).alloc o').heap[w.heap.size + 1]? = some o' := heap_next w o o'
theorem plogRAppend_ok (B : Nat) (u : Value) (L : LogM) (p : Pg) (w : World) (hu : RefOwn w B u L) (ho : L.Ok) (hB : B ≤ w.heap.size) (hl : L.all.length < 1000000) (hc : checkN p = 0) (hp : p.value.length ≤ 134217728) :
    Calls Tryd.prog 54 #[refV u L, pgV p] w fun e w' => ∃ v, e = .returned (.tuple #[refV v (L.push p), .int .i64 ((L.all.length : Int) + 1), .int .i64 0]) ∧ RefOwn w' w.heap.size v (L.push p) ∧ Below w.heap.size w w' := by
  obtain ⟨k, t, s⟩ := p
  have HU := Lib.hid hu
  obtain ⟨ua, uc, rfl, _⟩ := hu.form
  have HN := Lib.hid hc
  clear hc hu
  have HA := Lib.hid (apR_new w (.slice ua L.all.length uc) (.int .i64 L.dropped) (.int .i64 L.win) (.int .i64 k) (.int .i64 t) (.string ⟨s.toArray⟩))
  go_enter Tryd.func54, Tryd.ntmps54
  go_upto_region 4 with (go_at_call 70; refine (refCheck_any ⟨k, t, s⟩ _ hp).mono ?_; rintro e w1 ⟨rfl, hb1⟩; rw [HN.out]; have HA1 := Lib.hid (HA.out.older hb1); clear hb1; obtain ⟨⟨c0, c1, c2⟩, ⟨f0, f1, f2⟩, hz⟩ := HA1.out.l.facts; obtain ⟨⟨d0, d1, d2⟩, _, hz1⟩ := HA1.out.p.facts; obtain ⟨⟨e0, e1, e2⟩, ⟨j0, j1, j2⟩, hz2⟩ := HA1.out.z.facts)
  have HU1 := Lib.hid (HU.out.older (HA1.out.bel))
  go_cut [] (fun wx => ApEnd w wx L (.int .i64 k) (.int .i64 t) (.string ⟨s.toArray⟩))
  case first =>
    go_region_law
        ((first
          | (refine step_appw tyRPgs (by rfl) _ _ (by rfl) w1.heap.size (.slice (some ⟨w1.heap.size, 0, none⟩) 0 0) 0 [] (by rfl) (own_empty (heap_alloc_new w1 _) (Nat.le_refl _)).drew (by first | (simp; done) | (simp; omega)) (.slice ua L.all.length uc) L.all.length (pvals L.all) (by rfl) (SrcAt.of (HU1.out.alloc _).drew) (by rw [pvals_len]) (pvals_oneCell _) (by omega) ?_; intro v2 w2 hown2 hgrow2 hlies2; rw [Nat.zero_add, List.nil_append] at hown2; obtain ⟨a2, q2, rfl, hq2⟩ := hown2.form; have hb2 : Below w1.heap.size w1 w2 := below_grown ((Below.refl w1.heap.size w1).alloc (Nat.le_refl _) _).drew hgrow2 (by first | (simp; done) | (simp; omega)) (fun q hq => by simp [Value.ownBlock] at hq; omega); have hs2 := hb2.size; obtain ⟨⟨p0, p1, p2⟩, _, _⟩ := (HA1.out.older hb2).p.facts)
          | (refine step_appw tyRPgs (by rfl) _ _ (by rfl) w1.heap.size (.slice (some ⟨w1.heap.size, 0, none⟩) 0 0) 0 [] (by rfl) ((own_empty (heap_alloc_new w1 _) (Nat.le_refl _)).alloc _).drew (by first | (simp; done) | (simp; omega)) (.slice ua L.all.length uc) L.all.length (pvals L.all) (by rfl) (SrcAt.of ((HU1.out.alloc _).alloc _).drew) (by rw [pvals_len]) (pvals_oneCell _) (by omega) ?_; intro v2 w2 hown2 hgrow2 hlies2; rw [Nat.zero_add, List.nil_append] at hown2; obtain ⟨a2, q2, rfl, hq2⟩ := hown2.form; have hb2 : Below w1.heap.size w1 w2 := below_grown (((Below.refl w1.heap.size w1).alloc (Nat.le_refl _) _).alloc (by first | (simp; done) | (simp; omega)) _).drew hgrow2 (by first | (simp; done) | (simp; omega)) (fun q hq => by simp [Value.ownBlock] at hq; omega); have hs2 := hb2.size; obtain ⟨⟨p0, p1, p2⟩, _, _⟩ := (HA1.out.older hb2).p.facts; have hP : w2.heap[w1.heap.size + 1]? = some (.cells #[.int .i64 k, .int .i64 t, .string ⟨s.toArray⟩] 39 (0, 0)) := (hgrow2.block _ (by first | (simp; done) | (simp; omega)) (by simp [Value.ownBlock])).trans (heap_next w1 _ _))
          | (refine step_appw tyRPgs (by rfl) _ _ (by rfl) w1.heap.size (.slice (some ⟨w1.heap.size + 1, 0, none⟩) 0 0) 0 [] (by rfl) (own_empty (heap_alloc_next w1 _ _) (by omega)).drew (by first | (simp; done) | (simp; omega)) (.slice ua L.all.length uc) L.all.length (pvals L.all) (by rfl) (SrcAt.of ((HU1.out.alloc _).alloc _).drew) (by rw [pvals_len]) (pvals_oneCell _) (by omega) ?_; intro v2 w2 hown2 hgrow2 hlies2; rw [Nat.zero_add, List.nil_append] at hown2; obtain ⟨a2, q2, rfl, hq2⟩ := hown2.form; have hb2 : Below w1.heap.size w1 w2 := below_grown (((Below.refl w1.heap.size w1).alloc (Nat.le_refl _) _).alloc (by first | (simp; done) | (simp; omega)) _).drew hgrow2 (by first | (simp; done) | (simp; omega)) (fun q hq => by simp [Value.ownBlock] at hq; omega); have hs2 := hb2.size; obtain ⟨⟨p0, p1, p2⟩, _, _⟩ := (HA1.out.older hb2).p.facts; have hP : w2.heap[w1.heap.size]? = some (.cells #[.int .i64 k, .int .i64 t, .string ⟨s.toArray⟩] 39 (0, 0)) := (hgrow2.block _ (by first | omega | (simp; omega)) (by simp [Value.ownBlock])).trans (heap_first w1 _ _))
          | (refine step_appw tyRPgs (by rfl) _ _ (by rfl) w1.heap.size (.slice a2 L.all.length q2) L.all.length (pvals L.all) (by rfl) (hown2.alloc _) (by first | omega | (simp; omega)) (.slice (some ⟨w2.heap.size, 0, none⟩) 1 1) 1 [.int .i64 k, .int .i64 t, .string ⟨s.toArray⟩] (by rfl) (SrcAt.one (heap_alloc_new w2 _)) (by rfl) (by simp [Value.oneCell']) (by omega) ?_; intro v3 w3 hown3 hgrow3 hlies3; obtain ⟨a3, q3, rfl, hq3⟩ := hown3.form; have hb3 : Below w1.heap.size w1 w3 := below_grown (hb2.alloc (by omega) _) hgrow3 (by first | omega | (simp; omega)) (fun q hq => (hown2.lt q hq).1); obtain ⟨⟨g0, g1, g2⟩, ⟨m0, m1, m2⟩, hz3⟩ := (HA1.out.older hb3).l.facts; obtain ⟨⟨x0, x1, x2⟩, _, _⟩ := (HA1.out.older hb3).p.facts; obtain ⟨⟨y0, y1, y2⟩, ⟨n0, n1, n2⟩, hz4⟩ := (HA1.out.older hb3).z.facts)
          | (refine step_appw tyRPgs (by rfl) _ _ (by rfl) w1.heap.size (.slice a2 L.all.length q2) L.all.length (pvals L.all) (by rfl) hown2 (by first | omega | (simp; omega)) (.slice (some ⟨w1.heap.size + 1, 0, none⟩) 1 1) 1 [.int .i64 k, .int .i64 t, .string ⟨s.toArray⟩] (by rfl) (SrcAt.one hP) (by rfl) (by simp [Value.oneCell']) (by omega) ?_; intro v3 w3 hown3 hgrow3 hlies3; obtain ⟨a3, q3, rfl, hq3⟩ := hown3.form; have hb3 : Below w1.heap.size w1 w3 := below_grown hb2 hgrow3 (by first | omega | (simp; omega)) (fun q hq => (hown2.lt q hq).1); obtain ⟨⟨g0, g1, g2⟩, ⟨m0, m1, m2⟩, hz3⟩ := (HA1.out.older hb3).l.facts; obtain ⟨⟨x0, x1, x2⟩, _, _⟩ := (HA1.out.older hb3).p.facts; obtain ⟨⟨y0, y1, y2⟩, ⟨n0, n1, n2⟩, hz4⟩ := (HA1.out.older hb3).z.facts)
          | (refine step_appw tyRPgs (by rfl) _ _ (by rfl) w1.heap.size (.slice a2 L.all.length q2) L.all.length (pvals L.all) (by rfl) hown2 (by first | omega | (simp; omega)) (.slice (some ⟨w1.heap.size, 0, none⟩) 1 1) 1 [.int .i64 k, .int .i64 t, .string ⟨s.toArray⟩] (by rfl) (SrcAt.one hP) (by rfl) (by simp [Value.oneCell']) (by omega) ?_; intro v3 w3 hown3 hgrow3 hlies3; obtain ⟨a3, q3, rfl, hq3⟩ := hown3.form; have hb3 : Below w1.heap.size w1 w3 := below_grown hb2 hgrow3 (by first | omega | (simp; omega)) (fun q hq => (hown2.lt q hq).1); obtain ⟨⟨g0, g1, g2⟩, ⟨m0, m1, m2⟩, hz3⟩ := (HA1.out.older hb3).l.facts; obtain ⟨⟨x0, x1, x2⟩, _, _⟩ := (HA1.out.older hb3).p.facts; obtain ⟨⟨y0, y1, y2⟩, ⟨n0, n1, n2⟩, hz4⟩ := (HA1.out.older hb3).z.facts)))
    all_goals
      go_wp2
      go_meet
      exact ⟨a3, q3, (own_setR hown3 (fun q hq => by have := (hown3.lt q hq).1; omega) 0 _).mono (fun q hq => by have := (hown3.lt q hq).1; omega), box3_set0 (HA1.out.older hb3).l _, (HA1.out.older hb3).z.other (by omega) 0 _, (HA1.out.older hb3).bel.setCell (Nat.le_refl _) _⟩
  case rest =>
    obtain ⟨a3, q3, hown, hbl, hbz, hbe⟩ := hcut
    obtain ⟨m, hm⟩ : ∃ m : Nat, max (L.dropped : Int) ((L.all.length : Int) + 1 - (L.win : Int)) = (m : Int) := ⟨(max (L.dropped : Int) ((L.all.length : Int) + 1 - (L.win : Int))).toNat, by omega⟩
    have HM := Lib.hid (show m = (L.push ⟨k, t, s⟩).dropped by show m = max L.dropped (L.all.length + 1 - L.win); omega)
    have hw2 : L.win ≤ 1024 := ho.win2
    have HO := Lib.hid hown
    have HBE := Lib.hid hbe
    have HN1 := Lib.hid (own_neT hbl hown (by decide))
    have HN2 := Lib.hid (own_neT hbz hown (by decide))
    have HBL := Lib.hid hbl
    have HE := Lib.hid (show pvals (L.push ⟨k, t, s⟩).all = pvals L.all ++ [.int .i64 k, .int .i64 t, .string ⟨s.toArray⟩] by show pvals (L.all ++ [_]) = _; rw [pvals_append, pvals_one]; rfl)
    have HLn := Lib.hid (show (L.push ⟨k, t, s⟩).all.length = L.all.length + 1 by show (L.all ++ [_]).length = _; simp)
    obtain ⟨⟨g0, g1, g2⟩, ⟨m0, m1, m2⟩, hz3⟩ := hbl.facts
    obtain ⟨⟨y0, y1, y2⟩, ⟨n0, n1, n2⟩, hz4⟩ := hbz.facts
    clear hown hbe hbl hbz ho
    go_wp2
    go_region
    all_goals
      go_wp2
      refine bodyPost_ret (v := .tuple #[.agg #[.slice a3 (L.all.length + 1) q3, .int .i64 (m : Int), .int .i64 L.win], .int .i64 ((L.all.length : Int) + 1), .int .i64 0]) (by simp [results, Tryd.results54, go_sem, y0, y1, y2]) rfl ⟨.slice a3 (L.all.length + 1) q3, ?_, ?_, ?_⟩
      · rw [HM.out]; rfl
      · unfold RefOwn
        rw [HLn.out, HE.out]
        exact (own_setR (own_setR (own_setR (own_setR HO.out HN1.out _ _) HN2.out _ _) HN2.out _ _) HN2.out _ _).drew
      · exact ((((HBE.out.setCell (p := ⟨w.heap.size, 1, none⟩) (Nat.le_refl _) _).setCell (p := ⟨w.heap.size + 1 + 1, 0, none⟩) (by show w.heap.size ≤ w.heap.size + 1 + 1; omega) _).setCell (p := ⟨w.heap.size + 1 + 1, 1, none⟩) (by show w.heap.size ≤ w.heap.size + 1 + 1; omega) _).setCell (p := ⟨w.heap.size + 1 + 1, 2, none⟩) (by show w.heap.size ≤ w.heap.size + 1 + 1; omega) _).drew
end A1
end Go.Proofs.YtijjggbiljkalaaDoor
