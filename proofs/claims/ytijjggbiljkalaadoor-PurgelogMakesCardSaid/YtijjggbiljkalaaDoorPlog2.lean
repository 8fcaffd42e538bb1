/- Contracts: purgelog's Get, Since. Conditions: logs of at most a million entries. -/
import Derived.Test.YtijjggbiljkalaaDoorPlog1
namespace Go.Proofs.YtijjggbiljkalaaDoor
open Go.RowKit Pl Ad
attribute [local go_sem] ba_get ba_append ba_extract_end ba_extract_zero ba_extract
set_option maxRecDepth 100000
set_option maxHeartbeats 4000000
set_option linter.unusedVariables false
namespace A1
/-- No purge. -/
@[reducible] def noPg : Value := .agg #[.int .i64 0, .int .i64 0, .string ⟨#[]⟩]

theorem plogGet_low (R : Nat) (n : Int) (w : World) (hn : n < 1) :
    Calls Tryd.prog 25 #[ptrV R, .int .i64 n] w fun e w' => e = .returned (.tuple #[noPg, .iface 29 (.int .i64 3)]) ∧ Below w.heap.size w w' := by
  go_enter Tryd.func25, Tryd.ntmps25
  go_wp2_with fail
  refine bodyPost_ret (v := .tuple #[noPg, .iface 29 (.int .i64 3)]) (by simp [results, Tryd.results25, go_sem]) rfl ⟨rfl, ?_⟩
  exact (Below.refl _ _).alloc (Nat.le_refl _) _
theorem plogGet_high (B R : Nat) (v : Value) (L : LogM) (n : Int) (w : World) (h : LogAt w B R v L) (ho : L.Ok) (hl : L.all.length ≤ 1000000) (h1 : 1 ≤ n) (hn : (L.all.length : Int) < n) :
    Calls Tryd.prog 25 #[ptrV R, .int .i64 n] w fun e w' => e = .returned (.tuple #[noPg, .iface 29 (.int .i64 3)]) ∧ Below w.heap.size w w' := by
  have HL := Lib.hid (h.below ((Below.refl w.heap.size w).alloc (Nat.le_refl _) (.cells #[.int .i64 0, .int .i64 0, .string ⟨#[]⟩] 37)))
  have HD := Lib.hid ho.drop
  clear h ho
  go_enter Tryd.func25, Tryd.ntmps25
  go_wp2_with (go_at_call 17; refine (plogLast_any B R _ L _ HL.out HD.out hl).mono ?_; rintro e w3 ⟨rfl, q, rfl⟩)
  refine bodyPost_ret (v := .tuple #[noPg, .iface 29 (.int .i64 3)]) (by simp [results, Tryd.results25, go_sem]) rfl ⟨rfl, ?_⟩
  (repeat (first | exact Below.refl _ _ | (refine Below.setCell ?_ (by simp) _) | (refine below_drewN ?_ _) | (refine Below.drew ?_) | (refine Below.alloc ?_ (by simp) _)))
theorem plogGet_old (B R : Nat) (v : Value) (L : LogM) (n : Int) (w : World) (h : LogAt w B R v L) (ho : L.Ok) (hl : L.all.length ≤ 1000000) (h1 : 1 ≤ n) (hn : n ≤ (L.all.length : Int)) (hd : n ≤ (L.dropped : Int)) :
    Calls Tryd.prog 25 #[ptrV R, .int .i64 n] w fun e w' => e = .returned (.tuple #[noPg, .iface 29 (.int .i64 15)]) ∧ Below w.heap.size w w' := by
  have HL := Lib.hid (h.below ((Below.refl w.heap.size w).alloc (Nat.le_refl _) (.cells #[.int .i64 0, .int .i64 0, .string ⟨#[]⟩] 37)))
  have HD := Lib.hid ho.drop
  obtain ⟨⟨c0, c1, c2⟩, _, hz⟩ := HL.out.box.facts
  clear h ho
  go_enter Tryd.func25, Tryd.ntmps25
  go_wp2_with (go_at_call 17; refine (plogLast_any B R _ L _ HL.out HD.out hl).mono ?_; rintro e w3 ⟨rfl, q, rfl⟩)
  refine bodyPost_ret (v := .tuple #[noPg, .iface 29 (.int .i64 15)]) (by simp [results, Tryd.results25, go_sem]) rfl ⟨rfl, ?_⟩
  (repeat (first | exact Below.refl _ _ | (refine Below.setCell ?_ (by simp) _) | (refine below_drewN ?_ _) | (refine Below.drew ?_) | (refine Below.alloc ?_ (by simp) _)))
theorem plogGet_ok (B R : Nat) (v : Value) (L : LogM) (n : Int) (w : World) (h : LogAt w B R v L) (ho : L.Ok) (hl : L.all.length ≤ 1000000) (hn : n ≤ (L.all.length : Int)) (hd : (L.dropped : Int) < n) (p : Pg) (hp : L.all[(n - 1).toNat]? = some p) :
    Calls Tryd.prog 25 #[ptrV R, .int .i64 n] w fun e w' => e = .returned (.tuple #[pgV p, .nilIface]) ∧ Below w.heap.size w w' := by
  obtain ⟨pk, pt, ps⟩ := p
  have HL := Lib.hid (h.below ((Below.refl w.heap.size w).alloc (Nat.le_refl _) (.cells #[.int .i64 0, .int .i64 0, .string ⟨#[]⟩] 37)))
  have HD := Lib.hid ho.drop
  have hkl := L.kept_len
  obtain ⟨j, hj⟩ : ∃ j : Nat, (n - ((L.dropped : Int) + 1)).toNat = j := ⟨_, rfl⟩
  have hjk : j < L.kept.length := by omega
  have hkj : L.kept[j] = ⟨pk, pt, ps⟩ := by
    have : L.kept[j]? = some ⟨pk, pt, ps⟩ := by
      unfold LogM.kept
      rw [List.getElem?_drop, ← hp]
      congr 1; omega
    rw [List.getElem?_eq_getElem hjk] at this
    exact Option.some.inj this
  obtain ⟨b, o, c, rfl, hc, hcm, hb, hbz, hcell⟩ := h.own.cells (by omega)
  have hcell1 := HL.out.own.cells (by omega)
  obtain ⟨b', o', c', e', _, _, _, _, hcell'⟩ := hcell1
  cases e'
  obtain ⟨p0, p1, p2⟩ := pvals_get hjk
  rw [hkj] at p0 p1 p2
  have q0 := hcell' _ _ p0
  have q1 := hcell' _ _ p1
  have q2 := hcell' _ _ p2
  rw [← Nat.add_assoc] at q1 q2
  obtain ⟨⟨c0, c1, c2⟩, _, hz⟩ := HL.out.box.facts
  have hn' : n = (j : Int) + (L.dropped : Int) + 1 := by omega
  subst hn'
  have i1 : IntKind.i64.wrap ((j : Int) + (L.dropped : Int) + 1 - ((L.dropped : Int) + 1)) = (j : Int) := by rw [show (j : Int) + (L.dropped : Int) + 1 - ((L.dropped : Int) + 1) = (j : Int) by omega]; exact IntWalk.i64_in _ (by omega)
  have HR := Lib.hid h.own.lt
  have n1 : b < w.heap.size := hbz
  clear h ho hp hcell hcell' p0 p1 p2 hkj hj hkl
  go_enter Tryd.func25, Tryd.ntmps25
  go_wp2_with (go_at_call 17; refine (plogLast_any B R _ L _ HL.out HD.out hl).mono ?_; rintro e w3 ⟨rfl, q, rfl⟩)
  go_region
  all_goals
    go_wp2
    refine bodyPost_ret (v := .tuple #[.agg #[.int .i64 pk, .int .i64 pt, .string ⟨ps.toArray⟩], .nilIface]) (by simp [results, Tryd.results25, go_sem]) rfl ⟨rfl, ?_⟩
    (repeat (first | exact Below.refl _ _ | (refine Below.setCell ?_ (by simp) _) | (refine below_drewN ?_ _) | (refine Below.drew ?_) | (refine Below.alloc ?_ (by simp) _)))
/-- What Get returns. -/
def getP (L : LogM) (n : Int) : Pg := if L.getC n = 0 then L.all.getD (n - 1).toNat ⟨0, 0, []⟩ else ⟨0, 0, []⟩
theorem plogGet_any (B R : Nat) (v : Value) (L : LogM) (n : Int) (w : World) (h : LogAt w B R v L) (ho : L.Ok) (hl : L.all.length ≤ 1000000) :
    Calls Tryd.prog 25 #[ptrV R, .int .i64 n] w fun e w' => e = .returned (.tuple #[pgV (getP L n), codeV (L.getC n)]) ∧ Below w.heap.size w w' := by
  by_cases h1 : n < 1
  · have e : L.getC n = 3 := if_pos (.inl h1)
    refine (plogGet_low R n w h1).mono fun _ _ h => ?_
    unfold getP; rw [e]; exact h
  by_cases h2 : (L.all.length : Int) < n
  · have e : L.getC n = 3 := if_pos (.inr h2)
    refine (plogGet_high B R v L n w h ho hl (by omega) h2).mono fun _ _ h => ?_
    unfold getP; rw [e]; exact h
  by_cases h3 : n ≤ (L.dropped : Int)
  · have e : L.getC n = 15 := by unfold LogM.getC; rw [if_neg (by omega), if_pos h3]
    refine (plogGet_old B R v L n w h ho hl (by omega) (by omega) h3).mono fun _ _ h => ?_
    unfold getP; rw [e]; exact h
  · have e : L.getC n = 0 := by unfold LogM.getC; rw [if_neg (by omega), if_neg h3]
    have hlt : (n - 1).toNat < L.all.length := by omega
    refine (plogGet_ok B R v L n w h ho hl (by omega) (by omega) _ (List.getElem?_eq_getElem hlt)).mono fun _ _ h => ?_
    unfold getP; rw [e, if_pos rfl, List.getD_eq_getElem?_getD, List.getElem?_eq_getElem hlt]; exact h

theorem plogSince_err1 (R : Nat) (n : Int) (w : World) (hn : n < 0) :
    Calls Tryd.prog 40 #[ptrV R, .int .i64 n] w fun e w' => e = .returned (.tuple #[.slice none 0 0, .iface 29 (.int .i64 1)]) ∧ w = w' := by
  go_enter Tryd.func40, Tryd.ntmps40
  go_wp2_with fail
  go_ret2
  exact ⟨rfl, rfl⟩
theorem plogSince_nil (B R : Nat) (v : Value) (L : LogM) (n : Int) (w : World) (h : LogAt w B R v L) (ho : L.Ok) (hl : L.all.length ≤ 1000000) (h0 : 0 ≤ n) (hn : (L.all.length : Int) ≤ n) :
    Calls Tryd.prog 40 #[ptrV R, .int .i64 n] w fun e w' => e = .returned (.tuple #[.slice none 0 0, .nilIface]) ∧ Below w.heap.size w w' := by
  have HL := Lib.hid h
  have HD := Lib.hid ho.drop
  clear h ho
  go_enter Tryd.func40, Tryd.ntmps40
  go_wp2_with (go_at_call 17; refine (plogLast_any B R _ L _ HL.out HD.out hl).mono ?_; rintro e w3 ⟨rfl, q, rfl⟩)
  go_ret2
  exact ⟨rfl, below_drewN (Below.refl _ _) _⟩
theorem plogSince_old (B R : Nat) (v : Value) (L : LogM) (n : Int) (w : World) (h : LogAt w B R v L) (ho : L.Ok) (hl : L.all.length ≤ 1000000) (h0 : 0 ≤ n) (hn : n < (L.all.length : Int)) (hd : n < L.dropped) :
    Calls Tryd.prog 40 #[ptrV R, .int .i64 n] w fun e w' => e = .returned (.tuple #[.slice none 0 0, .iface 29 (.int .i64 15)]) ∧ Below w.heap.size w w' := by
  have HL := Lib.hid h
  have HD := Lib.hid ho.drop
  obtain ⟨⟨c0, c1, c2⟩, _, hz⟩ := HL.out.box.facts
  have hd2 : n + 1 < (L.dropped : Int) + 1 := by omega
  clear h ho
  go_enter Tryd.func40, Tryd.ntmps40
  go_wp2_with (go_at_call 17; refine (plogLast_any B R _ L _ HL.out HD.out hl).mono ?_; rintro e w3 ⟨rfl, q, rfl⟩)
  go_ret2
  exact ⟨rfl, below_drewN (Below.refl _ _) _⟩
theorem own_empty {w : World} {g B size : Nat} {e : TypeId} (h : w.heap[g]? = some (.cells #[] e (0, 0))) (hB : B ≤ g) : OwnWin w B e size (.slice (some ⟨g, 0, none⟩) 0 0) 0 [] :=
  ⟨by simp, .inr ⟨g, 0, 0, #[], rfl, hB, h, Nat.le_refl _, Nat.zero_le _, by simp, by simp⟩⟩
theorem below_grown {w w1 w2 : World} {B : Nat} {row : Option Nat} (hb : Below B w w1) (hg : w1.grownBy w2 row) (hB : B ≤ w1.heap.size) (hr : ∀ q, row = some q → B ≤ q) : Below B w w2 := hb.grown hg hB hr
theorem since_kept {L : LogM} {j : Nat} {n : Int} (hj : n = (j : Int) + L.dropped) (h : (j : Int) + L.dropped < L.all.length) : L.since n = L.kept.drop j := by
  unfold LogM.since LogM.kept
  rw [if_neg (by omega), List.drop_drop, hj]
  congr 1; omega
theorem plogLast_log (B R : Nat) (v : Value) (L : LogM) (w : World) (h : LogAt w B R v L) (hd : L.dropped ≤ L.all.length) (hl : L.all.length ≤ 1000000) :
    Calls Tryd.prog 17 #[ptrV R] w fun e w' => e = .returned (.int .i64 L.all.length) ∧ LogAt w' B R v L ∧ Below w.heap.size w w' :=
  (plogLast_any B R v L w h hd hl).mono fun e w' he => by
    obtain ⟨h1, q, h2⟩ := he
    subst h2
    exact ⟨h1, h.below (below_drewN (Below.refl _ _) q), below_drewN (Below.refl _ _) q⟩
theorem plogSince_ok (B R : Nat) (v : Value) (L : LogM) (n : Int) (w : World) (h : LogAt w B R v L) (ho : L.Ok) (hl : L.all.length ≤ 1000000) (hn : n < (L.all.length : Int)) (hd : (L.dropped : Int) ≤ n) :
    Calls Tryd.prog 40 #[ptrV R, .int .i64 n] w fun e w' => ∃ u, e = .returned (.tuple #[u, .nilIface]) ∧ OwnWin w' w.heap.size 37 3 u (L.since n).length (pvals (L.since n)) ∧ Below w.heap.size w w' := by
  have HL := Lib.hid h
  have HD := Lib.hid ho.drop
  have hkl := L.kept_len
  obtain ⟨j, hj⟩ : ∃ j : Nat, n = (j : Int) + L.dropped := ⟨(n - L.dropped).toNat, by omega⟩
  have HS := Lib.hid (since_kept hj (by omega))
  subst hj
  have hjk : j < L.kept.length := by omega
  have hkm : L.kept.length ≤ 1000000 := by omega
  obtain ⟨b, o, c, rfl, hc, hcm, hb, hbz, hcell⟩ := h.own.cells (by omega)
  have hjc : j < c := by omega
  have i0 : IntKind.i64.wrap ((j : Int) + (L.dropped : Int) + 1) = (j : Int) + (L.dropped : Int) + 1 := IntWalk.i64_in _ (by omega)
  have i1 : IntKind.i64.wrap ((j : Int) + (L.dropped : Int) + 1 - ((L.dropped : Int) + 1)) = (j : Int) := by rw [show (j : Int) + (L.dropped : Int) + 1 - ((L.dropped : Int) + 1) = (j : Int) by omega]; exact IntWalk.i64_in _ (by omega)
  clear h ho hcell hkl hcm
  go_enter Tryd.func40, Tryd.ntmps40
  go_wp2_with (go_at_call 17; refine (plogLast_log B R _ L _ HL.out HD.out hl).mono ?_; rintro e w1 ⟨rfl, hl1, hb1⟩; obtain ⟨⟨c0, c1, c2⟩, _, hz⟩ := hl1.box.facts; have HL1 := Lib.hid hl1; have HB1 := Lib.hid hb1; clear hl1 hb1)
  have HSrc := Lib.hid (HL1.out.own.drop (k := j) rfl (by omega) hjc)
  rw [pvals_drop] at HSrc
  have hne : ¬ c = j := by omega
  have hle : j ≤ L.kept.length := by omega
  go_region_law ((refine step_appw tyPgs (by rfl) _ _ (by rfl) w1.heap.size (.slice (some ⟨w1.heap.size, 0, none⟩) 0 0) 0 [] (by rfl) (own_empty (heap_alloc_new w1 _) (Nat.le_refl _)).drew (by simp) (.slice (some ⟨b, o + j * 3, none⟩) (L.kept.length - j) (c - j)) (L.kept.length - j) (pvals (L.kept.drop j)) (by rfl) (SrcAt.of (HSrc.out.alloc _).drew) (by rw [pvals_len, List.length_drop]) (pvals_oneCell _) (by omega) ?_; intro v' w2 hown2 hgrow2 hlies2; rw [Nat.zero_add, List.nil_append] at hown2; obtain ⟨a2, q2, rfl, hq2⟩ := hown2.form))
  all_goals
    go_wp2
    go_ret2
    have hsz := HB1.out.size
    refine ⟨.slice a2 (L.kept.length - j) q2, rfl, ?_, below_grown (HB1.out.alloc hsz _).drew hgrow2 (by simp; omega) (fun q hq => by simp [Value.ownBlock] at hq; omega)⟩
    rw [HS.out, List.length_drop]
    exact hown2.mono (fun k hk => by have := (hown2.lt k hk).1; omega)
theorem own_nil (w : World) (B : Nat) (e : TypeId) {l : List Pg} (h : l = []) : OwnWin w B e 3 (.slice none 0 0) l.length (pvals l) := by subst h; exact OwnWin.nil _ _ _ _
theorem plogSince_any (B R : Nat) (v : Value) (L : LogM) (n : Int) (w : World) (h : LogAt w B R v L) (ho : L.Ok) (hl : L.all.length ≤ 1000000) :
    Calls Tryd.prog 40 #[ptrV R, .int .i64 n] w fun e w' => ∃ u, e = .returned (.tuple #[u, codeV (L.sinceC n)]) ∧ OwnWin w' w.heap.size 37 3 u (L.since n).length (pvals (L.since n)) ∧ Below w.heap.size w w' := by
  by_cases h1 : n < 0
  · have e : L.sinceC n = 1 := if_pos h1
    refine (plogSince_err1 R n w h1).mono fun _ w' h => ?_
    obtain ⟨rfl, rfl⟩ := h
    exact ⟨_, by rw [e]; rfl, own_nil _ _ _ (if_pos (.inl h1)), Below.refl _ _⟩
  by_cases h2 : (L.all.length : Int) ≤ n
  · have e : L.sinceC n = 0 := by unfold LogM.sinceC; rw [if_neg h1, if_pos h2]
    refine (plogSince_nil B R v L n w h ho hl (by omega) h2).mono fun _ w' h => ?_
    obtain ⟨rfl, hb⟩ := h
    exact ⟨_, by rw [e]; rfl, own_nil _ _ _ (if_pos (.inr (.inl h2))), hb⟩
  by_cases h3 : n < (L.dropped : Int)
  · have e : L.sinceC n = 15 := by unfold LogM.sinceC; rw [if_neg h1, if_neg h2, if_pos h3]
    refine (plogSince_old B R v L n w h ho hl (by omega) (by omega) h3).mono fun _ w' h => ?_
    obtain ⟨rfl, hb⟩ := h
    exact ⟨_, by rw [e]; rfl, own_nil _ _ _ (if_pos (.inr (.inr h3))), hb⟩
  · have e : L.sinceC n = 0 := by unfold LogM.sinceC; rw [if_neg h1, if_neg h2, if_neg h3]
    refine (plogSince_ok B R v L n w h ho hl (by omega) (by omega)).mono fun _ w' h => ?_
    obtain ⟨u, rfl, ho, hb⟩ := h
    exact ⟨u, by rw [e]; rfl, ho, hb⟩
end A1
end Go.Proofs.YtijjggbiljkalaaDoor
