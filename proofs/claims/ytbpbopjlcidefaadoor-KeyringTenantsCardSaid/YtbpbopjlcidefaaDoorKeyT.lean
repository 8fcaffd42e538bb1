/- Contracts: the reference of the keyring: Add in one word, Revoke; the decimal text. Conditions: at most a million keys, texts of at most 2^31 bytes. -/
import Derived.Test.YtbpbopjlcidefaaDoorKeyS
namespace Go.Proofs.YtbpbopjlcidefaaDoor
open Go.RowKit Pl Ad
attribute [local go_sem] ba_get ba_append ba_extract_end ba_extract_zero ba_extract conv_one
set_option maxRecDepth 100000
set_option maxHeartbeats 4000000
set_option linter.unusedVariables false
set_option linter.unusedSimpArgs false
namespace Kr
theorem RefAt.mono {w : World} {B C : Nat} {v : Value} {ml : KL} (h : RefAt w C v ml) (hB : B ≤ C) : RefAt w B v ml := OwnWin.mono h fun q hq => Nat.le_trans hB (OwnWin.lt h q hq).1
theorem refAdd_any (B : Nat) (v : Value) (ml : KL) (t : Int) (id sec : Bs) (frm til : Int) (w : World) (h : RefAt w B v ml) (hB : B ≤ w.heap.size) (hi : id.length ≤ 2147483648) (hl : ml.length ≤ 1000000) :
    Calls Tryd.prog 17 #[v, rkeyV t ⟨id, sec, frm, til, 0⟩] w fun e w' => ∃ v', e = .returned (.tuple #[v', .int .i64 (addC t (per ml t) ⟨id, sec, frm, til, 0⟩)]) ∧ RefDone w w' B v' (addR ml t ⟨id, sec, frm, til, 0⟩) ∧ (addC t (per ml t) ⟨id, sec, frm, til, 0⟩ = 0 → RefAt w' w.heap.size v' (addR ml t ⟨id, sec, frm, til, 0⟩)) := by
  obtain ⟨a, c, rfl, _⟩ := h.slot
  have bad : ∀ n : Int, ¬ n = 0 → addC t (per ml t) ⟨id, sec, frm, til, 0⟩ = n → ∀ (e : Ending) (w' : World), (e = .returned (.tuple #[.slice a ml.length c, .int .i64 n]) ∧ Below w.heap.size w w') →
      ∃ v', e = .returned (.tuple #[v', .int .i64 (addC t (per ml t) ⟨id, sec, frm, til, 0⟩)]) ∧ RefDone w w' B v' (addR ml t ⟨id, sec, frm, til, 0⟩) ∧ (addC t (per ml t) ⟨id, sec, frm, til, 0⟩ = 0 → RefAt w' w.heap.size v' (addR ml t ⟨id, sec, frm, til, 0⟩)) := fun n hn ha e w' hx => by
    refine ⟨_, by rw [hx.1, ha], ⟨?_, hx.2⟩, fun h0 => absurd (ha.symm.trans h0) hn⟩
    unfold addR
    rw [ha, if_neg hn]
    exact h.older hx.2
  cases hn : idOk id with
  | false => exact (refAdd_name B a c ml t id sec frm til w h hB hi hl hn).mono (bad 8 (by decide) (addC_name hn))
  | true =>
    cases hg : rngK t ⟨id, sec, frm, til, 0⟩ with
    | true => exact (refAdd_rng B a c ml t id sec frm til w h hB hi hl hn hg).mono (bad 1 (by decide) (addC_rng hn hg))
    | false =>
      by_cases ho : til ≤ frm
      · exact (refAdd_ord B a c ml t id sec frm til w h hB hi hl hn hg ho).mono (bad 7 (by decide) (addC_ord hn hg ho))
      · cases hx : findR ml t id with
        | some i => exact (refAdd_has B a c ml t id sec frm til w h hB hi hl hn hg ho i hx).mono (bad 4 (by decide) (addC_has hn hg ho (by rw [hasR, hx]; rfl)))
        | none =>
          have ha := addC_ok hn hg ho (show hasId (per ml t) id = false by rw [hasR, hx]; rfl)
          refine (refAdd_ok B a c ml t id sec frm til w h hB hi hl hn hg ho hx).mono fun e w' he => ?_
          obtain ⟨v', rfl, hr⟩ := he
          have he := hr.ref
          rw [show ml ++ [(t, ⟨id, sec, frm, til, 1099511627777⟩)] = addR ml t ⟨id, sec, frm, til, 0⟩ by unfold addR; rw [if_pos ha]; rfl] at he
          exact ⟨v', by rw [ha], ⟨he.mono hB, hr.bel⟩, fun _ => he⟩
/-- A cell of a slice of the call's own is written. -/
theorem own_put {w : World} {B e size b o n c j : Nat} {xs : List Value} (h : OwnWin w B e size (.slice (some ⟨b, o, none⟩) n c) n xs) (hj : j < n * size) (u : Value) : OwnWin (w.setCell ⟨b, o + j, none⟩ u) B e size (.slice (some ⟨b, o, none⟩) n c) n (xs.set j u) := by
  rcases h.2 with ⟨h0, _⟩ | ⟨g, o', cap, cur, h1, hb, hg, h2, h3, h4, h5⟩
  · cases h0
  · cases h1
    refine ⟨by rw [List.length_set]; exact h.1, .inr ⟨b, o, c, cur.setIfInBounds (o + j) u, rfl, hb, ?_, h2, h3, by simpa using h4, ?_⟩⟩
    · exact Bx.set (R := b) hg (o + j) u
    · have hle : n * size ≤ c * size := Nat.mul_le_mul_right _ h2
      apply List.ext_getElem?
      intro i
      rw [List.getElem?_take, ← h5]
      by_cases hi : i < n * size
      · rw [if_pos hi, List.getElem?_drop, Array.getElem?_toList]
        by_cases e' : j = i
        · subst e'
          rw [Array.getElem?_setIfInBounds_self_of_lt (by omega), List.getElem?_set_self (by simp; omega)]
        · rw [Array.getElem?_setIfInBounds_ne (by omega), List.getElem?_set_ne e', List.getElem?_take, if_pos hi, List.getElem?_drop, Array.getElem?_toList]
      · rw [if_neg hi, List.getElem?_eq_none]
        simp
        omega
theorem kvals_set : ∀ {ml : KL} {i j : Nat} {e e' : Int × KeyM} {u : Value}, ml[i]? = some e → j < 6 → kcells e' = (kcells e).set j u → (kvals ml).set (i * 6 + j) u = kvals (ml.set i e')
  | [], i, j, e, e', u, h, _, _ => by simp at h
  | x :: r, 0, j, e, e', u, h, hj, he => by
    simp at h
    subst h
    unfold kvals
    rw [List.flatMap_cons, List.set_append_left _ _ (by rw [kcells_len]; omega), List.set_cons_zero, List.flatMap_cons, he, Nat.zero_mul, Nat.zero_add]
  | x :: r, i + 1, j, e, e', u, h, hj, he => by
    have ih := kvals_set (ml := r) (i := i) (j := j) (e := e) (e' := e') (u := u) (by simpa using h) hj he
    unfold kvals at ih ⊢
    rw [List.flatMap_cons, List.set_append_right _ _ (by rw [kcells_len]; omega), List.set_cons_succ, List.flatMap_cons, kcells_len, ← ih]
    congr 2
    omega
theorem refAt_put {w : World} {B b o i j c : Nat} {ml : KL} {e e' : Int × KeyM} {u : Value} (h : RefAt w B (.slice (some ⟨b, o, none⟩) ml.length c) ml) (he : ml[i]? = some e) (hj : j < 6) (hc : kcells e' = (kcells e).set j u) : RefAt (w.setCell ⟨b, o + i * 6 + j, none⟩ u) B (.slice (some ⟨b, o, none⟩) ml.length c) (ml.set i e') := by
  have hi := (List.getElem?_eq_some_iff.1 he).1
  unfold RefAt
  rw [List.length_set, ← kvals_set he hj hc, Nat.add_assoc]
  exact own_put h (by have : (i + 1) * 6 ≤ ml.length * 6 := Nat.mul_le_mul_right _ hi; omega) u
theorem revR_none {ml : KL} {t : Int} {id : Bs} {x : Int} (h : findR ml t id = none) : revR ml t id x = ml := by unfold revR; rw [h]
theorem revR_some {ml : KL} {t : Int} {id : Bs} {x : Int} {i : Nat} {k : KeyM} (h : findR ml t id = some i) (hk : ml[i]? = some (t, k)) : revR ml t id x = ml.set i (t, revK x k) := by
  unfold revR; rw [h]; exact modifyR_at _ hk
theorem refRevoke_any (B : Nat) (v : Value) (ml : KL) (t : Int) (id : Bs) (x : Int) (w : World) (h : RefAt w B v ml) (hB : B ≤ w.heap.size) (hl : ml.length ≤ 1000000) :
    Calls Tryd.prog 19 #[v, .int .i64 t, .string ⟨id.toArray⟩, .int .i64 x] w fun e w' => ∃ v', e = .returned (.tuple #[v', .int .i64 (revC (per ml t) id)]) ∧ RefDone w w' B v' (revR ml t id x) := by
  have HR := Lib.hid h
  obtain ⟨a, c, rfl, hk⟩ := h.slot
  obtain ⟨o, ho⟩ : ∃ o, findR ml t id = o := ⟨_, rfl⟩
  have HO := Lib.hid ho
  cases o with
  | none =>
    have HC := Lib.hid (show revC (per ml t) id = 3 by unfold revC; rw [hasR, ho]; rfl)
    have HI := Lib.hid (show idxV (findR ml t id) = .int .i64 (-1) by rw [ho]; rfl)
    clear ho h hk
    go_enter Tryd.func19, Tryd.ntmps19
    go_wp2_with (go_at_call 32; refine (refFind_any B _ ml t id _ HR.out hl).mono ?_; rw [HI.out]; rintro e w' ⟨rfl, rfl⟩)
    go_ret2
    exact ⟨_, by rw [HC.out]; rfl, by rw [revR_none HO.out]; exact HR.out, Below.refl _ _⟩
  | some i =>
    obtain ⟨key, h1, _⟩ := findR_some ho
    have hi := (List.getElem?_eq_some_iff.1 h1).1
    have HC := Lib.hid (show revC (per ml t) id = 0 by unfold revC; rw [hasR, ho]; rfl)
    have HI := Lib.hid (show idxV (findR ml t id) = .int .i64 i by rw [ho]; rfl)
    have HH := Lib.hid h1
    have hi1 : (0 : Int) ≤ (i : Int) := by omega
    have hi2 : (i : Int) < (ml.length : Int) := by omega
    clear ho h hk h1
    go_enter Tryd.func19, Tryd.ntmps19
    go_wp2_with (first | (go_at_call 32; refine (refFind_any B _ ml t id _ HR.out hl).mono ?_; rw [HI.out]; rintro e w' ⟨rfl, rfl⟩) | (at_builtin; refine wpList_appw tyRefs rfl _ _ rfl w.heap.size (.slice (some ⟨w.heap.size, 0, none⟩) 0 0) 0 [] rfl (ownK_empty (heap_alloc_new w _) (Nat.le_refl _)) (by simp) (.slice a ml.length c) ml.length (kvals ml) rfl (SrcAt.of (HR.out.older ((Below.refl _ _).alloc (Nat.le_refl _) _))) (by rw [kvals_len]) (kvals_one _) (by omega) ?_; intro v' w2 hown2 hgrow2 hlies2; rw [Nat.zero_add, List.nil_append] at hown2))
    have hr2 : RefAt w2 w.heap.size v' ml := hown2
    obtain ⟨b, o, q, hv', hq1, hq2, hq3, hq4, _⟩ := OwnWin.cells hr2 (by omega)
    subst hv'
    have HB2 := Lib.hid (belowK_grown ((Below.refl w.heap.size w).alloc (Nat.le_refl _) _) hgrow2 (by simp) (fun q hq => by simp [Value.ownBlock] at hq; omega))
    obtain ⟨a', c', e', hrow⟩ := hr2.slot
    cases e'
    obtain ⟨b', o', e', _, _, ⟨c0, c1, c2, c3, c4, c5⟩⟩ := hrow i _ HH.out
    cases e'
    have HR2 := Lib.hid hr2
    have f5 : w2.frozen? ⟨b, o + i * 6 + 5, none⟩ = false := by
      rcases hown2.2 with ⟨h0, _⟩ | ⟨g, o'', cap, cur, h0, _, hg, _⟩
      · cases h0
      · cases h0; exact Bx.frz hg _
    simp only at c5
    have c5' : w2.drew.cell? ⟨b, o + i * 6 + 5, none⟩ = some (.int .i64 key.rev) := c5
    have f5' : w2.drew.frozen? ⟨b, o + i * 6 + 5, none⟩ = false := f5
    clear hr2 hown2 hgrow2 hlies2 hrow c0 c1 c2 c3 c4
    refine wp_region_still_tail 12 (by kernel_rfl) (by kernel_rfl) ?_
    simp only [List.take_succ_cons, List.take_zero, List.drop_succ_cons, List.drop_zero]
    repeat still_step
    still_call ((refClip_any x 0 1099511627776 _).mono fun _ _ h => ⟨h.1, h.2.symm⟩)
    repeat still_step
    refine wpStill_nil ?_
    change wpList _ _ _ _ _ w2.drew
    go_wp2
    go_ret2
    refine ⟨_, by rw [HC.out]; rfl, ?_, ?_⟩
    · rw [revR_some HO.out HH.out]
      exact (refAt_put (HR2.out.older (Below.refl _ _).drew) HH.out (by decide) rfl).mono hB
    · exact HB2.out.drew.setCell (p := ⟨b, _, none⟩) hq3 _
end Kr
end Go.Proofs.YtbpbopjlcidefaaDoor
