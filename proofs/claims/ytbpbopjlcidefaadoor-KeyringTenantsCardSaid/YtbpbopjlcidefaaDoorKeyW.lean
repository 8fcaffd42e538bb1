/- Contract: the reference of the keyring: IDs. Conditions: at most a million keys. -/
import Derived.Test.YtbpbopjlcidefaaDoorKeyV
import Derived.Test.YtbpbopjlcidefaaDoorKeyU
import Derived.Deep.LoopGhost
namespace Go.Proofs.YtbpbopjlcidefaaDoor
open Go.RowKit Pl Ad
attribute [local go_sem] ba_get ba_append ba_extract_end ba_extract_zero ba_extract
set_option maxRecDepth 100000
set_option maxHeartbeats 4000000
set_option linter.unusedVariables false
set_option linter.unusedSimpArgs false
namespace Kr
theorem svals_drop (l : List Bs) (k : Nat) : (svals l).drop k = svals (l.drop k) := by simp [svals]
theorem svals_take (l : List Bs) (k : Nat) : (svals l).take k = svals (l.take k) := by simp [svals]
theorem own_cut {w : World} {B e n j c : Nat} {a : Option Addr} {xs : List Value} (h : OwnWin w B e 1 (.slice a n c) n xs) (hj : j ≤ n) : OwnWin w B e 1 (.slice a j j) j (xs.take j) := by
  have h1 := h.1
  refine ⟨by rw [List.length_take]; omega, ?_⟩
  rcases h.2 with ⟨h0, hn⟩ | ⟨g, o, cap, cur, h0, hb, hg, h2, h3, h4, h5⟩
  · cases h0
    obtain rfl : j = 0 := by omega
    exact .inl ⟨rfl, rfl⟩
  · cases h0
    refine .inr ⟨g, o, j, cur, rfl, hb, hg, Nat.le_refl _, by omega, by omega, ?_⟩
    rw [← h5, List.take_take]
    congr 1; omega
theorem srcAt_alloc {w : World} {u : Value} {m : Nat} {C : List Value} (h : SrcAt w u m C) (o : Obj) : SrcAt (w.alloc o) u m C := by
  rcases h with h | ⟨a, c, h1, h2⟩
  · exact .inl h
  · exact .inr ⟨a, c, h1, fun j x hx => keepC ((Below.refl _ _).alloc (Nat.le_refl _) o) (h2 j x hx)⟩
theorem svals_get {l : List Bs} {j : Nat} (h : j < l.length) : (svals l)[j]? = some (str l[j]) := by simp [svals, h]
theorem all_more {l : List Bs} {x : Bs} {j : Nat} (hj : j < l.length) (h : (l.take j).all (fun y => Op.bytesLess y x) = true) (h2 : Op.bytesLess l[j] x = true) : (l.take (j + 1)).all (fun y => Op.bytesLess y x) = true := by
  rw [take_snoc hj, List.all_append, h]; simp [h2]
theorem refIDs_any (B : Nat) (v : Value) (ml : KL) (t : Int) (w : World) (h : RefAt w B v ml) (hl : ml.length ≤ 1000000) :
    Calls Tryd.prog 39 #[v, .int .i64 t] w fun e w' => ∃ u, e = .returned u ∧ OwnWin w' w.heap.size 9 1 u (idsL (per ml t)).length (svals (idsL (per ml t))) ∧ Below w.heap.size w w' := by
  obtain ⟨a, c, rfl, hk⟩ := h.slot
  have HK := Lib.hid hk
  clear h hk
  go_enter Tryd.func39, Tryd.ntmps39
  go_wp2_with fail
  go_loopg [11, 5, 6, 7, 8] ml.length (fun q iv s5 s6 s7 s8 wr => ∃ (k n : Nat) (va : Option Addr) (vc : Nat), iv = .int .i64 k ∧ k ≤ ml.length ∧ Hid (ml.length ≤ q + k) ∧ s5 = .slice va n vc ∧ Hid (n = (idsK ml t k).length) ∧ OwnWin wr w.heap.size 9 1 (.slice va n vc) n (svals (idsK ml t k)) ∧ Below w.heap.size w wr)
  case atStart => exact ⟨0, 0, none, 0, rfl, Nat.zero_le _, Lib.hid (by omega), rfl, Lib.hid (by rw [idsK_zero]; rfl), by rw [idsK_zero]; exact OwnWin.nil _ _ _ _, Below.refl _ _⟩
  case round =>
    obtain ⟨k, n, va, vc, rfl, hk, HQ, rfl, HN, hown, hbel⟩ := hrel
    have HO := Lib.hid hown
    have HB := Lib.hid hbel
    have hsz := hbel.size
    obtain ⟨gk1, hgk⟩ : ∃ gk1, gk = gk1 := ⟨_, rfl⟩
    have HGK := Lib.hid hgk
    clear hgk
    by_cases hlt : k < ml.length
    · obtain ⟨e, he⟩ : ∃ e, ml[k]? = some e := ⟨_, List.getElem?_eq_getElem hlt⟩
      obtain ⟨b, o, rfl, hc, hbl, hrow⟩ := HK.out k e he
      have HE := Lib.hid he
      have HROW := Lib.hid (hrow.older hbel)
      obtain ⟨c0, c1, c2, c3, c4, c5⟩ := hrow.older hbel
      clear hown hbel he hrow c2 c3 c4 c5
      obtain ⟨s, key⟩ := e
      simp only at c0 c1
      cases h1 : (s == t) with
      | false =>
        have h1' : (s != t) = true := by simp [bne, h1]
        have HF := Lib.hid (show idsK ml t (k + 1) = idsK ml t k from idsK_no HE.out (fun e => by subst e; simp at h1))
        go_wp2_with fail
        go_roundg (gk - 1)
        case rel => exact ⟨k + 1, n, va, vc, by go_num, by omega, Lib.hid (by have := HQ.out; omega), rfl, by rw [HF.out]; exact HN, by rw [HF.out]; exact HO.out, HB.out⟩
        case measure => have := HQ.out; omega
      | true =>
        have h1' : (s != t) = false := by simp [bne, h1]
        have HF := Lib.hid (show idsK ml t (k + 1) = insS key.id (idsK ml t k) from idsK_yes (by rw [HE.out, beq_iff_eq.1 h1]))
        obtain ⟨acc, hacc⟩ : ∃ acc, idsK ml t k = acc := ⟨_, rfl⟩
        have hn := HN.out
        rw [hacc] at hn HF
        have HO2 : Hid (OwnWin wr w.heap.size 9 1 (.slice va n vc) n (svals acc)) := Lib.hid (by rw [← hacc]; exact HO.out)
        have hak := idsK_len (ml := ml) (t := t) (k := k) hk
        rw [hacc] at hak
        subst hn
        have hal : acc.length ≤ 1000000 := by omega
        have hi1 : (0 : Int) ≤ (k : Int) := by omega
        have hi2 : (k : Int) < (ml.length : Int) := by omega
        clear hacc hak HO
        go_wp2_with fail
        go_loopg [7] acc.length (fun q jv wx => ∃ j d : Nat, jv = .int .i64 j ∧ j ≤ acc.length ∧ Hid (acc.length ≤ q + j) ∧ Hid ((acc.take j).all (fun y => Op.bytesLess y key.id) = true) ∧ wx = wr.drewN d)
        case atStart => exact ⟨0, 0, rfl, Nat.zero_le _, Lib.hid (by omega), Lib.hid rfl, rfl⟩
        case round =>
          obtain ⟨j, d, rfl, hj, HQ2, HA, rfl⟩ := hrel
          by_cases hlt2 : j < acc.length
          · obtain ⟨g, og, c', e', hg1, _, hg3, hg4, hg5⟩ := HO2.out.cells (by omega)
            cases e'
            have d0 := hg5 j _ (svals_get hlt2)
            have HMORE := Lib.hid (all_more hlt2 HA.out)
            have HY : Hid (acc[j]? = some acc[j]) := Lib.hid (List.getElem?_eq_getElem hlt2)
            generalize acc[j] = y at d0 HMORE HY
            have hj1 : (0 : Int) ≤ (j : Int) := by omega
            have hj2 : (j : Int) < (acc.length : Int) := by omega
            have hj3 : decide ((j : Int) < (acc.length : Int)) = true := decide_eq_true hj2
            clear hg5
            cases hb : Op.bytesLess y key.id with
            | true =>
              have HM := Lib.hid (HMORE.out hb)
              go_wp2_with fail
              go_quiet (fail)
              go_wp2_with fail
              go_roundg (gk - 1)
              case rel => exact ⟨j + 1, _, by go_num, by omega, Lib.hid (by have := HQ2.out; omega), HM, rfl⟩
              case measure => have := HQ2.out; omega
            | false =>
              have hne : ¬ vc = j := by omega
              have hjv : j ≤ vc := by omega
              have HINS := Lib.hid (insS_at hj HA.out (fun z hz => by rw [HY.out] at hz; cases hz; exact hb))
              go_wp2_with fail
              go_quiet (fail)
              obtain ⟨wA, hw9⟩ : ∃ wz, (wr.drewN d).drewN nq = wz := ⟨_, rfl⟩
              have hbA : Below wr.heap.size wr wA := by rw [← hw9]; exact below_drewN (below_drewN (Below.refl _ _) _) _
              rw [hw9]
              have HOA := Lib.hid (HO2.out.older hbA)
              have HBA := Lib.hid (HB.out.trans (hbA.mono hsz))
              have HRA := Lib.hid (HROW.out.older hbA)
              have hzA := HBA.out.size
              clear hw9 hbA c0 c1
              have HSRC := Lib.hid (show SrcAt wA (.slice (some ⟨g, og + j, none⟩) (acc.length - j) (vc - j)) (acc.length - j) (svals (acc.drop j)) by have h9 := SrcAt.of (HOA.out.drop (k := j) rfl (by omega) (by omega)); rw [Nat.mul_one, svals_drop] at h9; simpa using h9)
              go_wp2_with ((at_builtin; refine wpList_appw tyStrs rfl _ _ rfl wA.heap.size (.slice (some ⟨wA.heap.size, 0, none⟩) 0 0) 0 [] rfl (ownK_empty (heap_alloc_new wA _) (Nat.le_refl _)) (by simp) (.slice (some ⟨g, og + j, none⟩) (acc.length - j) (vc - j)) (acc.length - j) (svals (acc.drop j)) rfl (srcAt_alloc HSRC.out _) (by simp [svals_len]) (svals_one _) (by omega) ?_; intro v2 w2 hown2 hgrow2 hlies2; rw [Nat.zero_add, List.nil_append] at hown2))
              obtain ⟨a2, q2, rfl, _⟩ := hown2.form
              have hb2 := belowK_grown ((Below.refl wA.heap.size wA).alloc (Nat.le_refl _) _) hgrow2 (by simp) (fun q hq => by simp [Value.ownBlock] at hq; omega)
              have HB2 := Lib.hid (HBA.out.trans (hb2.mono HBA.out.size))
              have ha2 := ((Below.refl w2.heap.size w2).alloc (Nat.le_refl _) (.cells #[.string ⟨key.id.toArray⟩] 9)).drew
              have HR2 := Lib.hid hown2
              have HCUT := Lib.hid (own_cut (j := j) ((HOA.out.older hb2).older ha2) (by omega))
              have HSR := Lib.hid (show SrcAt ((w2.alloc (.cells #[.string ⟨key.id.toArray⟩] 9)).drew) (.slice (some ⟨w2.heap.size, 0, none⟩) 1 1) 1 [str key.id] from SrcAt.one (heap_alloc_new w2 (.cells #[.string ⟨key.id.toArray⟩] 9)))
              have HBZ := Lib.hid (show w.heap.size ≤ ((w2.alloc (.cells #[.string ⟨key.id.toArray⟩] 9)).drew).heap.size by have h9 := HB2.out.size; simp; omega)
              have HZA := Lib.hid hb2.size
              have c1 := (HRA.out.older hb2).c1
              simp only at c1
              have HNE : Hid (∀ q, (Value.slice a2 (acc.length - j) q2).ownBlock = some q → ¬ (Value.slice (some ⟨g, og, none⟩) j j).ownBlock = some q) := Lib.hid (fun q hq hq2 => by have h9 := (HR2.out.lt q hq).1; have h8 := (HOA.out.lt q hq2).2; omega)
              have HA2 := Lib.hid ha2
              clear hown2 hb2 ha2 hgrow2 hlies2
              go_region_law ((first
                | (refine step_appw tyStrs (by rfl) _ _ (by rfl) w.heap.size (.slice (some ⟨g, og, none⟩) j j) j ((svals acc).take j) (by rfl) HCUT.out HBZ.out (.slice (some ⟨w2.heap.size, 0, none⟩) 1 1) 1 [str key.id] (by rfl) HSR.out (by rfl) (by simp [Value.oneCell']) (by omega) ?_; intro v3 w3 hown3 hgrow3 hlies3; obtain ⟨a3, q3, rfl, _⟩ := hown3.form)
                | (refine step_appw tyStrs (by rfl) _ _ (by rfl) w.heap.size (.slice a3 (j + 1) q3) (j + 1) ((svals acc).take j ++ [str key.id]) (by rfl) hown3 (by first | omega | exact Nat.le_trans HBZ.out hgrow3.size) (.slice a2 (acc.length - j) q2) (acc.length - j) (svals (acc.drop j)) (by rfl) (SrcAt.of ((HR2.out.older HA2.out).touch (Touch.of_grown (S := fun k => (Value.slice (some ⟨g, og, none⟩) j j).ownBlock = some k) hgrow3 (fun k hk => hk)) HNE.out)) (by simp [svals_len]) (svals_one _) (by omega) ?_; intro v4 w4 hown4 hgrow4 hlies4; obtain ⟨a4, q4, rfl, _⟩ := hown4.form)))
              all_goals
                go_wp2_with fail
                go_roundg (gk1 - 1)
                case rel =>
                  have hB3 : Below w.heap.size w w3 := belowK_grown (HB2.out.trans (HA2.out.mono HB2.out.size)) hgrow3 HBZ.out (fun q hq => (HCUT.out.lt q hq).1)
                  have hB4 : Below w.heap.size w w4 := belowK_grown hB3 hgrow4 hB3.size (fun q hq => (hown3.lt q hq).1)
                  have hval : (svals acc).take j ++ [str key.id] ++ svals (acc.drop j) = svals (idsK ml t (k + 1)) := by
                    rw [HF.out, ← HINS.out, svals_take]; simp [svals]
                  rw [hval] at hown4
                  exact ⟨k + 1, j + 1 + (acc.length - j), a4, q4, by go_num, by omega, Lib.hid (by have := HQ.out; have := HGK.out; omega), rfl, Lib.hid (by first | (rw [HF.out, insS_len]; done) | (rw [HF.out, insS_len]; omega) | (rw [HF.out, insS_len]; simp; done)), hown4, hB4⟩
                case measure => have := HQ.out; have := HGK.out; omega
          · obtain rfl : acc.length = j := by omega
            have HINS := Lib.hid (insS_at (x := key.id) (Nat.le_refl acc.length) HA.out (fun z hz => by rw [List.getElem?_eq_none (Nat.le_refl _)] at hz; cases hz))
            have hj3 : decide ((acc.length : Int) < (acc.length : Int)) = false := decide_eq_false (by omega)
            rcases HO2.out.2 with ⟨hv, hl0⟩ | ⟨g, og, cap0, cur, hv, _, _, hnc, _⟩
            · obtain rfl : acc = [] := List.eq_nil_of_length_eq_zero hl0
              obtain ⟨rfl, rfl⟩ : va = none ∧ vc = 0 := by injection hv with e1 e2 e3; exact ⟨e1, e3⟩
              clear hv hl0
              go_wp2_with fail
              go_quiet (fail)
              obtain ⟨wA, hw9⟩ : ∃ wz, (wr.drewN d).drewN nq = wz := ⟨_, rfl⟩
              have hbA : Below wr.heap.size wr wA := by rw [← hw9]; exact below_drewN (below_drewN (Below.refl _ _) _) _
              rw [hw9]
              have HOA := Lib.hid (HO2.out.older hbA)
              have HBA := Lib.hid (HB.out.trans (hbA.mono hsz))
              have HRA := Lib.hid (HROW.out.older hbA)
              have hzA := HBA.out.size
              clear hw9 hbA c0 c1
              have HSRC : Hid (SrcAt wA (.slice none 0 0) 0 (svals (([] : List Bs).drop 0))) := Lib.hid (.inl ⟨rfl, rfl, rfl⟩)
              go_wp2_with ((at_builtin; refine wpList_appw tyStrs rfl _ _ rfl wA.heap.size (.slice (some ⟨wA.heap.size, 0, none⟩) 0 0) 0 [] rfl (ownK_empty (heap_alloc_new wA _) (Nat.le_refl _)) (by simp) (.slice none 0 0) 0 (svals ([].drop 0)) rfl (srcAt_alloc HSRC.out _) (by simp [svals_len]) (svals_one _) (by omega) ?_; intro v2 w2 hown2 hgrow2 hlies2; rw [Nat.zero_add, List.nil_append] at hown2))
              obtain ⟨a2, q2, rfl, _⟩ := hown2.form
              have hb2 := belowK_grown ((Below.refl wA.heap.size wA).alloc (Nat.le_refl _) _) hgrow2 (by simp) (fun q hq => by simp [Value.ownBlock] at hq; omega)
              have HB2 := Lib.hid (HBA.out.trans (hb2.mono HBA.out.size))
              have ha2 := ((Below.refl w2.heap.size w2).alloc (Nat.le_refl _) (.cells #[.string ⟨key.id.toArray⟩] 9)).drew
              have HR2 := Lib.hid hown2
              have HCUT := Lib.hid (own_cut (j := 0) ((HOA.out.older hb2).older ha2) (by omega))
              have HSR := Lib.hid (show SrcAt ((w2.alloc (.cells #[.string ⟨key.id.toArray⟩] 9)).drew) (.slice (some ⟨w2.heap.size, 0, none⟩) 1 1) 1 [str key.id] from SrcAt.one (heap_alloc_new w2 (.cells #[.string ⟨key.id.toArray⟩] 9)))
              have HBZ := Lib.hid (show w.heap.size ≤ ((w2.alloc (.cells #[.string ⟨key.id.toArray⟩] 9)).drew).heap.size by have h9 := HB2.out.size; simp; omega)
              have HZA := Lib.hid hb2.size
              have c1 := (HRA.out.older hb2).c1
              simp only at c1
              have HNE : Hid (∀ q, (Value.slice a2 0 q2).ownBlock = some q → ¬ (Value.slice none 0 0).ownBlock = some q) := Lib.hid (fun q hq hq2 => by have h9 := (HR2.out.lt q hq).1; have h8 := (HOA.out.lt q hq2).2; omega)
              have HA2 := Lib.hid ha2
              clear hown2 hb2 ha2 hgrow2 hlies2
              go_region_law ((first
                | (refine step_appw tyStrs (by rfl) _ _ (by rfl) w.heap.size (.slice none 0 0) 0 ((svals []).take 0) (by rfl) HCUT.out HBZ.out (.slice (some ⟨w2.heap.size, 0, none⟩) 1 1) 1 [str key.id] (by rfl) HSR.out (by rfl) (by simp [Value.oneCell']) (by omega) ?_; intro v3 w3 hown3 hgrow3 hlies3; obtain ⟨a3, q3, rfl, _⟩ := hown3.form)
                | (refine step_appw tyStrs (by rfl) _ _ (by rfl) w.heap.size (.slice a3 (0 + 1) q3) (0 + 1) ((svals []).take 0 ++ [str key.id]) (by rfl) hown3 (by first | omega | exact Nat.le_trans HBZ.out hgrow3.size) (.slice a2 0 q2) 0 (svals ([].drop 0)) (by rfl) (SrcAt.of ((HR2.out.older HA2.out).touch (Touch.of_grown (S := fun k => (Value.slice none 0 0).ownBlock = some k) hgrow3 (fun k hk => hk)) HNE.out)) (by simp [svals_len]) (svals_one _) (by omega) ?_; intro v4 w4 hown4 hgrow4 hlies4; obtain ⟨a4, q4, rfl, _⟩ := hown4.form)))
              all_goals
                go_wp2_with fail
                go_roundg (gk1 - 1)
                case rel =>
                  have hB3 : Below w.heap.size w w3 := belowK_grown (HB2.out.trans (HA2.out.mono HB2.out.size)) hgrow3 HBZ.out (fun q hq => (HCUT.out.lt q hq).1)
                  have hB4 : Below w.heap.size w w4 := belowK_grown hB3 hgrow4 hB3.size (fun q hq => (hown3.lt q hq).1)
                  have hval : (svals []).take 0 ++ [str key.id] ++ svals ([].drop 0) = svals (idsK ml t (k + 1)) := by
                    rw [HF.out, ← HINS.out, svals_take]; simp [svals]
                  rw [hval] at hown4
                  exact ⟨k + 1, 0 + 1 + 0, a4, q4, by go_num, by omega, Lib.hid (by have := HQ.out; have := HGK.out; omega), rfl, Lib.hid (by first | (rw [HF.out, insS_len]; done) | (rw [HF.out, insS_len]; omega) | (rw [HF.out, insS_len]; simp; done)), hown4, hB4⟩
                case measure => have := HQ.out; have := HGK.out; omega
            · obtain ⟨rfl, rfl⟩ : va = some ⟨g, og, none⟩ ∧ vc = cap0 := by injection hv with e1 e2 e3; exact ⟨e1, e3⟩
              clear hv
              by_cases hfull : vc = acc.length
              · subst hfull
                go_wp2_with fail
                go_quiet (fail)
                obtain ⟨wA, hw9⟩ : ∃ wz, (wr.drewN d).drewN nq = wz := ⟨_, rfl⟩
                have hbA : Below wr.heap.size wr wA := by rw [← hw9]; exact below_drewN (below_drewN (Below.refl _ _) _) _
                rw [hw9]
                have HOA := Lib.hid (HO2.out.older hbA)
                have HBA := Lib.hid (HB.out.trans (hbA.mono hsz))
                have HRA := Lib.hid (HROW.out.older hbA)
                have hzA := HBA.out.size
                clear hw9 hbA c0 c1
                have HSRC := Lib.hid (show SrcAt wA (.slice (some ⟨g, og, none⟩) 0 0) 0 (svals (acc.drop acc.length)) by have h9 := SrcAt.of (HOA.out.dropAll rfl); rw [List.drop_length]; exact h9)
                go_wp2_with ((at_builtin; refine wpList_appw tyStrs rfl _ _ rfl wA.heap.size (.slice (some ⟨wA.heap.size, 0, none⟩) 0 0) 0 [] rfl (ownK_empty (heap_alloc_new wA _) (Nat.le_refl _)) (by simp) (.slice (some ⟨g, og, none⟩) 0 0) 0 (svals (acc.drop acc.length)) rfl (srcAt_alloc HSRC.out _) (by simp [svals_len]) (svals_one _) (by omega) ?_; intro v2 w2 hown2 hgrow2 hlies2; rw [Nat.zero_add, List.nil_append] at hown2))
                obtain ⟨a2, q2, rfl, _⟩ := hown2.form
                have hb2 := belowK_grown ((Below.refl wA.heap.size wA).alloc (Nat.le_refl _) _) hgrow2 (by simp) (fun q hq => by simp [Value.ownBlock] at hq; omega)
                have HB2 := Lib.hid (HBA.out.trans (hb2.mono HBA.out.size))
                have ha2 := ((Below.refl w2.heap.size w2).alloc (Nat.le_refl _) (.cells #[.string ⟨key.id.toArray⟩] 9)).drew
                have HR2 := Lib.hid hown2
                have HCUT := Lib.hid (own_cut (j := acc.length) ((HOA.out.older hb2).older ha2) (by omega))
                have HSR := Lib.hid (show SrcAt ((w2.alloc (.cells #[.string ⟨key.id.toArray⟩] 9)).drew) (.slice (some ⟨w2.heap.size, 0, none⟩) 1 1) 1 [str key.id] from SrcAt.one (heap_alloc_new w2 (.cells #[.string ⟨key.id.toArray⟩] 9)))
                have HBZ := Lib.hid (show w.heap.size ≤ ((w2.alloc (.cells #[.string ⟨key.id.toArray⟩] 9)).drew).heap.size by have h9 := HB2.out.size; simp; omega)
                have HZA := Lib.hid hb2.size
                have c1 := (HRA.out.older hb2).c1
                simp only at c1
                have HNE : Hid (∀ q, (Value.slice a2 0 q2).ownBlock = some q → ¬ (Value.slice (some ⟨g, og, none⟩) acc.length acc.length).ownBlock = some q) := Lib.hid (fun q hq hq2 => by have h9 := (HR2.out.lt q hq).1; have h8 := (HOA.out.lt q hq2).2; omega)
                have HA2 := Lib.hid ha2
                clear hown2 hb2 ha2 hgrow2 hlies2
                go_region_law ((first
                  | (refine step_appw tyStrs (by rfl) _ _ (by rfl) w.heap.size (.slice (some ⟨g, og, none⟩) acc.length acc.length) acc.length ((svals acc).take acc.length) (by rfl) HCUT.out HBZ.out (.slice (some ⟨w2.heap.size, 0, none⟩) 1 1) 1 [str key.id] (by rfl) HSR.out (by rfl) (by simp [Value.oneCell']) (by omega) ?_; intro v3 w3 hown3 hgrow3 hlies3; obtain ⟨a3, q3, rfl, _⟩ := hown3.form)
                  | (refine step_appw tyStrs (by rfl) _ _ (by rfl) w.heap.size (.slice a3 (acc.length + 1) q3) (acc.length + 1) ((svals acc).take acc.length ++ [str key.id]) (by rfl) hown3 (by first | omega | exact Nat.le_trans HBZ.out hgrow3.size) (.slice a2 0 q2) 0 (svals (acc.drop acc.length)) (by rfl) (SrcAt.of ((HR2.out.older HA2.out).touch (Touch.of_grown (S := fun k => (Value.slice (some ⟨g, og, none⟩) acc.length acc.length).ownBlock = some k) hgrow3 (fun k hk => hk)) HNE.out)) (by simp [svals_len]) (svals_one _) (by omega) ?_; intro v4 w4 hown4 hgrow4 hlies4; obtain ⟨a4, q4, rfl, _⟩ := hown4.form)))
                all_goals
                  go_wp2_with fail
                  go_roundg (gk1 - 1)
                  case rel =>
                    have hB3 : Below w.heap.size w w3 := belowK_grown (HB2.out.trans (HA2.out.mono HB2.out.size)) hgrow3 HBZ.out (fun q hq => (HCUT.out.lt q hq).1)
                    have hB4 : Below w.heap.size w w4 := belowK_grown hB3 hgrow4 hB3.size (fun q hq => (hown3.lt q hq).1)
                    have hval : (svals acc).take acc.length ++ [str key.id] ++ svals (acc.drop acc.length) = svals (idsK ml t (k + 1)) := by
                      rw [HF.out, ← HINS.out, svals_take]; simp [svals]
                    rw [hval] at hown4
                    exact ⟨k + 1, acc.length + 1 + 0, a4, q4, by go_num, by omega, Lib.hid (by have := HQ.out; have := HGK.out; omega), rfl, Lib.hid (by first | (rw [HF.out, insS_len]; done) | (rw [HF.out, insS_len]; omega) | (rw [HF.out, insS_len]; simp; done)), hown4, hB4⟩
                  case measure => have := HQ.out; have := HGK.out; omega
              · have hne : ¬ vc = acc.length := hfull
                go_wp2_with fail
                go_quiet (fail)
                obtain ⟨wA, hw9⟩ : ∃ wz, (wr.drewN d).drewN nq = wz := ⟨_, rfl⟩
                have hbA : Below wr.heap.size wr wA := by rw [← hw9]; exact below_drewN (below_drewN (Below.refl _ _) _) _
                rw [hw9]
                have HOA := Lib.hid (HO2.out.older hbA)
                have HBA := Lib.hid (HB.out.trans (hbA.mono hsz))
                have HRA := Lib.hid (HROW.out.older hbA)
                have hzA := HBA.out.size
                clear hw9 hbA c0 c1
                have HSRC := Lib.hid (show SrcAt wA (.slice (some ⟨g, og + acc.length, none⟩) 0 (vc - acc.length)) 0 (svals (acc.drop acc.length)) by have h9 := SrcAt.of (HOA.out.drop (k := acc.length) rfl (by omega) (by omega)); rw [Nat.mul_one, svals_drop] at h9; simpa using h9)
                go_wp2_with ((at_builtin; refine wpList_appw tyStrs rfl _ _ rfl wA.heap.size (.slice (some ⟨wA.heap.size, 0, none⟩) 0 0) 0 [] rfl (ownK_empty (heap_alloc_new wA _) (Nat.le_refl _)) (by simp) (.slice (some ⟨g, og + acc.length, none⟩) 0 (vc - acc.length)) 0 (svals (acc.drop acc.length)) rfl (srcAt_alloc HSRC.out _) (by simp [svals_len]) (svals_one _) (by omega) ?_; intro v2 w2 hown2 hgrow2 hlies2; rw [Nat.zero_add, List.nil_append] at hown2))
                obtain ⟨a2, q2, rfl, _⟩ := hown2.form
                have hb2 := belowK_grown ((Below.refl wA.heap.size wA).alloc (Nat.le_refl _) _) hgrow2 (by simp) (fun q hq => by simp [Value.ownBlock] at hq; omega)
                have HB2 := Lib.hid (HBA.out.trans (hb2.mono HBA.out.size))
                have ha2 := ((Below.refl w2.heap.size w2).alloc (Nat.le_refl _) (.cells #[.string ⟨key.id.toArray⟩] 9)).drew
                have HR2 := Lib.hid hown2
                have HCUT := Lib.hid (own_cut (j := acc.length) ((HOA.out.older hb2).older ha2) (by omega))
                have HSR := Lib.hid (show SrcAt ((w2.alloc (.cells #[.string ⟨key.id.toArray⟩] 9)).drew) (.slice (some ⟨w2.heap.size, 0, none⟩) 1 1) 1 [str key.id] from SrcAt.one (heap_alloc_new w2 (.cells #[.string ⟨key.id.toArray⟩] 9)))
                have HBZ := Lib.hid (show w.heap.size ≤ ((w2.alloc (.cells #[.string ⟨key.id.toArray⟩] 9)).drew).heap.size by have h9 := HB2.out.size; simp; omega)
                have HZA := Lib.hid hb2.size
                have c1 := (HRA.out.older hb2).c1
                simp only at c1
                have HNE : Hid (∀ q, (Value.slice a2 0 q2).ownBlock = some q → ¬ (Value.slice (some ⟨g, og, none⟩) acc.length acc.length).ownBlock = some q) := Lib.hid (fun q hq hq2 => by have h9 := (HR2.out.lt q hq).1; have h8 := (HOA.out.lt q hq2).2; omega)
                have HA2 := Lib.hid ha2
                clear hown2 hb2 ha2 hgrow2 hlies2
                go_region_law ((first
                  | (refine step_appw tyStrs (by rfl) _ _ (by rfl) w.heap.size (.slice (some ⟨g, og, none⟩) acc.length acc.length) acc.length ((svals acc).take acc.length) (by rfl) HCUT.out HBZ.out (.slice (some ⟨w2.heap.size, 0, none⟩) 1 1) 1 [str key.id] (by rfl) HSR.out (by rfl) (by simp [Value.oneCell']) (by omega) ?_; intro v3 w3 hown3 hgrow3 hlies3; obtain ⟨a3, q3, rfl, _⟩ := hown3.form)
                  | (refine step_appw tyStrs (by rfl) _ _ (by rfl) w.heap.size (.slice a3 (acc.length + 1) q3) (acc.length + 1) ((svals acc).take acc.length ++ [str key.id]) (by rfl) hown3 (by first | omega | exact Nat.le_trans HBZ.out hgrow3.size) (.slice a2 0 q2) 0 (svals (acc.drop acc.length)) (by rfl) (SrcAt.of ((HR2.out.older HA2.out).touch (Touch.of_grown (S := fun k => (Value.slice (some ⟨g, og, none⟩) acc.length acc.length).ownBlock = some k) hgrow3 (fun k hk => hk)) HNE.out)) (by simp [svals_len]) (svals_one _) (by omega) ?_; intro v4 w4 hown4 hgrow4 hlies4; obtain ⟨a4, q4, rfl, _⟩ := hown4.form)))
                all_goals
                  go_wp2_with fail
                  go_roundg (gk1 - 1)
                  case rel =>
                    have hB3 : Below w.heap.size w w3 := belowK_grown (HB2.out.trans (HA2.out.mono HB2.out.size)) hgrow3 HBZ.out (fun q hq => (HCUT.out.lt q hq).1)
                    have hB4 : Below w.heap.size w w4 := belowK_grown hB3 hgrow4 hB3.size (fun q hq => (hown3.lt q hq).1)
                    have hval : (svals acc).take acc.length ++ [str key.id] ++ svals (acc.drop acc.length) = svals (idsK ml t (k + 1)) := by
                      rw [HF.out, ← HINS.out, svals_take]; simp [svals]
                    rw [hval] at hown4
                    exact ⟨k + 1, acc.length + 1 + 0, a4, q4, by go_num, by omega, Lib.hid (by have := HQ.out; have := HGK.out; omega), rfl, Lib.hid (by first | (rw [HF.out, insS_len]; done) | (rw [HF.out, insS_len]; omega) | (rw [HF.out, insS_len]; simp; done)), hown4, hB4⟩
                  case measure => have := HQ.out; have := HGK.out; omega
    · have HF := Lib.hid (show k = ml.length by omega)
      go_wp2_with fail
      go_ret
      have hke : idsK ml t k = idsL (per ml t) := by rw [HF.out]; exact idsK_end ml t
      have h9 := HO.out
      rw [hke] at h9
      rw [HN.out, hke] at h9
      exact ⟨_, rfl, by rw [← hke, ← HN.out, hke] at h9 ⊢; exact h9, HB.out⟩
end Kr
end Go.Proofs.YtbpbopjlcidefaaDoor
