/- Contracts and plain facts that the statement's proof leans on (texts joined). No condition beyond those that each names. -/
import Derived.Test.YtpmhkkjecapbeaaGreatDoorPfM
section
namespace Go.Proofs.YtpmhkkjecapbeaaGreatDoor
open Go.RowKit Pl Ad
attribute [local go_sem] ba_get ba_append ba_extract_end ba_extract_zero ba_extract
set_option maxRecDepth 100000
set_option maxHeartbeats 4000000
set_option linter.unusedVariables false
set_option linter.unusedSimpArgs false
namespace Kr
theorem svals_snoc {l : List Ent} {k : Nat} (hk : k < l.length) : svals ((l.take k).map fun e => e.key.id) ++ [str l[k].key.id] = svals ((l.take (k + 1)).map fun e => e.key.id) := by
  rw [take_snoc hk, List.map_append]; simp [svals]
theorem ids_any (B R : Nat) (t : Int) (V : Nat → Value) (E : Nat → List Ent) (w : World) (h : RingAt w B R V E) (hl : (tlK E t).length ≤ 1000000) :
    Calls Tryz.prog 21 #[ptrK R, .int .i64 t] w fun r w' => ∃ u, r = .returned u ∧ OwnWin w' w.heap.size 9 1 u (tlK E t).length (svals (idsL ((tlK E t).map Ent.key))) ∧ Below w.heap.size w w' := by
  obtain ⟨a, c, hv, hk⟩ := h.slot t
  have HR := Lib.hid h
  have HV := Lib.hid hv
  have HK := Lib.hid hk
  clear h hv hk
  generalize tlK E t = l at hl HV HK ⊢
  go_enter Tryz.func21, Tryz.ntmps21
  go_wp2_with (go_at_call 58; refine (of_any B R t V E _ HR.out).mono ?_; rw [HV.out]; rintro e w' ⟨rfl, rfl⟩)
  go_loopw [5, 12] (fun v i wr => ∃ (k : Nat) (va : Option Addr) (vc : Nat), k ≤ l.length ∧ i = .int .i64 k ∧ v = .slice va k vc ∧ OwnWin wr w.heap.size 9 1 (.slice va k vc) k (svals ((l.take k).map fun e => e.key.id)) ∧ Below w.heap.size w wr) (fun _ i _ => l.length - (intOf i).toNat)
  case atStart => exact ⟨0, _, _, Nat.zero_le _, rfl, rfl, OwnWin.nil _ _ _ _, Below.refl _ _⟩
  case round =>
    obtain ⟨k, va, vc, hk, rfl, rfl, hown, hbel⟩ := hrel
    have hsz := hbel.size
    have HOWN := Lib.hid hown
    have HB := Lib.hid hbel
    by_cases hlt : k < l.length
    · obtain ⟨b, o, ha, hc, hcell, hent⟩ := HK.out k hlt
      have HS := Lib.hid (svals_snoc hlt)
      subst ha
      generalize l[k] = x at hcell hent HS
      have c9 := keepC hbel hcell
      obtain ⟨⟨c0, c1, c2, c3, c4⟩, _, hz⟩ := (hent.older hbel).facts
      clear hent hcell hown hbel
      go_wp2_with ((at_builtin; refine wpList_appw tyStrs rfl _ _ rfl w.heap.size (.slice va k vc) k (svals ((l.take k).map fun e => e.key.id)) rfl (HOWN.out.alloc _) (by simp; omega) (.slice (some ⟨wr.heap.size, 0, none⟩) 1 1) 1 [str x.key.id] rfl (SrcAt.one (heap_alloc_new wr _)) rfl (by simp [Value.oneCell']) (by omega) ?_; intro v' w2 hown2 hgrow2 hlies2))
      have HB2 := Lib.hid (belowK_grown (HB.out.alloc (by omega) _) hgrow2 (by simp; omega) (fun q hq => (HOWN.out.lt q hq).1))
      rw [HS.out] at hown2
      obtain ⟨xa, xc, rfl, _⟩ := hown2.form
      go_roundw
      case rel => exact ⟨k + 1, xa, xc, by omega, by go_num, rfl, hown2, HB2.out⟩
      case measure => simp [intOf]; omega
    · obtain rfl : l.length = k := by omega
      have hids : (l.take l.length).map (fun e => e.key.id) = l.map fun e => e.key.id := by rw [List.take_length]
      have HO2 : Hid (OwnWin wr w.heap.size 9 1 (.slice va l.length vc) (l.map fun e => e.key.id).length (svals (l.map fun e => e.key.id))) := Lib.hid (by have := HOWN.out; rw [hids] at this; rw [List.length_map]; exact this)
      clear hown hbel hids
      go_wp2_with (go_at_call 59; refine (A1.sort_any w.heap.size (.slice va l.length vc) (l.map fun e => e.key.id) _ HO2.out (by rw [List.length_map]; omega)).mono ?_; rintro e w2 ⟨rfl, hs2, ht2⟩)
      go_ret
      refine ⟨_, rfl, ?_, HB.out.trans (ht2.below hsz (fun q hq => (HO2.out.lt q hq).1))⟩
      have : idsL (l.map Ent.key) = (l.map fun e => e.key.id).mergeSort fun x y => decide (x ≤ y) := by unfold idsL; rw [List.map_map]; rfl
      rw [this]
      rw [List.length_map] at hs2
      exact hs2
theorem cloneB_any (v : Value) (l : Bs) (w : World) (h : SrcAt w v l.length (bvals l)) (hl : l.length ≤ 1000000) :
    Calls Tryz.prog 65 #[v] w fun e w' => ∃ u, e = .returned u ∧ OwnWin w' w.heap.size 5 1 u l.length (bvals l) ∧ Below w.heap.size w w' := by
  have HO := Lib.hid h
  rcases h with ⟨rfl, h0, _⟩ | ⟨ad, cap, rfl, hb⟩
  · obtain rfl : l = [] := List.eq_nil_of_length_eq_zero h0
    have HN := Lib.hid (OwnWin.nil w w.heap.size 5 1)
    have e0 : ∀ wx : World, (binOp .eql 45 (.slice none 0 0) (.slice none 0 0)).run Tryz.prog wx = .ok (.bool true) wx := fun wx => by kernel_rfl
    clear h0
    go_enter Tryz.func65, Tryz.ntmps65
    go_wp2
    go_ret
    exact ⟨_, rfl, HN.out, Below.refl _ _⟩
  · have e0 : ∀ wx : World, (binOp .eql 45 (.slice (some ad) l.length cap) (.slice none 0 0)).run Tryz.prog wx = .ok (.bool false) wx := fun wx => Go.Lib.run_eql_slice_nil wx _ _ _ _ _ _ _ Tryz.underlying45
    clear hb
    go_enter Tryz.func65, Tryz.ntmps65
    go_wp2_with ((at_builtin; refine wpList_appw tyBytes rfl _ _ rfl w.heap.size (.slice (some ⟨w.heap.size, 0, none⟩) 0 0) 0 [] rfl (ownK_empty (heap_alloc_new w _) (Nat.le_refl _)) (by simp) (.slice (some ad) l.length cap) l.length (bvals l) rfl (HO.out.older ((Below.refl _ _).alloc (Nat.le_refl _) _)) (by rw [bvals_len]; omega) (bvals_one _) (by omega) ?_; intro v' w2 hown2 hgrow2 hlies2; rw [Nat.zero_add, List.nil_append] at hown2))
    go_ret
    exact ⟨_, rfl, hown2, belowK_grown ((Below.refl w.heap.size w).alloc (Nat.le_refl _) _) hgrow2 (by simp) (fun q hq => by simp [Value.ownBlock] at hq; omega)⟩
end Kr
end Go.Proofs.YtpmhkkjecapbeaaGreatDoor
end

