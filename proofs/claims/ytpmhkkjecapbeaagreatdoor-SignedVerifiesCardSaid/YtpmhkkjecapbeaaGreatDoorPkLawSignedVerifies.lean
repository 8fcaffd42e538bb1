/- PROVED: SignedVerifies returns true for every input and leaves its arguments as they were. No condition beyond the statement's own (the listed variables read as the program's text lays them, which the card ties). -/
import Derived.Deep.RegionHeld3
import Derived.OrdersHeld
import Derived.Deep.DeepCutAuto
import Derived.Test.YtpmhkkjecapbeaaGreatDoorPkG
import Derived.Test.YtpmhkkjecapbeaaGreatDoorPkU
import Derived.Test.YtpmhkkjecapbeaaGreatDoorPkW
import Derived.Test.YtpmhkkjecapbeaaGreatDoorPkY
namespace Go.Proofs.YtpmhkkjecapbeaaGreatDoor.lawSignedVerifies
open Go.ChangeShapes Go.WideShapes Go.ChangeAt Go.RowKit Pl Ad
open Go.ChangeMaps (open_string shut_string)
attribute [local go_sem] ba_get ba_append ba_extract_end ba_extract_zero ba_extract conv_one
set_option maxRecDepth 100000
set_option maxHeartbeats 4000000
set_option linter.unusedVariables false
set_option linter.unusedSimpArgs false
open Sg Dg Kr A1
/-- The question's box. -/
structure CkS (w0 w : World) (c0 c1 c2 c3 c4 c5 c6 : Value) : Prop where
  bel : Below w0.heap.size w0 w
  cb : Bx w w0.heap.size 76 #[c0, c1, c2, c3, c4, c5, c6]
section
variable {w0 w w' : World} {c0 c1 c2 c3 c4 c5 c6 : Value}
theorem CkS.older (h : CkS w0 w c0 c1 c2 c3 c4 c5 c6) (hb : Below w.heap.size w w') : CkS w0 w' c0 c1 c2 c3 c4 c5 c6 := ⟨h.bel.trans (hb.mono h.bel.size), h.cb.older hb⟩
theorem CkS.facts (h : CkS w0 w c0 c1 c2 c3 c4 c5 c6) : (w.cell? ⟨w0.heap.size, 0, none⟩ = some c0 ∧ w.cell? ⟨w0.heap.size, 1, none⟩ = some c1 ∧ w.cell? ⟨w0.heap.size, 2, none⟩ = some c2 ∧ w.cell? ⟨w0.heap.size, 3, none⟩ = some c3 ∧ w.cell? ⟨w0.heap.size, 4, none⟩ = some c4 ∧ w.cell? ⟨w0.heap.size, 5, none⟩ = some c5 ∧ w.cell? ⟨w0.heap.size, 6, none⟩ = some c6) ∧ w0.heap.size < w.heap.size :=
  ⟨⟨h.cb.cell (i := 0) rfl, h.cb.cell (i := 1) rfl, h.cb.cell (i := 2) rfl, h.cb.cell (i := 3) rfl, h.cb.cell (i := 4) rfl, h.cb.cell (i := 5) rfl, h.cb.cell (i := 6) rfl⟩, h.cb.lt⟩
theorem CkS.set4 (h : CkS w0 w c0 c1 c2 c3 c4 c5 c6) {Q : Nat} (hQ : w0.heap.size < Q) (u0 u1 u2 u3 : Value) : CkS w0 ((((w.setCell ⟨Q, 0, none⟩ u0).setCell ⟨Q, 1, none⟩ u1).setCell ⟨Q, 2, none⟩ u2).setCell ⟨Q, 3, none⟩ u3) c0 c1 c2 c3 c4 c5 c6 :=
  have st : ∀ {w : World} {R T i : Nat} {cs : Array Value} {u : Value}, Bx w R T cs → ¬ R = Q → Bx (w.setCell ⟨Q, i, none⟩ u) R T cs := fun h hne => h.touch (touch_set1 _ _ _ _) hne
  have hne : ¬ w0.heap.size = Q := by omega
  ⟨Box.set h.bel (by omega) _ _ _ _, st (st (st (st h.cb hne) hne) hne) hne⟩
end
attribute [local go_sem] guard_pa guard_ra guard_pt eql_ra eql_pt
attribute [-go_sem] run_eql_struct run_eqGuard_agg
theorem adB_refl (h p q : Bs) (b : Bool) : adB h p q b h p q b = true := by rw [adB_iff]; exact decide_eq_true rfl
theorem walk (h p q : Bs) (b : Bool) (sec : Bs) (v : Value) (kn : Bool) (now : Int) (w : World) (hg : Sg.SgnAt w) (z0 : h.length ≤ 140737488351232) (z1 : p.length ≤ 140737488351232) (z2 : q.length ≤ 140737488351232) (hx : SrcAt w v sec.length (bvals sec)) (hl : sec.length ≤ 140737488351232) :
    Calls Tryz.prog 6 #[.agg #[.string ⟨h.toArray⟩, .string ⟨p.toArray⟩, .string ⟨q.toArray⟩, .bool b, v, .bool kn, .int .i64 now]] w fun e w' => e = .returned (.bool true) ∧ Below w.heap.size w w' := by
  obtain ⟨sa, sc, rfl⟩ := src_form hx
  have HG := Lib.hid hg
  have HSRC := Lib.hid hx
  have HP0 := Lib.hid (show CkS w (w.alloc (.cells #[.string ⟨h.toArray⟩, .string ⟨p.toArray⟩, .string ⟨q.toArray⟩, .bool b, .slice sa sec.length sc, .bool kn, .int .i64 now] 76)) (.string ⟨h.toArray⟩) (.string ⟨p.toArray⟩) (.string ⟨q.toArray⟩) (.bool b) (.slice sa sec.length sc) (.bool kn) (.int .i64 now) from ⟨(Below.refl _ _).alloc (Nat.le_refl _) _, Bx.new _ _ _⟩)
  clear hg hx
  go_enter Tryz.func6, Tryz.ntmps6
  go_wp2_with fail
  refine (awake49_any _ (HG.out.below HP0.out.bel)).mono ?_
  rintro e w1 ⟨rfl, hb1⟩
  have HP1 := Lib.hid (HP0.out.older hb1)
  clear hb1
  obtain ⟨⟨c0, c1, c2, c3, c4, c5, c6⟩, hz⟩ := HP1.out.facts
  by_cases hs : h.length + p.length + q.length + sec.length ≤ 3000
  · go_wp2_with fail
    refine (short_yes ⟨h, p, q, b⟩ (some ⟨w1.heap.size, 0, none⟩) 1 [sec.length] (w1.alloc (.cells #[.int .i64 (sec.length : Int)] 3)) (nvals_src w1 [sec.length] 1) (by simp) (fun n hn => by simp at hn; omega) (by simp only; omega) (by simp only; omega) (by simp only; omega) (by simp only [List.sum_cons, List.sum_nil, Nat.add_zero]; exact hs)).mono ?_
    rintro e w2 ⟨rfl, hb2⟩
    have HP2 := Lib.hid ((HP1.out.older ((Below.refl _ _).alloc (Nat.le_refl _) (.cells #[.int .i64 (sec.length : Int)] 3))).older hb2)
    clear hb2; clear c0 c1 c2 c3 c4 c5 c6 hz
    go_upto_region 3 with fail
    have HSGN0 := fun wz hz hv => verify_any ⟨h, p, q, b⟩ sa sc sec kn now wz hz hv (by simp only; omega) (by simp only; omega) (by simp only; omega) (by omega)
    have HRSG0 := fun wz hv => rverify_any ⟨h, p, q, b⟩ sa sc sec kn now wz hv (by simp only; omega) (by simp only; omega) (by simp only; omega) (by omega)
    obtain ⟨cn, hcn⟩ : ∃ z, verC ⟨h, p, q, b⟩ sec kn now = z := ⟨_, rfl⟩
    rw [hcn] at HSGN0 HRSG0
    have HNUM0 := fun wz => Sg.num_any cn wz
    obtain ⟨ev, hev⟩ : ∃ z, Sg.errC cn = z := ⟨_, rfl⟩
    rw [hev] at HSGN0 HNUM0
    generalize verA ⟨h, p, q, b⟩ sec kn now = sd at HSGN0 HRSG0
    obtain ⟨sh, sp, sq, sb⟩ := sd
    have HSGN := Lib.hid HSGN0
    have HRSG := Lib.hid HRSG0
    have HNUM := Lib.hid HNUM0
    clear HSGN0 HRSG0 HNUM0 hcn hev
    go_cut [3, 4] (fun s7 s8 wx => ∃ R : Nat, s7 = .pointer (some ⟨R, 0, none⟩) ∧ s8 = ev ∧ CkS w wx (.string ⟨h.toArray⟩) (.string ⟨p.toArray⟩) (.string ⟨q.toArray⟩) (.bool b) (.slice sa sec.length sc) (.bool kn) (.int .i64 now) ∧ Bx wx R 27 #[.string ⟨sh.toArray⟩, .string ⟨sp.toArray⟩, .string ⟨sq.toArray⟩, .bool sb])
    case first =>
      obtain ⟨⟨c0, c1, c2, c3, c4, c5, c6⟩, hz⟩ := HP2.out.facts
      have HPd := Lib.hid (HP2.out.older ((Below.refl _ _).drew))
      refine wp_region_held_drew (S := fun w' => w'.cell? ⟨w.heap.size, 0, none⟩ = some (.string ⟨h.toArray⟩) ∧ w'.cell? ⟨w.heap.size, 1, none⟩ = some (.string ⟨p.toArray⟩) ∧ w'.cell? ⟨w.heap.size, 2, none⟩ = some (.string ⟨q.toArray⟩) ∧ w'.cell? ⟨w.heap.size, 3, none⟩ = some (.bool b) ∧ w'.cell? ⟨w.heap.size, 4, none⟩ = some (.slice sa sec.length sc) ∧ w'.cell? ⟨w.heap.size, 5, none⟩ = some (.bool kn) ∧ w'.cell? ⟨w.heap.size, 6, none⟩ = some (.int .i64 now)) (by kernel_rfl) (by exact ⟨c0, c1, c2, c3, c4, c5, c6⟩) (fun hHeld => ?_)
      obtain ⟨wd, hwd⟩ : ∃ z, w2.drew = z := ⟨_, rfl⟩
      rw [hwd] at hHeld HPd ⊢
      clear hwd
      clear c0 c1 c2 c3 c4 c5 c6 hz
      obtain ⟨⟨c0, c1, c2, c3, c4, c5, c6⟩, hz⟩ := HPd.out.facts
      refine wpAnyH_take (i := 0) (v := ?_) (by simp only [List.getElem?_toArray, List.getElem?_cons_succ, List.getElem?_cons_zero]; rfl) (by kernel_rfl) (by kernel_rfl) (by kernel_rfl) (by intro _ _ _ h; exact h) (Or.inl ⟨by rfl, ?_⟩) (by assumption) ?_
      rotate_left
      focus (intro wT hT; (try dsimp only at hT); go_simp; try with_reducible rfl)
      try simp only [Act.put, List.setIfInBounds_toArray, List.set_cons_zero, List.set_cons_succ]
      refine wpAnyH_take (i := 1) (v := ?_) (by simp only [List.getElem?_toArray, List.getElem?_cons_succ, List.getElem?_cons_zero]; rfl) (by kernel_rfl) (by kernel_rfl) (by kernel_rfl) (by intro _ _ _ h; exact h) (Or.inl ⟨by rfl, ?_⟩) (by assumption) ?_
      rotate_left
      focus (intro wT hT; (try dsimp only at hT); go_simp; try with_reducible rfl)
      try simp only [Act.put, List.setIfInBounds_toArray, List.set_cons_zero, List.set_cons_succ]
      refine wpAnyH_take (i := 3) (v := ?_) (by simp only [List.getElem?_toArray, List.getElem?_cons_succ, List.getElem?_cons_zero]; rfl) (by kernel_rfl) (by kernel_rfl) (by kernel_rfl) (by intro _ _ _ h; exact h) (Or.inl ⟨by rfl, ?_⟩) (by assumption) ?_
      rotate_left
      focus (intro wT hT; (try dsimp only at hT); go_simp; try with_reducible rfl)
      try simp only [Act.put, List.setIfInBounds_toArray, List.set_cons_zero, List.set_cons_succ]
      refine wpAnyH_take (i := 4) (v := ?_) (by simp only [List.getElem?_toArray, List.getElem?_cons_succ, List.getElem?_cons_zero]; rfl) (by kernel_rfl) (by kernel_rfl) (by kernel_rfl) (by intro _ _ _ h; exact h) (Or.inl ⟨by rfl, ?_⟩) (by assumption) ?_
      rotate_left
      focus (intro wT hT; (try dsimp only at hT); go_simp; try with_reducible rfl)
      try simp only [Act.put, List.setIfInBounds_toArray, List.set_cons_zero, List.set_cons_succ]
      refine wpAnyH_take (i := 5) (v := ?_) (by simp only [List.getElem?_toArray, List.getElem?_cons_succ, List.getElem?_cons_zero]; rfl) (by kernel_rfl) (by kernel_rfl) (by kernel_rfl) (by intro _ _ _ h; exact h) (Or.inl ⟨by rfl, ?_⟩) (by assumption) ?_
      rotate_left
      focus (intro wT hT; (try dsimp only at hT); go_simp; try with_reducible rfl)
      try simp only [Act.put, List.setIfInBounds_toArray, List.set_cons_zero, List.set_cons_succ]
      refine wpAnyH_take (i := 6) (v := ?_) (by simp only [List.getElem?_toArray, List.getElem?_cons_succ, List.getElem?_cons_zero]; rfl) (by kernel_rfl) (by kernel_rfl) (by kernel_rfl) (by intro _ _ _ h; exact h) (Or.inl ⟨by rfl, ?_⟩) (by assumption) ?_
      rotate_left
      focus (intro wT hT; (try dsimp only at hT); go_simp; try with_reducible rfl)
      try simp only [Act.put, List.setIfInBounds_toArray, List.set_cons_zero, List.set_cons_succ]
      refine wpAnyH_take (i := 7) (v := ?_) (by simp only [List.getElem?_toArray, List.getElem?_cons_succ, List.getElem?_cons_zero]; rfl) (by kernel_rfl) (by kernel_rfl) (by kernel_rfl) (by intro _ _ _ h; exact h) (Or.inl ⟨by rfl, ?_⟩) (by assumption) ?_
      rotate_left
      focus (intro wT hT; (try dsimp only at hT); go_simp; try with_reducible rfl)
      try simp only [Act.put, List.setIfInBounds_toArray, List.set_cons_zero, List.set_cons_succ]
      refine wpAnyH_take (i := 8) (v := ?_) (by simp only [List.getElem?_toArray, List.getElem?_cons_succ, List.getElem?_cons_zero]; rfl) (by kernel_rfl) (by kernel_rfl) (by kernel_rfl) (by intro _ _ _ h; exact h) (Or.inl ⟨by rfl, ?_⟩) (by assumption) ?_
      rotate_left
      focus (intro wT hT; (try dsimp only at hT); go_simp; try with_reducible rfl)
      try simp only [Act.put, List.setIfInBounds_toArray, List.set_cons_zero, List.set_cons_succ]
      refine wpAnyH_ready (rs := [2, 13]) (by kernel_rfl) (by simp) (AllReadyH.cons (by simp only [List.getElem?_toArray, List.getElem?_cons_succ, List.getElem?_cons_zero]; rfl) (fun K hK => ?_) (AllReadyH.cons (by simp only [List.getElem?_toArray, List.getElem?_cons_succ, List.getElem?_cons_zero]; rfl) (fun K hK => ?_) AllReadyH.nil))
      · go_simp
        go_at_call 32
        refine (of_any ⟨h, p, q, b⟩ _).mono ?_
        rintro e v30 ⟨rfl, hb30⟩
        have HV30 := Lib.hid (HPd.out.older hb30)
        clear c0 c1 c2 c3 c4 c5 c6 hz
        obtain ⟨⟨c0, c1, c2, c3, c4, c5, c6⟩, hz⟩ := HV30.out.facts
        clear hb30
        go_wp2_with fail
        refine hK.out _ _ (by exact ⟨c0, c1, c2, c3, c4, c5, c6⟩) (fun hHf30 => ?_)
        clear hK K
        try simp only [Act.put, List.setIfInBounds_toArray, List.set_cons_zero, List.set_cons_succ]
        refine wpAnyH_ready (rs := [9, 13]) (by kernel_rfl) (by simp) (AllReadyH.cons (by simp only [List.getElem?_toArray, List.getElem?_cons_succ, List.getElem?_cons_zero]; rfl) (fun K hK => ?_) (AllReadyH.cons (by simp only [List.getElem?_toArray, List.getElem?_cons_succ, List.getElem?_cons_zero]; rfl) (fun K hK => ?_) AllReadyH.nil))
        · go_simp
          go_at_call 38
          refine (HSGN.out _ (HG.out.below HV30.out.bel) (HSRC.out.older HV30.out.bel)).mono ?_
          rintro e v31 ⟨rfl, hb31⟩
          have HV31 := Lib.hid (HV30.out.older hb31)
          clear c0 c1 c2 c3 c4 c5 c6 hz
          obtain ⟨⟨c0, c1, c2, c3, c4, c5, c6⟩, hz⟩ := HV31.out.facts
          clear hb31
          go_wp2_with fail
          refine hK.out _ _ (by exact ⟨c0, c1, c2, c3, c4, c5, c6⟩) (fun hHf31 => ?_)
          clear hK K
          try simp only [Act.put, List.setIfInBounds_toArray, List.set_cons_zero, List.set_cons_succ]
          refine wpAnyH_take (i := 10) (v := ?_) (by simp only [List.getElem?_toArray, List.getElem?_cons_succ, List.getElem?_cons_zero]; rfl) (by kernel_rfl) (by kernel_rfl) (by kernel_rfl) (by intro _ _ _ h; exact h) (Or.inl ⟨by rfl, ?_⟩) (by assumption) ?_
          rotate_left
          focus (intro wT hT; (try dsimp only at hT); go_simp; try with_reducible rfl)
          try simp only [Act.put, List.setIfInBounds_toArray, List.set_cons_zero, List.set_cons_succ]
          refine wpAnyH_take (i := 11) (v := ?_) (by simp only [List.getElem?_toArray, List.getElem?_cons_succ, List.getElem?_cons_zero]; rfl) (by kernel_rfl) (by kernel_rfl) (by kernel_rfl) (by intro _ _ _ h; exact h) (Or.inl ⟨by rfl, ?_⟩) (by assumption) ?_
          rotate_left
          focus (intro wT hT; (try dsimp only at hT); go_simp; try with_reducible rfl)
          try simp only [Act.put, List.setIfInBounds_toArray, List.set_cons_zero, List.set_cons_succ]
          refine wpAnyH_take (i := 12) (v := ?_) (by simp only [List.getElem?_toArray, List.getElem?_cons_succ, List.getElem?_cons_zero]; rfl) (by kernel_rfl) (by kernel_rfl) (by kernel_rfl) (by intro _ _ _ h; exact h) (Or.inl ⟨by rfl, ?_⟩) (by assumption) ?_
          rotate_left
          focus (intro wT hT; (try dsimp only at hT); go_simp; try with_reducible rfl)
          try simp only [Act.put, List.setIfInBounds_toArray, List.set_cons_zero, List.set_cons_succ]
          refine wpAnyH_ready (rs := [13]) (by kernel_rfl) (by simp) (AllReadyH.cons (by simp only [List.getElem?_toArray, List.getElem?_cons_succ, List.getElem?_cons_zero]; rfl) (fun K hK => ?_) AllReadyH.nil)
          go_simp
          have HV32 := Lib.hid (HV31.out.older ((Below.refl _ _).alloc (Nat.le_refl _) (.cells #[.string ⟨#[]⟩, .string ⟨#[]⟩, .string ⟨#[]⟩, .bool false] 27)))
          have HY32 := Lib.hid (Bx.new v31 27 #[.string ⟨#[]⟩, .string ⟨#[]⟩, .string ⟨#[]⟩, .bool false])
          have hR9 := HV31.out.cb.lt
          obtain ⟨v32, hwa32⟩ : ∃ z, (v31).alloc (.cells #[.string ⟨#[]⟩, .string ⟨#[]⟩, .string ⟨#[]⟩, .bool false] 27) = z := ⟨_, rfl⟩
          rw [hwa32] at HV32 HY32 ⊢
          clear hwa32
          clear c0 c1 c2 c3 c4 c5 c6 hz
          obtain ⟨⟨c0, c1, c2, c3, c4, c5, c6⟩, hz⟩ := HV32.out.facts
          have x0 := HY32.out.cell (i := 0) rfl; have x1 := HY32.out.cell (i := 1) rfl; have x2 := HY32.out.cell (i := 2) rfl; have x3 := HY32.out.cell (i := 3) rfl; have y0 := HY32.out.frz 0; have y1 := HY32.out.frz 1; have y2 := HY32.out.frz 2; have y3 := HY32.out.frz 3; have hx := HY32.out.lt
          refine hK.out _ _ (by exact ⟨c0, c1, c2, c3, c4, c5, c6⟩) (fun hHf32 => ?_)
          clear hK K
          try simp only [Act.put, List.setIfInBounds_toArray, List.set_cons_zero, List.set_cons_succ]
          refine wpAnyH_ready (rs := [14]) (by kernel_rfl) (by simp) (AllReadyH.cons (by simp only [List.getElem?_toArray, List.getElem?_cons_succ, List.getElem?_cons_zero]; rfl) (fun K hK => ?_) AllReadyH.nil)
          go_simp
          have HZ9 := Lib.hid (HV32.out.set4 hR9 (.string ⟨sh.toArray⟩) (.string ⟨sp.toArray⟩) (.string ⟨sq.toArray⟩) (.bool sb))
          have HXZ := Lib.hid (show Bx ((((v32.setCell ⟨v31.heap.size, 0, none⟩ (.string ⟨sh.toArray⟩)).setCell ⟨v31.heap.size, 1, none⟩ (.string ⟨sp.toArray⟩)).setCell ⟨v31.heap.size, 2, none⟩ (.string ⟨sq.toArray⟩)).setCell ⟨v31.heap.size, 3, none⟩ (.bool sb)) v31.heap.size 27 #[.string ⟨sh.toArray⟩, .string ⟨sp.toArray⟩, .string ⟨sq.toArray⟩, .bool sb] from ((((HY32.out.set 0 (.string ⟨sh.toArray⟩)).set 1 (.string ⟨sp.toArray⟩)).set 2 (.string ⟨sq.toArray⟩)).set 3 (.bool sb)))
          obtain ⟨w9, hw9⟩ : ∃ z, ((((v32.setCell ⟨v31.heap.size, 0, none⟩ (.string ⟨sh.toArray⟩)).setCell ⟨v31.heap.size, 1, none⟩ (.string ⟨sp.toArray⟩)).setCell ⟨v31.heap.size, 2, none⟩ (.string ⟨sq.toArray⟩)).setCell ⟨v31.heap.size, 3, none⟩ (.bool sb)) = z := ⟨_, rfl⟩
          rw [hw9] at HZ9 HXZ ⊢
          clear hw9
          clear c0 c1 c2 c3 c4 c5 c6 hz
          clear x0 x1 x2 x3 y0 y1 y2 y3 hx
          obtain ⟨⟨c0, c1, c2, c3, c4, c5, c6⟩, hz⟩ := HZ9.out.facts
          refine hK.out _ _ (by exact ⟨c0, c1, c2, c3, c4, c5, c6⟩) (fun hHf9 => ?_)
          clear hK K
          try simp only [Act.put, List.setIfInBounds_toArray, List.set_cons_zero, List.set_cons_succ]
          refine wpAnyH_take (i := 15) (v := ?_) (by simp only [List.getElem?_toArray, List.getElem?_cons_succ, List.getElem?_cons_zero]; rfl) (by kernel_rfl) (by kernel_rfl) (by kernel_rfl) (by intro _ _ _ h; exact h) (Or.inl ⟨by rfl, ?_⟩) (by assumption) ?_
          rotate_left
          focus (intro wT hT; (try dsimp only at hT); go_simp; try with_reducible rfl)
          try simp only [Act.put, List.setIfInBounds_toArray, List.set_cons_zero, List.set_cons_succ]
          refine wpAnyH_done (by kernel_rfl) ?_ _
          go_wp2_with fail
          go_meet
          exact ⟨_, rfl, rfl, HZ9.out, HXZ.out⟩
        · go_simp
          have HV31 := Lib.hid (HV30.out.older ((Below.refl _ _).alloc (Nat.le_refl _) (.cells #[.string ⟨#[]⟩, .string ⟨#[]⟩, .string ⟨#[]⟩, .bool false] 27)))
          have HY31 := Lib.hid (Bx.new v30 27 #[.string ⟨#[]⟩, .string ⟨#[]⟩, .string ⟨#[]⟩, .bool false])
          have hR9 := HV30.out.cb.lt
          obtain ⟨v31, hwa31⟩ : ∃ z, (v30).alloc (.cells #[.string ⟨#[]⟩, .string ⟨#[]⟩, .string ⟨#[]⟩, .bool false] 27) = z := ⟨_, rfl⟩
          rw [hwa31] at HV31 HY31 ⊢
          clear hwa31
          clear c0 c1 c2 c3 c4 c5 c6 hz
          obtain ⟨⟨c0, c1, c2, c3, c4, c5, c6⟩, hz⟩ := HV31.out.facts
          have x0 := HY31.out.cell (i := 0) rfl; have x1 := HY31.out.cell (i := 1) rfl; have x2 := HY31.out.cell (i := 2) rfl; have x3 := HY31.out.cell (i := 3) rfl; have y0 := HY31.out.frz 0; have y1 := HY31.out.frz 1; have y2 := HY31.out.frz 2; have y3 := HY31.out.frz 3; have hx := HY31.out.lt
          refine hK.out _ _ (by exact ⟨c0, c1, c2, c3, c4, c5, c6⟩) (fun hHf31 => ?_)
          clear hK K
          try simp only [Act.put, List.setIfInBounds_toArray, List.set_cons_zero, List.set_cons_succ]
          refine wpAnyH_ready (rs := [9]) (by kernel_rfl) (by simp) (AllReadyH.cons (by simp only [List.getElem?_toArray, List.getElem?_cons_succ, List.getElem?_cons_zero]; rfl) (fun K hK => ?_) AllReadyH.nil)
          go_simp
          go_at_call 38
          refine (HSGN.out _ (HG.out.below HV31.out.bel) (HSRC.out.older HV31.out.bel)).mono ?_
          rintro e v32 ⟨rfl, hb32⟩
          have HV32 := Lib.hid (HV31.out.older hb32)
          have HY32 := Lib.hid (HY31.out.older hb32)
          clear x0 x1 x2 x3 y0 y1 y2 y3 hx
          have x0 := HY32.out.cell (i := 0) rfl; have x1 := HY32.out.cell (i := 1) rfl; have x2 := HY32.out.cell (i := 2) rfl; have x3 := HY32.out.cell (i := 3) rfl; have y0 := HY32.out.frz 0; have y1 := HY32.out.frz 1; have y2 := HY32.out.frz 2; have y3 := HY32.out.frz 3; have hx := HY32.out.lt
          clear c0 c1 c2 c3 c4 c5 c6 hz
          obtain ⟨⟨c0, c1, c2, c3, c4, c5, c6⟩, hz⟩ := HV32.out.facts
          clear hb32
          go_wp2_with fail
          refine hK.out _ _ (by exact ⟨c0, c1, c2, c3, c4, c5, c6⟩) (fun hHf32 => ?_)
          clear hK K
          try simp only [Act.put, List.setIfInBounds_toArray, List.set_cons_zero, List.set_cons_succ]
          refine wpAnyH_take (i := 10) (v := ?_) (by simp only [List.getElem?_toArray, List.getElem?_cons_succ, List.getElem?_cons_zero]; rfl) (by kernel_rfl) (by kernel_rfl) (by kernel_rfl) (by intro _ _ _ h; exact h) (Or.inl ⟨by rfl, ?_⟩) (by assumption) ?_
          rotate_left
          focus (intro wT hT; (try dsimp only at hT); go_simp; try with_reducible rfl)
          try simp only [Act.put, List.setIfInBounds_toArray, List.set_cons_zero, List.set_cons_succ]
          refine wpAnyH_take (i := 11) (v := ?_) (by simp only [List.getElem?_toArray, List.getElem?_cons_succ, List.getElem?_cons_zero]; rfl) (by kernel_rfl) (by kernel_rfl) (by kernel_rfl) (by intro _ _ _ h; exact h) (Or.inl ⟨by rfl, ?_⟩) (by assumption) ?_
          rotate_left
          focus (intro wT hT; (try dsimp only at hT); go_simp; try with_reducible rfl)
          try simp only [Act.put, List.setIfInBounds_toArray, List.set_cons_zero, List.set_cons_succ]
          refine wpAnyH_take (i := 12) (v := ?_) (by simp only [List.getElem?_toArray, List.getElem?_cons_succ, List.getElem?_cons_zero]; rfl) (by kernel_rfl) (by kernel_rfl) (by kernel_rfl) (by intro _ _ _ h; exact h) (Or.inl ⟨by rfl, ?_⟩) (by assumption) ?_
          rotate_left
          focus (intro wT hT; (try dsimp only at hT); go_simp; try with_reducible rfl)
          try simp only [Act.put, List.setIfInBounds_toArray, List.set_cons_zero, List.set_cons_succ]
          refine wpAnyH_ready (rs := [14]) (by kernel_rfl) (by simp) (AllReadyH.cons (by simp only [List.getElem?_toArray, List.getElem?_cons_succ, List.getElem?_cons_zero]; rfl) (fun K hK => ?_) AllReadyH.nil)
          go_simp
          have HZ9 := Lib.hid (HV32.out.set4 hR9 (.string ⟨sh.toArray⟩) (.string ⟨sp.toArray⟩) (.string ⟨sq.toArray⟩) (.bool sb))
          have HXZ := Lib.hid (show Bx ((((v32.setCell ⟨v30.heap.size, 0, none⟩ (.string ⟨sh.toArray⟩)).setCell ⟨v30.heap.size, 1, none⟩ (.string ⟨sp.toArray⟩)).setCell ⟨v30.heap.size, 2, none⟩ (.string ⟨sq.toArray⟩)).setCell ⟨v30.heap.size, 3, none⟩ (.bool sb)) v30.heap.size 27 #[.string ⟨sh.toArray⟩, .string ⟨sp.toArray⟩, .string ⟨sq.toArray⟩, .bool sb] from ((((HY32.out.set 0 (.string ⟨sh.toArray⟩)).set 1 (.string ⟨sp.toArray⟩)).set 2 (.string ⟨sq.toArray⟩)).set 3 (.bool sb)))
          obtain ⟨w9, hw9⟩ : ∃ z, ((((v32.setCell ⟨v30.heap.size, 0, none⟩ (.string ⟨sh.toArray⟩)).setCell ⟨v30.heap.size, 1, none⟩ (.string ⟨sp.toArray⟩)).setCell ⟨v30.heap.size, 2, none⟩ (.string ⟨sq.toArray⟩)).setCell ⟨v30.heap.size, 3, none⟩ (.bool sb)) = z := ⟨_, rfl⟩
          rw [hw9] at HZ9 HXZ ⊢
          clear hw9
          clear c0 c1 c2 c3 c4 c5 c6 hz
          clear x0 x1 x2 x3 y0 y1 y2 y3 hx
          obtain ⟨⟨c0, c1, c2, c3, c4, c5, c6⟩, hz⟩ := HZ9.out.facts
          refine hK.out _ _ (by exact ⟨c0, c1, c2, c3, c4, c5, c6⟩) (fun hHf9 => ?_)
          clear hK K
          try simp only [Act.put, List.setIfInBounds_toArray, List.set_cons_zero, List.set_cons_succ]
          refine wpAnyH_take (i := 15) (v := ?_) (by simp only [List.getElem?_toArray, List.getElem?_cons_succ, List.getElem?_cons_zero]; rfl) (by kernel_rfl) (by kernel_rfl) (by kernel_rfl) (by intro _ _ _ h; exact h) (Or.inl ⟨by rfl, ?_⟩) (by assumption) ?_
          rotate_left
          focus (intro wT hT; (try dsimp only at hT); go_simp; try with_reducible rfl)
          try simp only [Act.put, List.setIfInBounds_toArray, List.set_cons_zero, List.set_cons_succ]
          refine wpAnyH_done (by kernel_rfl) ?_ _
          go_wp2_with fail
          go_meet
          exact ⟨_, rfl, rfl, HZ9.out, HXZ.out⟩
      · go_simp
        have HV30 := Lib.hid (HPd.out.older ((Below.refl _ _).alloc (Nat.le_refl _) (.cells #[.string ⟨#[]⟩, .string ⟨#[]⟩, .string ⟨#[]⟩, .bool false] 27)))
        have HY30 := Lib.hid (Bx.new wd 27 #[.string ⟨#[]⟩, .string ⟨#[]⟩, .string ⟨#[]⟩, .bool false])
        have hR9 := HPd.out.cb.lt
        obtain ⟨v30, hwa30⟩ : ∃ z, (wd).alloc (.cells #[.string ⟨#[]⟩, .string ⟨#[]⟩, .string ⟨#[]⟩, .bool false] 27) = z := ⟨_, rfl⟩
        rw [hwa30] at HV30 HY30 ⊢
        clear hwa30
        clear c0 c1 c2 c3 c4 c5 c6 hz
        obtain ⟨⟨c0, c1, c2, c3, c4, c5, c6⟩, hz⟩ := HV30.out.facts
        have x0 := HY30.out.cell (i := 0) rfl; have x1 := HY30.out.cell (i := 1) rfl; have x2 := HY30.out.cell (i := 2) rfl; have x3 := HY30.out.cell (i := 3) rfl; have y0 := HY30.out.frz 0; have y1 := HY30.out.frz 1; have y2 := HY30.out.frz 2; have y3 := HY30.out.frz 3; have hx := HY30.out.lt
        refine hK.out _ _ (by exact ⟨c0, c1, c2, c3, c4, c5, c6⟩) (fun hHf30 => ?_)
        clear hK K
        try simp only [Act.put, List.setIfInBounds_toArray, List.set_cons_zero, List.set_cons_succ]
        refine wpAnyH_ready (rs := [2]) (by kernel_rfl) (by simp) (AllReadyH.cons (by simp only [List.getElem?_toArray, List.getElem?_cons_succ, List.getElem?_cons_zero]; rfl) (fun K hK => ?_) AllReadyH.nil)
        go_simp
        go_at_call 32
        refine (of_any ⟨h, p, q, b⟩ _).mono ?_
        rintro e v31 ⟨rfl, hb31⟩
        have HV31 := Lib.hid (HV30.out.older hb31)
        have HY31 := Lib.hid (HY30.out.older hb31)
        clear x0 x1 x2 x3 y0 y1 y2 y3 hx
        have x0 := HY31.out.cell (i := 0) rfl; have x1 := HY31.out.cell (i := 1) rfl; have x2 := HY31.out.cell (i := 2) rfl; have x3 := HY31.out.cell (i := 3) rfl; have y0 := HY31.out.frz 0; have y1 := HY31.out.frz 1; have y2 := HY31.out.frz 2; have y3 := HY31.out.frz 3; have hx := HY31.out.lt
        clear c0 c1 c2 c3 c4 c5 c6 hz
        obtain ⟨⟨c0, c1, c2, c3, c4, c5, c6⟩, hz⟩ := HV31.out.facts
        clear hb31
        go_wp2_with fail
        refine hK.out _ _ (by exact ⟨c0, c1, c2, c3, c4, c5, c6⟩) (fun hHf31 => ?_)
        clear hK K
        try simp only [Act.put, List.setIfInBounds_toArray, List.set_cons_zero, List.set_cons_succ]
        refine wpAnyH_ready (rs := [9]) (by kernel_rfl) (by simp) (AllReadyH.cons (by simp only [List.getElem?_toArray, List.getElem?_cons_succ, List.getElem?_cons_zero]; rfl) (fun K hK => ?_) AllReadyH.nil)
        go_simp
        go_at_call 38
        refine (HSGN.out _ (HG.out.below HV31.out.bel) (HSRC.out.older HV31.out.bel)).mono ?_
        rintro e v32 ⟨rfl, hb32⟩
        have HV32 := Lib.hid (HV31.out.older hb32)
        have HY32 := Lib.hid (HY31.out.older hb32)
        clear x0 x1 x2 x3 y0 y1 y2 y3 hx
        have x0 := HY32.out.cell (i := 0) rfl; have x1 := HY32.out.cell (i := 1) rfl; have x2 := HY32.out.cell (i := 2) rfl; have x3 := HY32.out.cell (i := 3) rfl; have y0 := HY32.out.frz 0; have y1 := HY32.out.frz 1; have y2 := HY32.out.frz 2; have y3 := HY32.out.frz 3; have hx := HY32.out.lt
        clear c0 c1 c2 c3 c4 c5 c6 hz
        obtain ⟨⟨c0, c1, c2, c3, c4, c5, c6⟩, hz⟩ := HV32.out.facts
        clear hb32
        go_wp2_with fail
        refine hK.out _ _ (by exact ⟨c0, c1, c2, c3, c4, c5, c6⟩) (fun hHf32 => ?_)
        clear hK K
        try simp only [Act.put, List.setIfInBounds_toArray, List.set_cons_zero, List.set_cons_succ]
        refine wpAnyH_take (i := 10) (v := ?_) (by simp only [List.getElem?_toArray, List.getElem?_cons_succ, List.getElem?_cons_zero]; rfl) (by kernel_rfl) (by kernel_rfl) (by kernel_rfl) (by intro _ _ _ h; exact h) (Or.inl ⟨by rfl, ?_⟩) (by assumption) ?_
        rotate_left
        focus (intro wT hT; (try dsimp only at hT); go_simp; try with_reducible rfl)
        try simp only [Act.put, List.setIfInBounds_toArray, List.set_cons_zero, List.set_cons_succ]
        refine wpAnyH_take (i := 11) (v := ?_) (by simp only [List.getElem?_toArray, List.getElem?_cons_succ, List.getElem?_cons_zero]; rfl) (by kernel_rfl) (by kernel_rfl) (by kernel_rfl) (by intro _ _ _ h; exact h) (Or.inl ⟨by rfl, ?_⟩) (by assumption) ?_
        rotate_left
        focus (intro wT hT; (try dsimp only at hT); go_simp; try with_reducible rfl)
        try simp only [Act.put, List.setIfInBounds_toArray, List.set_cons_zero, List.set_cons_succ]
        refine wpAnyH_take (i := 12) (v := ?_) (by simp only [List.getElem?_toArray, List.getElem?_cons_succ, List.getElem?_cons_zero]; rfl) (by kernel_rfl) (by kernel_rfl) (by kernel_rfl) (by intro _ _ _ h; exact h) (Or.inl ⟨by rfl, ?_⟩) (by assumption) ?_
        rotate_left
        focus (intro wT hT; (try dsimp only at hT); go_simp; try with_reducible rfl)
        try simp only [Act.put, List.setIfInBounds_toArray, List.set_cons_zero, List.set_cons_succ]
        refine wpAnyH_ready (rs := [14]) (by kernel_rfl) (by simp) (AllReadyH.cons (by simp only [List.getElem?_toArray, List.getElem?_cons_succ, List.getElem?_cons_zero]; rfl) (fun K hK => ?_) AllReadyH.nil)
        go_simp
        have HZ9 := Lib.hid (HV32.out.set4 hR9 (.string ⟨sh.toArray⟩) (.string ⟨sp.toArray⟩) (.string ⟨sq.toArray⟩) (.bool sb))
        have HXZ := Lib.hid (show Bx ((((v32.setCell ⟨wd.heap.size, 0, none⟩ (.string ⟨sh.toArray⟩)).setCell ⟨wd.heap.size, 1, none⟩ (.string ⟨sp.toArray⟩)).setCell ⟨wd.heap.size, 2, none⟩ (.string ⟨sq.toArray⟩)).setCell ⟨wd.heap.size, 3, none⟩ (.bool sb)) wd.heap.size 27 #[.string ⟨sh.toArray⟩, .string ⟨sp.toArray⟩, .string ⟨sq.toArray⟩, .bool sb] from ((((HY32.out.set 0 (.string ⟨sh.toArray⟩)).set 1 (.string ⟨sp.toArray⟩)).set 2 (.string ⟨sq.toArray⟩)).set 3 (.bool sb)))
        obtain ⟨w9, hw9⟩ : ∃ z, ((((v32.setCell ⟨wd.heap.size, 0, none⟩ (.string ⟨sh.toArray⟩)).setCell ⟨wd.heap.size, 1, none⟩ (.string ⟨sp.toArray⟩)).setCell ⟨wd.heap.size, 2, none⟩ (.string ⟨sq.toArray⟩)).setCell ⟨wd.heap.size, 3, none⟩ (.bool sb)) = z := ⟨_, rfl⟩
        rw [hw9] at HZ9 HXZ ⊢
        clear hw9
        clear c0 c1 c2 c3 c4 c5 c6 hz
        clear x0 x1 x2 x3 y0 y1 y2 y3 hx
        obtain ⟨⟨c0, c1, c2, c3, c4, c5, c6⟩, hz⟩ := HZ9.out.facts
        refine hK.out _ _ (by exact ⟨c0, c1, c2, c3, c4, c5, c6⟩) (fun hHf9 => ?_)
        clear hK K
        try simp only [Act.put, List.setIfInBounds_toArray, List.set_cons_zero, List.set_cons_succ]
        refine wpAnyH_take (i := 15) (v := ?_) (by simp only [List.getElem?_toArray, List.getElem?_cons_succ, List.getElem?_cons_zero]; rfl) (by kernel_rfl) (by kernel_rfl) (by kernel_rfl) (by intro _ _ _ h; exact h) (Or.inl ⟨by rfl, ?_⟩) (by assumption) ?_
        rotate_left
        focus (intro wT hT; (try dsimp only at hT); go_simp; try with_reducible rfl)
        try simp only [Act.put, List.setIfInBounds_toArray, List.set_cons_zero, List.set_cons_succ]
        refine wpAnyH_done (by kernel_rfl) ?_ _
        go_wp2_with fail
        go_meet
        exact ⟨_, rfl, rfl, HZ9.out, HXZ.out⟩
    case rest =>
      obtain ⟨R, rfl, rfl, hpx, hbx⟩ := hcut
      have HP3 := Lib.hid hpx
      have HX3 := Lib.hid hbx
      clear hpx hbx
      obtain ⟨⟨c0, c1, c2, c3, c4, c5, c6⟩, hz⟩ := HP3.out.facts
      go_wp2_with fail
      refine (HRSG.out _ (HSRC.out.older HP3.out.bel)).mono ?_
      rintro e w5 ⟨rfl, hb5⟩
      have HB5 := Lib.hid (HP3.out.bel.trans (hb5.mono HP3.out.bel.size))
      have HX5 := Lib.hid (HX3.out.older hb5)
      clear hb5
      clear c0 c1 c2 c3 c4 c5 c6 hz
      have HB6 := Lib.hid (HB5.out.alloc HB5.out.size (.cells #[.string ⟨sh.toArray⟩, .string ⟨sp.toArray⟩, .string ⟨sq.toArray⟩, .bool sb] 62))
      have HX6 := Lib.hid (HX5.out.older ((Below.refl _ _).alloc (Nat.le_refl _) (.cells #[.string ⟨sh.toArray⟩, .string ⟨sp.toArray⟩, .string ⟨sq.toArray⟩, .bool sb] 62)))
      have HY6 := Lib.hid (Bx.new w5 62 #[.string ⟨sh.toArray⟩, .string ⟨sp.toArray⟩, .string ⟨sq.toArray⟩, .bool sb])
      go_wp2_with fail
      obtain ⟨w6, hw6⟩ : ∃ z, w5.alloc (.cells #[.string ⟨sh.toArray⟩, .string ⟨sp.toArray⟩, .string ⟨sq.toArray⟩, .bool sb] 62) = z := ⟨_, rfl⟩
      rw [hw6] at HB6 HX6 HY6 ⊢
      clear hw6
      obtain ⟨R9, hR9⟩ : ∃ z, w5.heap.size = z := ⟨_, rfl⟩
      rw [hR9] at HY6 ⊢
      clear hR9
      have HAB := adB_refl sh sp sq sb
      have HBd := Lib.hid (HB6.out.trans ((Below.refl w6.heap.size w6).drew.mono HB6.out.size))
      have HXd := Lib.hid (HX6.out.older ((Below.refl _ _).drew))
      have HYd := Lib.hid (HY6.out.older ((Below.refl _ _).drew))
      have a0 := HX6.out.cell (i := 0) rfl; have a1 := HX6.out.cell (i := 1) rfl; have a2 := HX6.out.cell (i := 2) rfl; have a3 := HX6.out.cell (i := 3) rfl; have b0 := HY6.out.cell (i := 0) rfl; have b1 := HY6.out.cell (i := 1) rfl; have b2 := HY6.out.cell (i := 2) rfl; have b3 := HY6.out.cell (i := 3) rfl; have hza := HX6.out.lt; have hzb := HY6.out.lt
      refine wp_region_held_drew (S := fun w' => w'.cell? ⟨R, 0, none⟩ = some (.string ⟨sh.toArray⟩) ∧ w'.cell? ⟨R, 1, none⟩ = some (.string ⟨sp.toArray⟩) ∧ w'.cell? ⟨R, 2, none⟩ = some (.string ⟨sq.toArray⟩) ∧ w'.cell? ⟨R, 3, none⟩ = some (.bool sb) ∧ w'.cell? ⟨R9, 0, none⟩ = some (.string ⟨sh.toArray⟩) ∧ w'.cell? ⟨R9, 1, none⟩ = some (.string ⟨sp.toArray⟩) ∧ w'.cell? ⟨R9, 2, none⟩ = some (.string ⟨sq.toArray⟩) ∧ w'.cell? ⟨R9, 3, none⟩ = some (.bool sb)) (by kernel_rfl) (by exact ⟨a0, a1, a2, a3, b0, b1, b2, b3⟩) (fun hHeld => ?_)
      obtain ⟨wd, hwd⟩ : ∃ z, w6.drew = z := ⟨_, rfl⟩
      rw [hwd] at hHeld HBd HXd HYd ⊢
      clear hwd
      clear a0 a1 a2 a3 b0 b1 b2 b3 hza hzb
      have a0 := HXd.out.cell (i := 0) rfl; have a1 := HXd.out.cell (i := 1) rfl; have a2 := HXd.out.cell (i := 2) rfl; have a3 := HXd.out.cell (i := 3) rfl; have b0 := HYd.out.cell (i := 0) rfl; have b1 := HYd.out.cell (i := 1) rfl; have b2 := HYd.out.cell (i := 2) rfl; have b3 := HYd.out.cell (i := 3) rfl; have hza := HXd.out.lt; have hzb := HYd.out.lt
      refine wpAnyH_take (i := 0) (v := ?_) (by simp only [List.getElem?_toArray, List.getElem?_cons_succ, List.getElem?_cons_zero]; rfl) (by kernel_rfl) (by kernel_rfl) (by kernel_rfl) (by intro _ _ _ h; exact h) (Or.inl ⟨by rfl, ?_⟩) (by assumption) ?_
      rotate_left
      focus (intro wT hT; (try dsimp only at hT); go_simp; try with_reducible rfl)
      try simp only [Act.put, List.setIfInBounds_toArray, List.set_cons_zero, List.set_cons_succ]
      refine wpAnyH_take (i := 2) (v := ?_) (by simp only [List.getElem?_toArray, List.getElem?_cons_succ, List.getElem?_cons_zero]; rfl) (by kernel_rfl) (by kernel_rfl) (by kernel_rfl) (by intro _ _ _ h; exact h) (Or.inl ⟨by rfl, ?_⟩) (by assumption) ?_
      rotate_left
      focus (intro wT hT; (try dsimp only at hT); go_simp; try with_reducible rfl)
      try simp only [Act.put, List.setIfInBounds_toArray, List.set_cons_zero, List.set_cons_succ]
      refine wpAnyH_ready (rs := [1]) (by kernel_rfl) (by simp) (AllReadyH.cons (by simp only [List.getElem?_toArray, List.getElem?_cons_succ, List.getElem?_cons_zero]; rfl) (fun K hK => ?_) AllReadyH.nil)
      go_simp
      go_at_call 35
      refine (HNUM.out _).mono ?_
      rintro e u1 ⟨rfl, rfl⟩
      go_wp2_with fail
      refine hK.out _ _ (by exact ⟨a0, a1, a2, a3, b0, b1, b2, b3⟩) (fun hHg => ?_)
      clear hK K
      try simp only [Act.put, List.setIfInBounds_toArray, List.set_cons_zero, List.set_cons_succ]
      refine wpAnyH_take (i := 3) (v := ?_) (by simp only [List.getElem?_toArray, List.getElem?_cons_succ, List.getElem?_cons_zero]; rfl) (by kernel_rfl) (by kernel_rfl) (by kernel_rfl) (by intro _ _ _ h; exact h) (Or.inl ⟨by rfl, ?_⟩) (by assumption) ?_
      rotate_left
      focus (intro wT hT; (try dsimp only at hT); go_simp; try with_reducible rfl)
      try simp only [Act.put, List.setIfInBounds_toArray, List.set_cons_zero, List.set_cons_succ]
      refine wpAnyH_take (i := 4) (v := ?_) (by simp only [List.getElem?_toArray, List.getElem?_cons_succ, List.getElem?_cons_zero]; rfl) (by kernel_rfl) (by kernel_rfl) (by kernel_rfl) (by intro _ _ _ h; exact h) (Or.inl ⟨by rfl, ?_⟩) (by assumption) ?_
      rotate_left
      focus (intro wT hT; (try dsimp only at hT); go_simp; try with_reducible rfl)
      try simp only [Act.put, List.setIfInBounds_toArray, List.set_cons_zero, List.set_cons_succ]
      refine wpAnyH_take (i := 5) (v := ?_) (by simp only [List.getElem?_toArray, List.getElem?_cons_succ, List.getElem?_cons_zero]; rfl) (by kernel_rfl) (by kernel_rfl) (by kernel_rfl) (by intro _ _ _ h; exact h) (Or.inl ⟨by rfl, ?_⟩) (by assumption) ?_
      rotate_left
      focus (intro wT hT; (try dsimp only at hT); go_simp; try with_reducible rfl)
      try simp only [Act.put, List.setIfInBounds_toArray, List.set_cons_zero, List.set_cons_succ]
      refine wpAnyH_take (i := 7) (v := ?_) (by simp only [List.getElem?_toArray, List.getElem?_cons_succ, List.getElem?_cons_zero]; rfl) (by kernel_rfl) (by kernel_rfl) (by kernel_rfl) (by intro _ _ _ h; exact h) (Or.inl ⟨by rfl, ?_⟩) (by assumption) ?_
      rotate_left
      focus (intro wT hT; (try dsimp only at hT); go_simp; try with_reducible rfl)
      try simp only [Act.put, List.setIfInBounds_toArray, List.set_cons_zero, List.set_cons_succ]
      refine wpAnyH_ready (rs := [6]) (by kernel_rfl) (by simp) (AllReadyH.cons (by simp only [List.getElem?_toArray, List.getElem?_cons_succ, List.getElem?_cons_zero]; rfl) (fun K hK => ?_) AllReadyH.nil)
      go_simp
      go_at_call 36
      refine (ref_any ⟨sh, sp, sq, sb⟩ _).mono ?_
      rintro e u2 ⟨rfl, hu2⟩
      have HBe := Lib.hid (HBd.out.trans (hu2.mono HBd.out.size))
      have HXe := Lib.hid (HXd.out.older hu2)
      have HYe := Lib.hid (HYd.out.older hu2)
      clear a0 a1 a2 a3 b0 b1 b2 b3 hza hzb
      have a0 := HXe.out.cell (i := 0) rfl; have a1 := HXe.out.cell (i := 1) rfl; have a2 := HXe.out.cell (i := 2) rfl; have a3 := HXe.out.cell (i := 3) rfl; have b0 := HYe.out.cell (i := 0) rfl; have b1 := HYe.out.cell (i := 1) rfl; have b2 := HYe.out.cell (i := 2) rfl; have b3 := HYe.out.cell (i := 3) rfl; have hza := HXe.out.lt; have hzb := HYe.out.lt
      clear hu2
      go_wp2_with fail
      refine hK.out _ _ (by exact ⟨a0, a1, a2, a3, b0, b1, b2, b3⟩) (fun hHh => ?_)
      clear hK K
      try simp only [Act.put, List.setIfInBounds_toArray, List.set_cons_zero, List.set_cons_succ]
      refine wpAnyH_take (i := 8) (v := ?_) (by simp only [List.getElem?_toArray, List.getElem?_cons_succ, List.getElem?_cons_zero]; rfl) (by kernel_rfl) (by kernel_rfl) (by kernel_rfl) (by intro _ _ _ h; exact h) (Or.inl ⟨by rfl, ?_⟩) (by assumption) ?_
      rotate_left
      focus (intro wT hT; (try dsimp only at hT); go_simp; try with_reducible rfl)
      try simp only [Act.put, List.setIfInBounds_toArray, List.set_cons_zero, List.set_cons_succ]
      refine wpAnyH_take (i := 9) (v := ?_) (by simp only [List.getElem?_toArray, List.getElem?_cons_succ, List.getElem?_cons_zero]; rfl) (by kernel_rfl) (by kernel_rfl) (by kernel_rfl) (by intro _ _ _ h; exact h) (Or.inl ⟨by rfl, ?_⟩) (by assumption) ?_
      rotate_left
      focus (intro wT hT; (try dsimp only at hT); go_simp; try with_reducible rfl)
      try simp only [Act.put, List.setIfInBounds_toArray, List.set_cons_zero, List.set_cons_succ]
      refine wpAnyH_take (i := 10) (v := ?_) (by simp only [List.getElem?_toArray, List.getElem?_cons_succ, List.getElem?_cons_zero]; rfl) (by kernel_rfl) (by kernel_rfl) (by kernel_rfl) (by intro _ _ _ h; exact h) (Or.inl ⟨by rfl, ?_⟩) (by assumption) ?_
      rotate_left
      focus (intro wT hT; (try dsimp only at hT); go_simp; try with_reducible rfl)
      try simp only [Act.put, List.setIfInBounds_toArray, List.set_cons_zero, List.set_cons_succ]
      refine wpAnyH_done (by kernel_rfl) ?_ _
      go_wp2_with fail
      go_ret
      exact ⟨rfl, HBe.out⟩
  · go_wp2_with fail
    refine (short_no ⟨h, p, q, b⟩ (some ⟨w1.heap.size, 0, none⟩) 1 [sec.length] (w1.alloc (.cells #[.int .i64 (sec.length : Int)] 3)) (nvals_src w1 [sec.length] 1) (by simp) (fun n hn => by simp at hn; omega) (by simp only; omega) (by simp only; omega) (by simp only; omega) (by simp only [List.sum_cons, List.sum_nil, Nat.add_zero]; exact hs)).mono ?_
    rintro e w2 ⟨rfl, hb2⟩
    have HP2 := Lib.hid ((HP1.out.older ((Below.refl _ _).alloc (Nat.le_refl _) (.cells #[.int .i64 (sec.length : Int)] 3))).older hb2)
    clear hb2; clear c0 c1 c2 c3 c4 c5 c6 hz
    go_wp2_with fail
    refine (awake49_any _ (HG.out.below HP2.out.bel)).mono ?_
    rintro e w3 ⟨rfl, hb3⟩
    have HB3 := Lib.hid (HP2.out.bel.trans (hb3.mono HP2.out.bel.size))
    clear hb3
    go_wp2_with fail
    go_ret
    exact ⟨rfl, HB3.out⟩

/-- What the walk gives, for every argument. -/
theorem contract (H : Type) (enc : TypeId × Value → H) (W : World) (base : Nat) (args : Array Value) (ds gs : List (DataW H)) (before : List MemPlace)
    (hval : ∀ (j : Nat) t v, Tryz.f6.params[j]? = some t → args[j]? = some v → Value.okWide Tryz.prog W .any base t v)
    (hW : DataW.Whole enc Tryz.prog Tryz.f6.params.toList Rows.signedVerifiesSpec.vars false W args.toList ds gs before) (hsz : (DataW.weightsEach Tryz.prog Tryz.f6.params.toList (ds ++ gs)).all (· ≤ reachBytes) = true) (hr : Sg.SgnAt W) :
    Calls Tryz.prog 6 args W fun e W' => ∃ v, e = .returned v ∧ Rows.signedVerifiesSpec.post enc Tryz.prog Tryz.f6 false true false false W args v W' := by
  have hW' := hW
  have hlt := fun p hp => hW.lt p hp
  obtain ⟨p, q, hA0, hV, rfl, hfz, hnd⟩ := hW
  have hA : DataW.TrodAll enc Tryz.prog W 0 (fun _ => true) true Tryz.f6.params.toList args.toList ds p := hA0
  have hA1 := hA
  obtain ⟨rfl, rfl⟩ := trodVars_none hV
  rw [Tryz.params6] at hA hval
  obtain ⟨v0, vs0, d0, ds0, p0, q0, hargs, rfl, rfl, h0, r0⟩ := trodAll_cons hA
  obtain ⟨rfl, rfl, rfl⟩ := trodAll_nil r0
  obtain rfl : args = #[v0] := by cases args; simp_all
  have fin : ∀ W', Below W.heap.size W W' → Rows.signedVerifiesSpec.post enc Tryz.prog Tryz.f6 false true false false W #[v0] (.bool true) W' := fun W' hb => by
    simp only [List.append_nil] at hA1 hW' hlt
    exact ⟨_, _, _, [], _, [], hW', trodAll_cons_mk (shut_bool Tryz.underlying4 _) trodAll_mk0, Fr.trodAll_below (by kernel_rfl) _ (by kernel_rfl) hA1 hb hlt, rfl, hb.frame _, fun h => by cases h⟩
  clear hW' hA0 hA1 hlt
  rw [Tryz.params6, List.append_nil] at hsz
  obtain ⟨lh0, lp0, lq0, lb0, sec0, u0, kn0, now0, de0, rfl, hu0, rfl, hd0⟩ := Sg.open_check (hval 0 76 v0 rfl rfl) h0
  have zc0 := Sg.check_lens hsz (j := 0) rfl rfl hd0
  refine (walk lh0 lp0 lq0 lb0 sec0 u0 kn0 now0 W hr zc0.1 zc0.2.1 zc0.2.2.1 hu0 zc0.2.2.2).mono fun e W' ⟨he, hb⟩ => ?_
  subst he
  exact ⟨_, rfl, fin W' hb⟩

theorem laid_met (os : Os) : laidMet Tryz.prog Rows.signedVerifiesRow.laid ((Fr.laidE Rows.signedVerifiesRow.laid os).forCall (fun _ _ => 0) ⟨#[], #[.agg #[.string ⟨#[]⟩, .string ⟨#[]⟩, .string ⟨#[]⟩, .bool false, .slice none 0 0, .bool false, .int .i64 0]], []⟩).memory :=
  laidMet_of_run' 8 (by kernel_rfl) (by kernel_rfl)
theorem reads (os : Os) {H : Type} (enc : TypeId × Value → H) : ∃ places, DataW.whole enc Tryz.prog ((Fr.laidE Rows.signedVerifiesRow.laid os).forCall (fun _ _ => 0) ⟨#[], #[.agg #[.string ⟨#[]⟩, .string ⟨#[]⟩, .string ⟨#[]⟩, .bool false, .slice none 0 0, .bool false, .int .i64 0]], []⟩).memory Tryz.f6.params.toList Rows.signedVerifiesSpec.vars false (#[.agg #[.string ⟨#[]⟩, .string ⟨#[]⟩, .string ⟨#[]⟩, .bool false, .slice none 0 0, .bool false, .int .i64 0]] : Array Value).toList 8 = some ([.agg [.agg [.lit (.string []), .lit (.string []), .lit (.string []), .lit (.bool false)], .nil, .lit (.bool false), .lit (.int .i64 0)]], [], places) :=
  ⟨[], by kernel_rfl⟩

theorem lifted (os : Os) (started : os.Started) (H : Type) (enc : TypeId × Value → H) (F : Stop.Interp) :
    ReturnsInHanded {} Tryz.checked os 6 .any ((OpenSpec.ofChange Rows.signedVerifiesSpec).preRow enc Tryz.prog Tryz.f6 Rows.signedVerifiesRow.domain false Rows.signedVerifiesRow.laid) (((OpenSpec.ofChange Rows.signedVerifiesSpec).at F).post enc Tryz.prog Tryz.f6 false true false false) := by
  obtain ⟨places, hx⟩ := reads os enc
  refine returnsInHanded_of_row (C := Tryz.checked) (s := OpenSpec.ofChange Rows.signedVerifiesSpec) Fr.own started (by kernel_rfl) Tryz.func6
    (witness_row_at (enc := enc) (C := Tryz.checked) false (Fr.laidE Rows.signedVerifiesRow.laid os) #[.agg #[.string ⟨#[]⟩, .string ⟨#[]⟩, .string ⟨#[]⟩, .bool false, .slice none 0 0, .bool false, .int .i64 0]] rfl (by kernel_rfl) (by kernel_rfl) (by kernel_rfl)
      (OpenSpec.preRow_of_cond 8 hx (by kernel_rfl) (fun k hk => by cases hk) (by kernel_rfl) (laid_met os))) ?_
  intro W base args ds gs before hval hW _ hcond hsz hlaid hsh _
  exact contract H enc W base args ds gs before hval hW (by have h9 : (DataW.weightsEach Tryz.prog (Tryz.f6.params.toList ++ []) (ds ++ gs)).all (· ≤ reachBytes) = true := hsz; rw [List.append_nil] at h9; exact h9) (Fr.sgn_laid hsh hlaid (by kernel_rfl) (by repeat first | exact List.mem_cons_self .. | apply List.mem_cons_of_mem) (by repeat first | exact List.mem_cons_self .. | apply List.mem_cons_of_mem) (by repeat first | exact List.mem_cons_self .. | apply List.mem_cons_of_mem) (by repeat first | exact List.mem_cons_self .. | apply List.mem_cons_of_mem))

theorem k_0 : Rows.signedVerifiesRow.wf (OpenSpec.ofChange (OpenSpec.ofChange Rows.signedVerifiesSpec).bare) = true := by kernel_rfl
theorem k_1 : laidOutB Tryz.prog = true := Fr.sf_laidOut
theorem k_2 : mapsRowed Tryz.prog = true := Fr.sf_mapsRowed
theorem k_3 : Tryz.f6.params.all (Tryz.prog.readableRec ·) = true := by kernel_rfl
theorem k_4 : namedTie Tryz.prog Rows.signedVerifiesRow.named (OpenSpec.ofChange Rows.signedVerifiesSpec).bare.vars = true := by kernel_rfl
theorem k_5 : (Rows.signedVerifiesRow.stops == []) = true := by kernel_rfl
theorem k_6 : (Tryz.prog.stops == []) = true := Fr.sf_stops
theorem k_7 : (Rows.signedVerifiesRow.knobs == []) = true := by kernel_rfl
theorem k_8 : (Tryz.prog.stopKnobs == []) = true := Fr.sf_stopKnobs
theorem k_9 : (Rows.signedVerifiesRow.inPlace == Tryz.prog.inPlace 6) = true := by kernel_rfl
theorem k_10 : (Rows.signedVerifiesRow.unfollowed == Tryz.prog.unfollowed 6) = true := by kernel_rfl
theorem k_11 : (Rows.signedVerifiesRow.recurses == Tryz.prog.recurses 6) = true := by kernel_rfl
theorem k_12 : (Rows.signedVerifiesRow.named == Tryz.prog.varsNamed 6) = true := by kernel_rfl
theorem k_13 : (Rows.signedVerifiesRow.maps == (Tryz.f6.params.toList ++ (OpenSpec.ofChange Rows.signedVerifiesSpec).bare.plain.varTypes Tryz.prog).any (Tryz.prog.mapsRec ·)) = true := by kernel_rfl
theorem k_14 : (Rows.signedVerifiesRow.ifaces == (Tryz.f6.params.toList ++ (OpenSpec.ofChange Rows.signedVerifiesSpec).bare.plain.varTypes Tryz.prog).any (Tryz.prog.ifacesRec ·)) = true := by kernel_rfl
theorem k_15 : (Rows.signedVerifiesRow.mapsOut == Tryz.prog.mapsAmong Tryz.f6.resultTypes.toList) = true := by kernel_rfl
theorem k_16 : (Rows.signedVerifiesRow.loops == (Tryz.f6.params.toList ++ (OpenSpec.ofChange Rows.signedVerifiesSpec).bare.plain.varTypes Tryz.prog).any (Tryz.prog.loopsFrom ·)) = true := by kernel_rfl
theorem k_17 : (Rows.signedVerifiesRow.wideKeys == (Tryz.f6.params.toList ++ (OpenSpec.ofChange Rows.signedVerifiesSpec).bare.plain.varTypes Tryz.prog ++ Tryz.f6.resultTypes.toList).any (Tryz.prog.wideKeysFrom ·)) = true := by kernel_rfl
theorem k_18 : (OpenSpec.ofChange Rows.signedVerifiesSpec).bare.vars.all (Tryz.prog.varReadable ·) = true := by kernel_rfl
theorem k_19 : Tryz.f6.resultTypes.all (fun t => Tryz.prog.readableRec t && decide (t < Tryz.prog.types.size)) = true := by kernel_rfl
theorem k_20 : (Rows.signedVerifiesRow.ifacesOut == Tryz.f6.resultTypes.toList.any (Tryz.prog.ifacesRec ·)) = true := by kernel_rfl
theorem k_21 : (Rows.signedVerifiesRow.loopsOut == Tryz.f6.resultTypes.toList.any (Tryz.prog.loopsFrom ·)) = true := by kernel_rfl
theorem k_22 : (Rows.signedVerifiesRow.plainKeys == Tryz.prog.plainKeys) = true := Fr.sf_plainKeys
theorem k_23 : Rows.signedVerifiesRow.shortTexts.isNone = true := by kernel_rfl
theorem k_24 : Tryz.prog.stopsHeard = true := Fr.sf_heard
theorem k_25 : Tryz.prog.mayEnter = true := Fr.sf_mayEnter
theorem k_26 : (Rows.signedVerifiesRow.lifted == Tryz.prog.liftsFinal) = true := Fr.sf_lifted
theorem k_27 : (Tryz.prog.make == some Rows.signedVerifiesRow.make) = true := Fr.sf_make
theorem k_28 : (Rows.signedVerifiesRow.kinds == (if Rows.signedVerifiesRow.domain.isEmpty then [] else Tryz.f6.params.toList.map fun t => match Tryz.prog.underlying t with | some (.int k) => some k | _ => none)) = true := by kernel_rfl
theorem k_29 : (Rows.signedVerifiesRow.pinned == Rows.signedVerifiesRow.pinnedBy) = true := by kernel_rfl
theorem k_30 : (Rows.signedVerifiesRow.veiled == (Tryz.f6.params.toList ++ (OpenSpec.ofChange Rows.signedVerifiesSpec).bare.plain.varTypes Tryz.prog ++ Tryz.f6.resultTypes.toList).any (Tryz.prog.veiledRec ·)) = true := by kernel_rfl
theorem k_31 : Rows.signedVerifiesRow.veiledFits Tryz.prog Tryz.f6.params.toList (Tryz.f6.params.toList ++ (OpenSpec.ofChange Rows.signedVerifiesSpec).bare.plain.varTypes Tryz.prog ++ Tryz.f6.resultTypes.toList) = true := by kernel_rfl
theorem closed : joinedFacts Tryz.prog 6 Tryz.f6 (OpenSpec.ofChange Rows.signedVerifiesSpec).bare Rows.signedVerifiesRow = true := Op.andT (Op.andT (Op.andT (Op.andT (Op.andT (Op.andT (Op.andT (Op.andT (Op.andT (Op.andT (Op.andT (Op.andT (Op.andT (Op.andT (Op.andT (Op.andT (Op.andT (Op.andT (Op.andT (Op.andT (Op.andT (Op.andT (Op.andT (Op.andT (Op.andT (Op.andT (Op.andT (Op.andT (Op.andT (Op.andT (Op.andT (k_0) k_1) k_2) k_3) k_4) k_5) k_6) k_7) k_8) k_9) k_10) k_11) k_12) k_13) k_14) k_15) k_16) k_17) k_18) k_19) k_20) k_21) k_22) k_23) k_24) k_25) k_26) k_27) k_28) k_29) k_30) k_31

theorem said : Rows.SignedVerifiesSaid :=
  OpenClaim.holds_of_cond 6 Tryz.f6 rfl rfl rfl rfl rfl rfl rfl ⟨rfl, rfl, rfl, rfl, rfl⟩ rfl rfl rfl rfl rfl (by kernel_rfl) Tryz.func6 closed
    (of_decide_eq_true (by kernel_rfl)) (by unfold Func.isWrapper; first | (rw [if_pos (by decide +kernel)]; kernel_rfl) | (rw [if_neg (by decide +kernel)]; exact ⟨rfl, rfl⟩))
    (fun os started H enc _ F => by rw [OpenClaim.pre_eq_preRow]; exact lifted os started H enc F)

theorem plain (b : Bool) (hb : b = Tryz.pinned.checked.prog.looks []) (f : FuncId) (fn : Func) (hf : Tryz.pinned.checked.prog.funcNamed "quayside/quaysidelaw49.SignedVerifies" = some f) (hfn : Tryz.pinned.checked.prog.funcs[f]? = some fn) :
    b = Tryz.pinned.checked.prog.looks [] ∧ ∀ (j : Nat) t, fn.params[j]? = some t → Tryz.pinned.checked.prog.wantsStandIn t = false := by
  obtain rfl : f = 6 := Option.some.inj ((show Tryz.prog.funcNamed "quayside/quaysidelaw49.SignedVerifies" = some 6 by kernel_rfl).symm.trans hf) |>.symm
  obtain rfl : fn = Tryz.f6 := (Option.some.inj (Tryz.func6.symm.trans hfn)).symm
  refine ⟨hb, fun j t ht => ?_⟩
  rw [Tryz.params6] at ht
  have hm : t ∈ [76] := by simpa using Array.mem_of_getElem? ht
  have hall : ([76].all fun u => !Tryz.prog.wantsStandIn u) = true := by kernel_rfl
  exact (show Tryz.prog.wantsStandIn t = false by simpa using List.all_eq_true.1 hall t hm)

theorem proved : Rows.SignedVerifiesCardSaid :=
  Claim7.holds_tied_plain_at .later [] _ _ _ _ said (fun _ h => by cases h) (by kernel_rfl) (fun _ h => by cases h) signedVerifies_row_tie rfl ⟨rfl, rfl⟩ (by kernel_rfl) rfl (plain _ (by kernel_rfl)) (by kernel_rfl)
#print axioms proved
end Go.Proofs.YtpmhkkjecapbeaaGreatDoor.lawSignedVerifies
