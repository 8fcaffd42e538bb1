/- Contract: the gate's add. Conditions: none beyond the gate's own bounds. -/
import Derived.Test.YtnppicekfjdefaaGreatDoorGateB
import Derived.BigQuiet
import Derived.Deep.RegionHeld3
import Derived.Deep.DeepCutAuto
namespace Go.Proofs.YtnppicekfjdefaaGreatDoor
open Go.RowKit Pl Ad Go.Maps
attribute [local go_sem] ba_get ba_append ba_extract_end ba_extract_zero ba_extract
set_option maxRecDepth 100000
set_option maxHeartbeats 8000000
set_option linter.unusedVariables false
set_option linter.unusedSimpArgs false
namespace A1
theorem cell_setG {w : World} {q i g : Nat} {u : Value} (h : w.cell? ⟨q, i, none⟩ = some u) (hn : q ≠ g) (a b c : Value) : (((w.setCell ⟨g, 0, none⟩ a).setCell ⟨g, 1, none⟩ b).setCell ⟨g, 2, none⟩ c).cell? ⟨q, i, none⟩ = some u := (touch_set3 w g a b c).cell h hn
theorem cell_setD {w : World} {q i g : Nat} {u : Value} (h : w.cell? ⟨q, i, none⟩ = some u) (hn : q ≠ g) (a b c : Value) : ((((w.setCell ⟨g, 0, none⟩ a).setCell ⟨g, 1, none⟩ b).setCell ⟨g, 2, none⟩ c).drew).cell? ⟨q, i, none⟩ = some u := cell_setG h hn a b c
/-- What add comes to: F; the state at the loop's head. -/
inductive AddI (F : GateM) : Bool → GateM → List (Int × Pg) → Pg → Prop
  | go (g : GateM) (l : List (Int × Pg)) (p : Pg) (hn : g.Near l) (hs : p.value.length ≤ 134217728) (ha : g.applied + 1 ≤ 1099511627776) (hl : ∀ e ∈ l, g.applied + 1 ≤ e.1) (hF : (g.push p).follow (l.filter fun e => !(e.1 == g.applied + 1)) = F) : AddI F true g l p
  | stop (p : Pg) : AddI F false F F.aside p
theorem near_sub {g : GateM} {l l' : List (Int × Pg)} (h : g.Near l) (hs : l'.Sublist l) : g.Near l' := ⟨h.win1, h.win2, h.lo, h.hi, h.len, h.room, h.asc.sublist hs, fun e he => h.hiA e (hs.subset he), Nat.le_trans hs.length_le h.few, h.size, fun e he => h.sizeA e (hs.subset he)⟩
theorem follow_far {g : GateM} {l : List (Int × Pg)} (h : ∀ e ∈ l, g.applied + 1 < e.1) : g.follow l = g.withA l := by
  cases l with
  | nil => rfl
  | cons e r =>
    obtain ⟨n, p⟩ := e
    have := h (n, p) (by simp)
    simp only at this
    rw [GateM.follow, if_neg (by omega), if_neg (by omega)]
theorem AddI.next {F g : GateM} {l : List (Int × Pg)} {p : Pg} (h : AddI F true g l p) :
    AddI F (GateM.hasK (g.applied + 1 + 1) (l.filter fun e => !(e.1 == g.applied + 1))) (if GateM.hasK (g.applied + 1 + 1) (l.filter fun e => !(e.1 == g.applied + 1)) then g.push p else F) (l.filter fun e => !(e.1 == g.applied + 1)) (atK (g.applied + 1 + 1) (l.filter fun e => !(e.1 == g.applied + 1))) ∧
      (GateM.hasK (g.applied + 1 + 1) (l.filter fun e => !(e.1 == g.applied + 1)) = false → F = (g.push p).withA (l.filter fun e => !(e.1 == g.applied + 1))) := by
  cases h with
  | go g l p hn hs ha hl hF =>
    have hw := GateM.push_win g p
    have hnp := hn.push hs ha
    have hlow : ∀ e ∈ l.filter fun e => !(e.1 == g.applied + 1), g.applied + 1 + 1 ≤ e.1 := fun e he => by
      obtain ⟨h1, h2⟩ := List.mem_filter.1 he
      have := hl e h1
      simp at h2
      omega
    have hasc : GateM.Asc (l.filter fun e => !(e.1 == g.applied + 1)) := hn.asc.sublist (List.filter_sublist)
    rcases next_head hasc hlow with ⟨h1, h2⟩ | ⟨q, r, h1, h2, h3, h4, h5⟩
    · rw [h1]
      have hF2 : F = (g.push p).withA (l.filter fun e => !(e.1 == g.applied + 1)) := by rw [← hF, follow_far (by rw [hw.2.1]; exact h2)]
      refine ⟨?_, fun _ => hF2⟩
      have e : F.aside = l.filter fun e => !(e.1 == g.applied + 1) := by rw [hF2]; rfl
      have := AddI.stop (F := F) (atK (g.applied + 1 + 1) (l.filter fun e => !(e.1 == g.applied + 1)))
      rw [e] at this
      exact this
    · rw [h2]
      refine ⟨?_, fun hf => by cases hf⟩
      have hm : (g.applied + 1 + 1, q) ∈ l.filter fun e => !(e.1 == g.applied + 1) := by rw [h1]; simp
      have hml := (List.mem_filter.1 hm).1
      have hb := hn.hiA _ hml
      simp only at hb
      refine AddI.go (g.push p) _ _ (near_sub hnp List.filter_sublist) (by rw [h3]; exact hn.sizeA _ hml) (by rw [hw.2.1]; exact hb) (by rw [hw.2.1]; exact hlow) ?_
      rw [hw.2.1, h4, h3, ← hF, h1, GateM.follow, if_neg (by rw [hw.2.1]; omega), if_pos (by rw [hw.2.1])]
/-- The gate on its way through add. -/
structure AddS (w wr : World) (B R M : Nat) (v0 v : Value) (g : GateM) (l : List (Int × Pg)) (p : Pg) : Prop where
  gate : GateAt wr B R M v g l
  goes : GGoes w wr R M v0 v
  box : Box3 wr w.heap.size 56 (.int .i64 p.kind) (.int .i64 p.tenant) (.string ⟨p.value.toArray⟩)
  old : R < w.heap.size ∧ M < w.heap.size
  sep : ∀ q, v.ownBlock = some q → ¬ q = w.heap.size
variable {w wr w' : World} {B R M : Nat} {v0 v : Value} {g : GateM} {l : List (Int × Pg)} {p : Pg}
theorem AddS.older (h : AddS w wr B R M v0 v g l p) (hb : Below wr.heap.size wr w') : AddS w w' B R M v0 v g l p := ⟨h.gate.older hb, h.goes.older hb, h.box.older hb, h.old, h.sep⟩
theorem AddS.size (h : AddS w wr B R M v0 v g l p) : w.heap.size < wr.heap.size := h.box.facts.2.2
/-- A store into the gate's own variable. -/
theorem AddS.setR (h : AddS w wr B R M v0 v g l p) (i : Nat) (u : Value) (g' : GateM) (hg : GBox (wr.setCell ⟨R, i, none⟩ u) R g'.win g'.applied g'.floor v (.map (some M))) (hk : g'.kept = g.kept) : AddS w (wr.setCell ⟨R, i, none⟩ u) B R M v0 v g' l p := by
  have ht := touch_set1 wr R i u
  refine ⟨⟨h.gate.hR, h.gate.hM, hg, ?_, map_touch h.gate.map ht (fun e => h.gate.neM e.symm)⟩, ⟨h.goes.touch.setCell (.inl rfl) u, h.goes.lies⟩, box3_touch h.box ht (by have := h.old.1; omega), h.old, h.sep⟩
  rw [hk]
  exact h.gate.own.touch ht (own_neG h.gate.box h.gate.own (by decide))
/-- The purge is appended to the slice, the slice is stored. -/
theorem AddS.app {w2 : World} {V : Value} {o : Obj} (h : AddS w wr B R M v0 v g l p) (ho : OwnWin w2 B 56 3 V (g.kept.length + 1) (pvals g.kept ++ [.int .i64 p.kind, .int .i64 p.tenant, .string ⟨p.value.toArray⟩])) (hg : ((wr.alloc o).drew).grownBy w2 v.ownBlock) (hl : V.ownBlock = v.ownBlock ∨ V.ownBlock = some ((wr.alloc o).drew).heap.size) :
    AddS w (w2.setCell ⟨R, 3, none⟩ V) B R M v0 V ⟨g.win, g.applied, g.floor, g.kept ++ [p], g.aside⟩ l p := by
  have hs := h.size
  have ht : Touch (fun k => v.ownBlock = some k) wr w2 := (((Touch.refl _ wr).alloc o).drew).trans' (Touch.of_grown (S := fun k => v.ownBlock = some k) hg (fun k hk => hk)) (fun i _ h => h)
  have hbox : GBox w2 R g.win g.applied g.floor v (.map (some M)) := h.gate.box.touch ht (fun e => own_neG h.gate.box h.gate.own (by decide) R e rfl)
  have hmap : w2.ownsMap Tryz.prog 3 pgElem M l.length (mapD l) := map_touch h.gate.map ht (fun e => map_neO h.gate.map h.gate.own M e rfl)
  have hp : Box3 w2 w.heap.size 56 (.int .i64 p.kind) (.int .i64 p.tenant) (.string ⟨p.value.toArray⟩) := (ht.block _ hs (fun e => h.sep _ e rfl)).trans h.box
  have hlies : ∀ q, V.ownBlock = some q → v.ownBlock = some q ∨ wr.heap.size ≤ q := fun q hq => by
    rcases hl with h1 | h1
    · left; rw [← h1]; exact hq
    · right; rw [h1] at hq; cases hq; simp
  have e : pvals (g.kept ++ [p]) = pvals g.kept ++ [.int .i64 p.kind, .int .i64 p.tenant, .string ⟨p.value.toArray⟩] := by rw [pvals_append, pvals_one]; rfl
  have e2 : (g.kept ++ [p]).length = g.kept.length + 1 := by simp
  have ht3 := touch_set1 w2 R 3 V
  refine ⟨⟨h.gate.hR, h.gate.hM, gbox_set3 hbox V, ?_, map_touch hmap ht3 (fun e => h.gate.neM e.symm)⟩, ⟨(h.goes.touch.trans' ht (fun i hi hv => ?_)).setCell (.inl rfl) V, fun q hq => ?_⟩, box3_touch hp ht3 (by have := h.old.1; omega), h.old, fun q hq => ?_⟩
  · show OwnWin _ _ _ _ _ (g.kept ++ [p]).length (pvals (g.kept ++ [p]))
    rw [e, e2]
    exact ho.touch ht3 (own_neG hbox ho (by decide))
  · rcases h.goes.lies i hv with h1 | h1
    · exact .inr (.inr h1)
    · omega
  · rcases hlies q hq with h1 | h1
    · exact h.goes.lies q h1
    · exact .inr (by omega)
  · rcases hlies q hq with h1 | h1
    · exact h.sep q h1
    · omega
/-- An entry is deleted. -/
theorem AddS.del (h : AddS w wr B R M v0 v g l p) {n : Int} (hm : w'.ownsMap Tryz.prog 3 pgElem M l.length ((mapD l).del (.int .i64 n))) (ht : wr.mapTurned w' M) : AddS w w' B R M v0 v g (l.filter fun e => !(e.1 == n)) p := by
  have h1 := touch_turned ht
  rw [mapD_del] at hm
  exact ⟨⟨h.gate.hR, h.gate.hM, h.gate.box.touch h1 h.gate.neM, h.gate.own.touch h1 (map_neO h.gate.map h.gate.own), map_l hm⟩, ⟨h.goes.touch.trans' h1 (fun i _ e => .inr (.inl e)), h.goes.lies⟩, (h1.block _ h.size (by have := h.old.2; omega)).trans h.box, h.old, h.sep⟩
/-- Another slice is stored. -/
theorem AddS.swap (h : AddS w wr B R M v0 v g l p) {V : Value} {g' : GateM} (ho : OwnWin wr w.heap.size 56 3 V g'.kept.length (pvals g'.kept)) (hn : ∀ q, V.ownBlock = some q → w.heap.size < q) (hB : B ≤ w.heap.size) (hw : g'.win = g.win ∧ g'.applied = g.applied ∧ g'.floor = g.floor) : AddS w (wr.setCell ⟨R, 3, none⟩ V) B R M v0 V g' l p := by
  have ht := touch_set1 wr R 3 V
  refine ⟨⟨h.gate.hR, h.gate.hM, by rw [hw.1, hw.2.1, hw.2.2]; exact gbox_set3 h.gate.box V, (ho.mono fun q hq => by have := hn q hq; omega).touch ht (own_neG h.gate.box ho (by decide)), map_touch h.gate.map ht (fun e => h.gate.neM e.symm)⟩, ⟨h.goes.touch.setCell (.inl rfl) V, fun q hq => .inr (by have := hn q hq; omega)⟩, box3_touch h.box ht (by have := h.old.1; omega), h.old, fun q hq e => by have := hn q hq; omega⟩
/-- Another purge is stored. -/
theorem AddS.next (h : AddS w wr B R M v0 v g l p) (q : Pg) : AddS w (((wr.setCell ⟨w.heap.size, 0, none⟩ (.int .i64 q.kind)).setCell ⟨w.heap.size, 1, none⟩ (.int .i64 q.tenant)).setCell ⟨w.heap.size, 2, none⟩ (.string ⟨q.value.toArray⟩)) B R M v0 v g l q := by
  have ht := touch_set3 wr w.heap.size (.int .i64 q.kind) (.int .i64 q.tenant) (.string ⟨q.value.toArray⟩)
  exact ⟨⟨h.gate.hR, h.gate.hM, h.gate.box.touch ht (by have := h.old.1; omega), h.gate.own.touch ht h.sep, map_touch h.gate.map ht (by have := h.old.2; omega)⟩, ⟨((h.goes.touch.setNew (a := ⟨w.heap.size, 0, none⟩) (Nat.le_refl _) _).setNew (a := ⟨w.heap.size, 1, none⟩) (Nat.le_refl _) _).setNew (a := ⟨w.heap.size, 2, none⟩) (Nat.le_refl _) _, h.goes.lies⟩, box3_set h.box _ _ _, h.old, h.sep⟩
theorem AddS.gm (h : AddS w wr B R M v0 v g l p) {g' : GateM} (h1 : g'.win = g.win) (h2 : g'.applied = g.applied) (h3 : g'.floor = g.floor) (h4 : g'.kept = g.kept) : AddS w wr B R M v0 v g' l p :=
  ⟨⟨h.gate.hR, h.gate.hM, by rw [h1, h2, h3]; exact h.gate.box, by rw [h4]; exact h.gate.own, h.gate.map⟩, h.goes, h.box, h.old, h.sep⟩
theorem add_pick {F : GateM} {b : Bool} {q : Pg} (hF : b = false → F = g.withA l) (h : AddS w wr B R M v0 v g l q) : AddS w wr B R M v0 v (if b then g else F) l q := by
  cases b with
  | true => exact h
  | false => rw [hF rfl]; exact h.gm rfl rfl rfl rfl
theorem add_meas {wx : World} {a b : Int} (h : wx.cell? ⟨R, 1, none⟩ = some (.int .i64 b)) (hlt : a < b ∧ a < 2199023255552) : (match wx.cell? ⟨R, 1, none⟩ with | some (.int _ n) => (2199023255552 - n).toNat | _ => 0) < (match (some (.int .i64 a) : Option Value) with | some (.int _ n) => (2199023255552 - n).toNat | _ => 0) := by
  rw [h]
  simp only
  omega
theorem add_any (hB : B ≤ w.heap.size) (F : GateM) (h : GateAt w B R M v g l) (hi : AddI F true g l p) :
    Calls Tryz.prog 36 #[ptrV R, pgV p] w fun e w' => ∃ v', e = .returned (.tuple #[]) ∧ GateAt w' B R M v' F F.aside ∧ GGoes w w' R M v v' := by
  obtain ⟨pk, pt, pv⟩ := p
  have hb0 := (Below.refl w.heap.size w).alloc (Nat.le_refl _) (.cells #[.int .i64 pk, .int .i64 pt, .string ⟨pv.toArray⟩] 56)
  have HS := Lib.hid (show AddS w _ B R M v v g l ⟨pk, pt, pv⟩ from ⟨h.older hb0, GGoes.of_below hb0, box3_new w _ _ _ _, ⟨h.box.facts.2.2, h.map.lt⟩, fun q hq e => by have := (h.own.lt q hq).2; omega⟩)
  have HI := Lib.hid hi
  clear h hi hb0
  go_enter Tryz.func36, Tryz.ntmps36
  go_wp2
  go_loopw [4] (fun s4 wr => ∃ (ok : Bool) (g' : GateM) (l' : List (Int × Pg)) (v' : Value) (p' : Pg), s4 = .bool ok ∧ AddI F ok g' l' p' ∧ AddS w wr B R M v v' g' l' p') (fun _ wr => match wr.cell? ⟨R, 1, none⟩ with | some (.int _ n) => (2199023255552 - n).toNat | _ => 0)
  case atStart => exact ⟨true, g, l, _, ⟨pk, pt, pv⟩, rfl, HI.out, HS.out⟩
  case round =>
    clear HS HI
    obtain ⟨ok, g, l, v', ⟨qk, qt, qv⟩, rfl, hi, s⟩ := hrel
    have HI := Lib.hid hi
    have HS := Lib.hid s
    cases ok with
    | false =>
      cases hi
      clear s
      go_wp2
      refine bodyPost_end (v := .tuple #[]) (by simp [results, Tryz.results36, go_sem]) rfl ?_
      exact ⟨v', rfl, HS.out.gate, HS.out.goes⟩
    | true =>
      have hnx := HI.out.next
      have hap : 0 ≤ g.applied ∧ g.applied + 1 ≤ 1099511627776 := by
        cases hi with
        | go _ _ _ hn hs ha hl hF => exact ⟨by have := hn.len; have := hn.lo; omega, ha⟩
      have hap0 := hap.1
      have hap1 := hap.2
      have hkl : g.kept.length ≤ 1024 ∧ 1 ≤ g.win := by
        cases hi with
        | go _ _ _ hn hs ha hl hF => exact ⟨Nat.le_trans hn.room hn.win2, hn.win1⟩
      have hk1 := hkl.1
      have hk2 := hkl.2
      have hfl : 0 ≤ g.floor ∧ g.floor ≤ g.applied := by
        cases hi with
        | go _ _ _ hn hs ha hl hF => exact ⟨hn.lo, by have := hn.len; omega⟩
      have hf0 := hfl.1
      have hf1 := hfl.2
      have hzr := HS.out.size
      have hx := s.gate.own.form
      obtain ⟨va, vc, rfl, hvc⟩ := hx
      obtain ⟨⟨c0, c1, c2, c3, c4⟩, _, hz1⟩ := s.gate.box.facts
      obtain ⟨⟨d0, d1, d2⟩, _, hz2⟩ := s.box.facts
      have hBr : B ≤ wr.heap.size := Nat.le_trans hB (Nat.le_of_lt hzr)
      have HC1 := Lib.hid c1
      clear s hi hap hkl hfl
      go_upto_region 5 with fail
      go_cut [4] (fun s4 wx => s4 = .bool true ∧ ∃ b2 o2 q2 : Nat, g.kept.length + 1 ≤ q2 ∧ AddS w wx B R M v (.slice (some ⟨b2, o2, none⟩) (g.kept.length + 1) q2) ⟨g.win, g.applied, g.floor, g.kept ++ [(⟨qk, qt, qv⟩ : Pg)], g.aside⟩ l ⟨qk, qt, qv⟩)
      case first =>
        go_wp2
        go_region_law ((refine step_appw tyPgs (by rfl) _ _ (by rfl) B (.slice va g.kept.length vc) g.kept.length (pvals g.kept) (by rfl) ((HS.out.gate.own.alloc _).drew) (by simp; omega) (.slice (some ⟨wr.heap.size, 0, none⟩) 1 1) 1 [.int .i64 qk, .int .i64 qt, .string ⟨qv.toArray⟩] (by rfl) (SrcAt.one (heap_alloc_new wr _)) (by rfl) (by simp [Value.oneCell']) (by omega) ?_; intro v2 w2 hown2 hgrow2 hlies2; obtain ⟨b2, o2, q2, rfl, hq2, _⟩ := hown2.cells (by omega); have hS3 := HS.out.app hown2 hgrow2 hlies2; have hX2 := HS.out.gate.box.touch ((((Touch.refl _ wr).alloc _).drew).trans' (Touch.of_grown (S := fun k => (Value.slice va g.kept.length vc).ownBlock = some k) hgrow2 (fun k hk => hk)) (fun i _ h => h)) (fun e => own_neG HS.out.gate.box HS.out.gate.own (by decide) R e rfl); obtain ⟨⟨g0, g1, g2, g3, g4⟩, ⟨e0, e1, e2, e3, e4⟩, hz3⟩ := hX2.facts))
        all_goals
          have HS3 := Lib.hid hS3
          clear hS3 hX2 hown2 hgrow2 hlies2
          go_wp2
          go_meet
          exact ⟨rfl, b2, o2, q2, hq2, HS3.out⟩
      case rest =>
        obtain ⟨rfl, b2, o2, q2, hq2, s4⟩ := hcut
        have HS3 := Lib.hid s4
        clear s4 c0 c1 c2 c3 c4 d0 d1 d2
        obtain ⟨⟨a0, a1, a2, a3, a4⟩, ⟨f0, f1, f2, f3, f4⟩, hz3⟩ := HS3.out.gate.box.facts
        go_wp2
        have HS4 := Lib.hid (HS3.out.setR 1 (.int .i64 (g.applied + 1)) ⟨g.win, g.applied + 1, g.floor, g.kept ++ [(⟨qk, qt, qv⟩ : Pg)], g.aside⟩ (gbox_set1 HS3.out.gate.box _) rfl)
        clear a0 a1 a2 a3 a4 f0 f1 f2 f3 f4
        obtain ⟨⟨a0, a1, a2, a3, a4⟩, _, hz4⟩ := HS4.out.gate.box.facts
        refine wp_region_held_drew (S := (fun w' => w'.cell? ⟨R, 4, none⟩ = some (.map (some M)) ∧ w'.cell? ⟨R, 1, none⟩ = some (.int .i64 (g.applied + 1)))) (by kernel_rfl) (by exact ⟨a4, a1⟩) (fun hHeld => ?_)
        refine wpAnyH_take (i := 0) (v := ?_) (by simp only [List.getElem?_toArray, List.getElem?_cons_succ, List.getElem?_cons_zero]; rfl) (by kernel_rfl) (by kernel_rfl) (by kernel_rfl) (by intro _ _ _ h; exact h) (Or.inl ⟨by rfl, ?_⟩) (by assumption) ?_
        rotate_left
        focus (intro wT hT; (try dsimp only at hT); go_simp; try with_reducible rfl)
        try simp only [Act.put, List.setIfInBounds_toArray, List.set_cons_zero, List.set_cons_succ]
        refine wpAnyH_take (i := 1) (v := ?_) (by simp only [List.getElem?_toArray, List.getElem?_cons_succ, List.getElem?_cons_zero]; rfl) (by kernel_rfl) (by kernel_rfl) (by kernel_rfl) (by intro _ _ _ h; exact h) (Or.inl ⟨by rfl, ?_⟩) (by assumption) ?_
        rotate_left
        focus (intro wT hT; (try dsimp only at hT); go_simp; try with_reducible rfl)
        try simp only [Act.put, List.setIfInBounds_toArray, List.set_cons_zero, List.set_cons_succ]
        refine wpAnyH_take (i := 2) (v := ?_) (by simp only [List.getElem?_toArray, List.getElem?_cons_succ, List.getElem?_cons_zero]; rfl) (by kernel_rfl) (by kernel_rfl) (by kernel_rfl) (by intro _ _ _ h; exact h) (Or.inl ⟨by rfl, ?_⟩) (by assumption) ?_
        rotate_left
        focus (intro wT hT; (try dsimp only at hT); go_simp; try with_reducible rfl)
        try simp only [Act.put, List.setIfInBounds_toArray, List.set_cons_zero, List.set_cons_succ]
        refine wpAnyH_take (i := 3) (v := ?_) (by simp only [List.getElem?_toArray, List.getElem?_cons_succ, List.getElem?_cons_zero]; rfl) (by kernel_rfl) (by kernel_rfl) (by kernel_rfl) (by intro _ _ _ h; exact h) (Or.inl ⟨by rfl, ?_⟩) (by assumption) ?_
        rotate_left
        focus (intro wT hT; (try dsimp only at hT); go_simp; try with_reducible rfl)
        try simp only [Act.put, List.setIfInBounds_toArray, List.set_cons_zero, List.set_cons_succ]
        refine wpAnyH_take (i := 4) (v := ?_) (by simp only [List.getElem?_toArray, List.getElem?_cons_succ, List.getElem?_cons_zero]; rfl) (by kernel_rfl) (by kernel_rfl) (by kernel_rfl) (by intro _ _ _ h; exact h) (Or.inl ⟨by rfl, ?_⟩) (by assumption) ?_
        rotate_left
        focus (intro wT hT; (try dsimp only at hT); go_simp; try with_reducible rfl)
        try simp only [Act.put, List.setIfInBounds_toArray, List.set_cons_zero, List.set_cons_succ]
        refine wpAnyH_take (i := 5) (v := ?_) (by simp only [List.getElem?_toArray, List.getElem?_cons_succ, List.getElem?_cons_zero]; rfl) (by kernel_rfl) (by kernel_rfl) (by kernel_rfl) (by intro _ _ _ h; exact h) (Or.inl ⟨by rfl, ?_⟩) (by assumption) ?_
        rotate_left
        focus (intro wT hT; (try dsimp only at hT); go_simp; try with_reducible rfl)
        try simp only [Act.put, List.setIfInBounds_toArray, List.set_cons_zero, List.set_cons_succ]
        refine wpAnyH_take (i := 6) (v := ?_) (by simp only [List.getElem?_toArray, List.getElem?_cons_succ, List.getElem?_cons_zero]; rfl) (by kernel_rfl) (by kernel_rfl) (by kernel_rfl) (by intro _ _ _ h; exact h) (Or.inl ⟨by rfl, ?_⟩) (by assumption) ?_
        rotate_left
        focus (intro wT hT; (try dsimp only at hT); go_simp; try with_reducible rfl)
        try simp only [Act.put, List.setIfInBounds_toArray, List.set_cons_zero, List.set_cons_succ]
        refine wpAnyH_take (i := 7) (v := ?_) (by simp only [List.getElem?_toArray, List.getElem?_cons_succ, List.getElem?_cons_zero]; rfl) (by kernel_rfl) (by kernel_rfl) (by kernel_rfl) (by intro _ _ _ h; exact h) (Or.inl ⟨by rfl, ?_⟩) (by assumption) ?_
        rotate_left
        focus (intro wT hT; (try dsimp only at hT); go_simp; try with_reducible rfl)
        try simp only [Act.put, List.setIfInBounds_toArray, List.set_cons_zero, List.set_cons_succ]
        refine wpAnyH_ready (rs := [8]) (by kernel_rfl) (by simp) (AllReadyH.cons (by simp only [List.getElem?_toArray, List.getElem?_cons_succ, List.getElem?_cons_zero]; rfl) (fun K hK => ?_) AllReadyH.nil)
        refine step_delete rfl _ _ _ _ rfl _ keyedI Tryz.underlying61 pgElem M l.length (mapD l) rfl HS4.out.gate.map (.int .i64 (g.applied + 1)) _ rfl (keyI (by omega) (by omega)) ?_
        intro w5 hm5 ht5
        have hS5 := (HS4.out.older (Below.refl _ _).drew).del hm5 ht5
        obtain ⟨⟨z0, z1, z2, z3, z4⟩, ⟨y0, y1, y2, y3, y4⟩, hz5⟩ := hS5.gate.box.facts
        refine hK.out _ _ ?_ (fun hHe5 => ?_)
        focus ((try dsimp only); exact ⟨z4, z1⟩)
        clear hK K
        try simp only [Act.put, List.setIfInBounds_toArray, List.set_cons_zero, List.set_cons_succ]
        refine wpAnyH_done (by kernel_rfl) ?_ _
        obtain ⟨l', hl'⟩ : ∃ l', l.filter (fun e => !(e.1 == g.applied + 1)) = l' := ⟨_, rfl⟩
        rw [hl'] at hnx hS5
        have HNX := Lib.hid hnx
        have HS5 := Lib.hid hS5
        have hRX := HS5.out.old.1
        have hMX := HS5.out.old.2
        clear hnx hS5 hl' a0 a1 a2 a3 a4 hm5 ht5
        obtain ⟨q9, hq9⟩ : ∃ q9, atK (g.applied + 1 + 1) l' = q9 := ⟨_, rfl⟩
        have HQ9 := Lib.hid hq9
        clear hq9
        obtain ⟨nk, nt, nv⟩ := q9
        by_cases hroom : g.kept.length + 1 ≤ g.win
        · have hpw : (g.push ⟨qk, qt, qv⟩).win = g.win ∧ (g.push ⟨qk, qt, qv⟩).applied = g.applied + 1 ∧ (g.push ⟨qk, qt, qv⟩).floor = g.floor ∧ (g.push ⟨qk, qt, qv⟩).kept = g.kept ++ [⟨qk, qt, qv⟩] := by
            unfold GateM.push
            rw [if_neg (by omega)]
            exact ⟨rfl, rfl, rfl, rfl⟩
          have HPW := Lib.hid hpw
          clear hpw
          go_wp2
          go_quiet (fail)
          have HS6 := Lib.hid (HS5.out.older (below_drewN (Below.refl _ _) nq))
          go_wp2
          clear z0 z1 z2 z3 z4 y0 y1 y2 y3 y4
          obtain ⟨⟨x0, x1, x2, x3, x4⟩, _, hz9⟩ := HS6.out.gate.box.facts
          obtain ⟨⟨b0, b1, b2'⟩, ⟨bf0, bf1, bf2⟩, hzb⟩ := HS5.out.box.facts
          have hne : ¬ R = w.heap.size := by omega
          have hne' : ¬ w.heap.size = R := by omega
          have hmap := HS6.out.gate.map
          refine wp_region_held_drew (S := (fun w' => w'.cell? ⟨R, 4, none⟩ = some (.map (some M)) ∧ w'.cell? ⟨R, 1, none⟩ = some (.int .i64 (g.applied + 1)) ∧ w'.ownsMap Tryz.prog 3 pgElem M l'.length (mapD l'))) (by kernel_rfl) (by exact ⟨x4, x1, hmap⟩) (fun hHeld => ?_)
          refine wpAnyH_take (i := 0) (v := ?_) (by simp only [List.getElem?_toArray, List.getElem?_cons_succ, List.getElem?_cons_zero]; rfl) (by kernel_rfl) (by kernel_rfl) (by kernel_rfl) (by intro _ _ _ h; exact h) (Or.inl ⟨by rfl, ?_⟩) (by assumption) ?_
          rotate_left
          focus (intro wT hT; (try dsimp only at hT); go_simp; try with_reducible rfl)
          try simp only [Act.put, List.setIfInBounds_toArray, List.set_cons_zero, List.set_cons_succ]
          refine wpAnyH_take (i := 1) (v := ?_) (by simp only [List.getElem?_toArray, List.getElem?_cons_succ, List.getElem?_cons_zero]; rfl) (by kernel_rfl) (by kernel_rfl) (by kernel_rfl) (by intro _ _ _ h; exact h) (Or.inl ⟨by rfl, ?_⟩) (by assumption) ?_
          rotate_left
          focus (intro wT hT; (try dsimp only at hT); go_simp; try with_reducible rfl)
          try simp only [Act.put, List.setIfInBounds_toArray, List.set_cons_zero, List.set_cons_succ]
          refine wpAnyH_take (i := 2) (v := ?_) (by simp only [List.getElem?_toArray, List.getElem?_cons_succ, List.getElem?_cons_zero]; rfl) (by kernel_rfl) (by kernel_rfl) (by kernel_rfl) (by intro _ _ _ h; exact h) (Or.inl ⟨by rfl, ?_⟩) (by assumption) ?_
          rotate_left
          focus (intro wT hT; (try dsimp only at hT); go_simp; try with_reducible rfl)
          try simp only [Act.put, List.setIfInBounds_toArray, List.set_cons_zero, List.set_cons_succ]
          refine wpAnyH_take (i := 3) (v := ?_) (by simp only [List.getElem?_toArray, List.getElem?_cons_succ, List.getElem?_cons_zero]; rfl) (by kernel_rfl) (by kernel_rfl) (by kernel_rfl) (by intro _ _ _ h; exact h) (Or.inl ⟨by rfl, ?_⟩) (by assumption) ?_
          rotate_left
          focus (intro wT hT; (try dsimp only at hT); go_simp; try with_reducible rfl)
          try simp only [Act.put, List.setIfInBounds_toArray, List.set_cons_zero, List.set_cons_succ]
          refine wpAnyH_take (i := 4) (v := ?_) (by simp only [List.getElem?_toArray, List.getElem?_cons_succ, List.getElem?_cons_zero]; rfl) (by kernel_rfl) (by kernel_rfl) (by kernel_rfl) (by intro _ _ _ h; exact h) (Or.inl ⟨by rfl, ?_⟩) (by assumption) ?_
          rotate_left
          focus (intro wT hT; (try dsimp only at hT); go_simp; try with_reducible rfl)
          try simp only [Act.put, List.setIfInBounds_toArray, List.set_cons_zero, List.set_cons_succ]
          refine wpAnyH_take (i := 5) (v := ?_) (by simp only [List.getElem?_toArray, List.getElem?_cons_succ, List.getElem?_cons_zero]; rfl) (by kernel_rfl) (by kernel_rfl) (by kernel_rfl) (by intro _ _ _ h; exact h) (Or.inl ⟨by rfl, ?_⟩) (by assumption) ?_
          rotate_left
          focus (intro wT hT; (try dsimp only at hT); go_simp; try with_reducible rfl)
          try simp only [Act.put, List.setIfInBounds_toArray, List.set_cons_zero, List.set_cons_succ]
          refine wpAnyH_take (i := 6) (v := ?_) (by simp only [List.getElem?_toArray, List.getElem?_cons_succ, List.getElem?_cons_zero]; rfl) (by kernel_rfl) (by kernel_rfl) (by kernel_rfl) (by intro _ _ _ h; exact h) (Or.inl ⟨by rfl, ?_⟩) (by assumption) ?_
          rotate_left
          focus (intro wT hT; (try dsimp only at hT); go_simp; try with_reducible rfl)
          try simp only [Act.put, List.setIfInBounds_toArray, List.set_cons_zero, List.set_cons_succ]
          refine wpAnyH_take (i := 7) (v := ?_) (by simp only [List.getElem?_toArray, List.getElem?_cons_succ, List.getElem?_cons_zero]; rfl) (by kernel_rfl) (by kernel_rfl) (by kernel_rfl) (by intro _ _ _ h; exact h) (Or.inl ⟨by rfl, ?_⟩) (by assumption) ?_
          rotate_left
          focus (intro wT hT; (try dsimp only at hT); go_simp; try with_reducible rfl)
          try simp only [Act.put, List.setIfInBounds_toArray, List.set_cons_zero, List.set_cons_succ]
          refine wpAnyH_take (i := 8) (v := ?_) (by simp only [List.getElem?_toArray, List.getElem?_cons_succ, List.getElem?_cons_zero]; rfl) (by kernel_rfl) (by kernel_rfl) (by kernel_rfl) (by intro _ _ _ h; exact h) (Or.inl ⟨by rfl, ?_⟩) (by assumption) ?_
          rotate_left
          focus (intro wT hT; (try dsimp only at hT); have i9 : IntKind.i64.wrap (g.applied + 1 + 1) = g.applied + 1 + 1 := IntWalk.i64_in _ (by omega); go_simp; try with_reducible rfl)
          try simp only [Act.put, List.setIfInBounds_toArray, List.set_cons_zero, List.set_cons_succ]
          refine wpAnyH_take (i := 9) (v := ?_) (by simp only [List.getElem?_toArray, List.getElem?_cons_succ, List.getElem?_cons_zero]; rfl) (by kernel_rfl) (by kernel_rfl) (by kernel_rfl) (by intro _ _ _ h; exact h) (Or.inl ⟨by rfl, ?_⟩) (by assumption) ?_
          rotate_left
          focus (intro wT hT; (try dsimp only at hT); obtain ⟨_, _, hT3⟩ := hT; have hlk := lookG hT3 (k := g.applied + 1 + 1) (by omega) (by omega); rw [HQ9.out] at hlk; simp only [pgV] at hlk; go_simp; try with_reducible rfl)
          try simp only [Act.put, List.setIfInBounds_toArray, List.set_cons_zero, List.set_cons_succ]
          refine wpAnyH_take (i := 10) (v := ?_) (by simp only [List.getElem?_toArray, List.getElem?_cons_succ, List.getElem?_cons_zero]; rfl) (by kernel_rfl) (by kernel_rfl) (by kernel_rfl) (by intro _ _ _ h; exact h) (Or.inl ⟨by rfl, ?_⟩) (by assumption) ?_
          rotate_left
          focus (intro wT hT; (try dsimp only at hT); go_simp; try with_reducible rfl)
          try simp only [Act.put, List.setIfInBounds_toArray, List.set_cons_zero, List.set_cons_succ]
          refine wpAnyH_take (i := 11) (v := ?_) (by simp only [List.getElem?_toArray, List.getElem?_cons_succ, List.getElem?_cons_zero]; rfl) (by kernel_rfl) (by kernel_rfl) (by kernel_rfl) (by intro _ _ _ h; exact h) (Or.inl ⟨by rfl, ?_⟩) (by assumption) ?_
          rotate_left
          focus (intro wT hT; (try dsimp only at hT); go_simp; try with_reducible rfl)
          try simp only [Act.put, List.setIfInBounds_toArray, List.set_cons_zero, List.set_cons_succ]
          refine wpAnyH_take (i := 12) (v := ?_) (by simp only [List.getElem?_toArray, List.getElem?_cons_succ, List.getElem?_cons_zero]; rfl) (by kernel_rfl) (by kernel_rfl) (by kernel_rfl) (by intro _ _ _ h; exact h) (Or.inl ⟨by rfl, ?_⟩) (by assumption) ?_
          rotate_left
          focus (intro wT hT; (try dsimp only at hT); go_simp; try with_reducible rfl)
          try simp only [Act.put, List.setIfInBounds_toArray, List.set_cons_zero, List.set_cons_succ]
          refine wpAnyH_ready (rs := [13]) (by kernel_rfl) (by simp) (AllReadyH.cons (by simp only [List.getElem?_toArray, List.getElem?_cons_succ, List.getElem?_cons_zero]; rfl) (fun K hK => ?_) AllReadyH.nil)
          go_simp
          refine hK.out _ _ ?_ (fun hHe9 => ?_)
          focus ((try dsimp only); refine ⟨?_, ?_, ?_⟩; exact cell_setG x4 (by omega) _ _ _; exact cell_setG x1 (by omega) _ _ _; exact ((hmap.setCell (a := ⟨w.heap.size, 0, none⟩) (by show M ≠ w.heap.size; omega) _).setCell (a := ⟨w.heap.size, 1, none⟩) (by show M ≠ w.heap.size; omega) _).setCell (a := ⟨w.heap.size, 2, none⟩) (by show M ≠ w.heap.size; omega) _)
          clear hK K
          try simp only [Act.put, List.setIfInBounds_toArray, List.set_cons_zero, List.set_cons_succ]
          refine wpAnyH_take (i := 14) (v := ?_) (by simp only [List.getElem?_toArray, List.getElem?_cons_succ, List.getElem?_cons_zero]; rfl) (by kernel_rfl) (by kernel_rfl) (by kernel_rfl) (by intro _ _ _ h; exact h) (Or.inl ⟨by rfl, ?_⟩) (by assumption) ?_
          rotate_left
          focus (intro wT hT; (try dsimp only at hT); go_simp; try with_reducible rfl)
          try simp only [Act.put, List.setIfInBounds_toArray, List.set_cons_zero, List.set_cons_succ]
          refine wpAnyH_done (by kernel_rfl) ?_ _
          go_wp2
          have hX := (HS6.out.older (Below.refl _ _).drew).next ⟨nk, nt, nv⟩
          have hc1 : _ = some (Value.int .i64 (g.applied + 1)) := hX.gate.box.facts.1.2.1
          go_roundw
          case rel => exact ⟨GateM.hasK (g.applied + 1 + 1) l', (if GateM.hasK (g.applied + 1 + 1) l' then g.push ⟨qk, qt, qv⟩ else F), l', _, ⟨nk, nt, nv⟩, rfl, (by have h9 := HNX.out.1; rw [HQ9.out] at h9; exact h9), add_pick HNX.out.2 (hX.gm HPW.out.1 HPW.out.2.1 HPW.out.2.2.1 HPW.out.2.2.2)⟩
          case measure => rw [HC1.out]; exact add_meas (a := g.applied) hc1 ⟨by omega, by omega⟩
        · have hpw : (g.push ⟨qk, qt, qv⟩).win = g.win ∧ (g.push ⟨qk, qt, qv⟩).applied = g.applied + 1 ∧ (g.push ⟨qk, qt, qv⟩).floor = g.floor + 1 ∧ (g.push ⟨qk, qt, qv⟩).kept = List.drop 1 (g.kept ++ [(⟨qk, qt, qv⟩ : Pg)]) := by
            unfold GateM.push
            rw [if_pos (by omega)]
            exact ⟨rfl, rfl, rfl, rfl⟩
          have HPW := Lib.hid hpw
          clear hpw
          have hq3 : 1 < q2 := by omega
          go_wp2
          go_quiet (fail)
          have HS6 := Lib.hid (HS5.out.older (below_drewN (Below.refl _ _) nq))
          go_wp2_with ((go_at_call 44; refine (clone_any B _ (List.drop 1 (g.kept ++ [(⟨qk, qt, qv⟩ : Pg)])) _ (own_drop1 (l := g.kept ++ [(⟨qk, qt, qv⟩ : Pg)]) (by have h := HS6.out.gate.own; simp only [List.length_append, List.length_cons, List.length_nil] at h; exact h) (by simp) hq3) (by simp; omega)).mono ?_; rintro e w7 ⟨u, rfl, hu, hb7⟩; obtain ⟨ua, uc, rfl, _⟩ := hu.form; have HS7 := Lib.hid (HS6.out.older hb7); have HU7 := Lib.hid hu; clear hu hb7 z0 z1 z2 z3 z4 y0 y1 y2 y3 y4; obtain ⟨⟨z0, z1, z2, z3, z4⟩, ⟨y0, y1, y2, y3, y4⟩, hz7⟩ := HS7.out.gate.box.facts))
          have HU8 := Lib.hid (show OwnWin w7 w.heap.size 56 3 (.slice ua g.kept.length uc) (List.drop 1 (g.kept ++ [(⟨qk, qt, qv⟩ : Pg)])).length (pvals (List.drop 1 (g.kept ++ [(⟨qk, qt, qv⟩ : Pg)]))) by
            have h := HU7.out
            have e : (List.drop 1 (g.kept ++ [(⟨qk, qt, qv⟩ : Pg)])).length = g.kept.length := by simp
            have hs := HS6.out.size
            rw [e] at h ⊢
            exact h.mono fun q hq => by have := (h.lt q hq).1; omega)
          have HL8 : Hid (∀ q, (Value.slice ua g.kept.length uc).ownBlock = some q → w.heap.size < q) := Lib.hid fun q hq => by
            have h := HU7.out
            have e : (List.drop 1 (g.kept ++ [(⟨qk, qt, qv⟩ : Pg)])).length = g.kept.length := by simp
            have hs := HS6.out.size
            rw [e] at h
            have := (h.lt q hq).1
            omega
          have HS8 := Lib.hid (HS7.out.swap (g' := ⟨g.win, g.applied + 1, g.floor, List.drop 1 (g.kept ++ [(⟨qk, qt, qv⟩ : Pg)]), g.aside⟩) HU8.out HL8.out hB ⟨rfl, rfl, rfl⟩)
          have HS9 := Lib.hid (HS8.out.setR 2 (.int .i64 (g.floor + 1)) ⟨g.win, g.applied + 1, g.floor + 1, List.drop 1 (g.kept ++ [(⟨qk, qt, qv⟩ : Pg)]), g.aside⟩ (gbox_set2 HS8.out.gate.box _) rfl)
          clear z0 z1 z2 z3 z4 y0 y1 y2 y3 y4
          obtain ⟨⟨x0, x1, x2, x3, x4⟩, _, hz9⟩ := HS9.out.gate.box.facts
          obtain ⟨⟨b0, b1, b2'⟩, ⟨bf0, bf1, bf2⟩, hzb⟩ := HS7.out.box.facts
          have hne : ¬ R = w.heap.size := by omega
          have hne' : ¬ w.heap.size = R := by omega
          have hmap := HS9.out.gate.map
          refine wp_region_held_drew (S := (fun w' => w'.cell? ⟨R, 4, none⟩ = some (.map (some M)) ∧ w'.cell? ⟨R, 1, none⟩ = some (.int .i64 (g.applied + 1)) ∧ w'.ownsMap Tryz.prog 3 pgElem M l'.length (mapD l'))) (by kernel_rfl) (by exact ⟨x4, x1, hmap⟩) (fun hHeld => ?_)
          refine wpAnyH_take (i := 0) (v := ?_) (by simp only [List.getElem?_toArray, List.getElem?_cons_succ, List.getElem?_cons_zero]; rfl) (by kernel_rfl) (by kernel_rfl) (by kernel_rfl) (by intro _ _ _ h; exact h) (Or.inl ⟨by rfl, ?_⟩) (by assumption) ?_
          rotate_left
          focus (intro wT hT; (try dsimp only at hT); go_simp; try with_reducible rfl)
          try simp only [Act.put, List.setIfInBounds_toArray, List.set_cons_zero, List.set_cons_succ]
          refine wpAnyH_take (i := 1) (v := ?_) (by simp only [List.getElem?_toArray, List.getElem?_cons_succ, List.getElem?_cons_zero]; rfl) (by kernel_rfl) (by kernel_rfl) (by kernel_rfl) (by intro _ _ _ h; exact h) (Or.inl ⟨by rfl, ?_⟩) (by assumption) ?_
          rotate_left
          focus (intro wT hT; (try dsimp only at hT); go_simp; try with_reducible rfl)
          try simp only [Act.put, List.setIfInBounds_toArray, List.set_cons_zero, List.set_cons_succ]
          refine wpAnyH_take (i := 2) (v := ?_) (by simp only [List.getElem?_toArray, List.getElem?_cons_succ, List.getElem?_cons_zero]; rfl) (by kernel_rfl) (by kernel_rfl) (by kernel_rfl) (by intro _ _ _ h; exact h) (Or.inl ⟨by rfl, ?_⟩) (by assumption) ?_
          rotate_left
          focus (intro wT hT; (try dsimp only at hT); go_simp; try with_reducible rfl)
          try simp only [Act.put, List.setIfInBounds_toArray, List.set_cons_zero, List.set_cons_succ]
          refine wpAnyH_take (i := 3) (v := ?_) (by simp only [List.getElem?_toArray, List.getElem?_cons_succ, List.getElem?_cons_zero]; rfl) (by kernel_rfl) (by kernel_rfl) (by kernel_rfl) (by intro _ _ _ h; exact h) (Or.inl ⟨by rfl, ?_⟩) (by assumption) ?_
          rotate_left
          focus (intro wT hT; (try dsimp only at hT); go_simp; try with_reducible rfl)
          try simp only [Act.put, List.setIfInBounds_toArray, List.set_cons_zero, List.set_cons_succ]
          refine wpAnyH_take (i := 4) (v := ?_) (by simp only [List.getElem?_toArray, List.getElem?_cons_succ, List.getElem?_cons_zero]; rfl) (by kernel_rfl) (by kernel_rfl) (by kernel_rfl) (by intro _ _ _ h; exact h) (Or.inl ⟨by rfl, ?_⟩) (by assumption) ?_
          rotate_left
          focus (intro wT hT; (try dsimp only at hT); go_simp; try with_reducible rfl)
          try simp only [Act.put, List.setIfInBounds_toArray, List.set_cons_zero, List.set_cons_succ]
          refine wpAnyH_take (i := 5) (v := ?_) (by simp only [List.getElem?_toArray, List.getElem?_cons_succ, List.getElem?_cons_zero]; rfl) (by kernel_rfl) (by kernel_rfl) (by kernel_rfl) (by intro _ _ _ h; exact h) (Or.inl ⟨by rfl, ?_⟩) (by assumption) ?_
          rotate_left
          focus (intro wT hT; (try dsimp only at hT); go_simp; try with_reducible rfl)
          try simp only [Act.put, List.setIfInBounds_toArray, List.set_cons_zero, List.set_cons_succ]
          refine wpAnyH_take (i := 6) (v := ?_) (by simp only [List.getElem?_toArray, List.getElem?_cons_succ, List.getElem?_cons_zero]; rfl) (by kernel_rfl) (by kernel_rfl) (by kernel_rfl) (by intro _ _ _ h; exact h) (Or.inl ⟨by rfl, ?_⟩) (by assumption) ?_
          rotate_left
          focus (intro wT hT; (try dsimp only at hT); go_simp; try with_reducible rfl)
          try simp only [Act.put, List.setIfInBounds_toArray, List.set_cons_zero, List.set_cons_succ]
          refine wpAnyH_take (i := 7) (v := ?_) (by simp only [List.getElem?_toArray, List.getElem?_cons_succ, List.getElem?_cons_zero]; rfl) (by kernel_rfl) (by kernel_rfl) (by kernel_rfl) (by intro _ _ _ h; exact h) (Or.inl ⟨by rfl, ?_⟩) (by assumption) ?_
          rotate_left
          focus (intro wT hT; (try dsimp only at hT); go_simp; try with_reducible rfl)
          try simp only [Act.put, List.setIfInBounds_toArray, List.set_cons_zero, List.set_cons_succ]
          refine wpAnyH_take (i := 8) (v := ?_) (by simp only [List.getElem?_toArray, List.getElem?_cons_succ, List.getElem?_cons_zero]; rfl) (by kernel_rfl) (by kernel_rfl) (by kernel_rfl) (by intro _ _ _ h; exact h) (Or.inl ⟨by rfl, ?_⟩) (by assumption) ?_
          rotate_left
          focus (intro wT hT; (try dsimp only at hT); have i9 : IntKind.i64.wrap (g.applied + 1 + 1) = g.applied + 1 + 1 := IntWalk.i64_in _ (by omega); go_simp; try with_reducible rfl)
          try simp only [Act.put, List.setIfInBounds_toArray, List.set_cons_zero, List.set_cons_succ]
          refine wpAnyH_take (i := 9) (v := ?_) (by simp only [List.getElem?_toArray, List.getElem?_cons_succ, List.getElem?_cons_zero]; rfl) (by kernel_rfl) (by kernel_rfl) (by kernel_rfl) (by intro _ _ _ h; exact h) (Or.inl ⟨by rfl, ?_⟩) (by assumption) ?_
          rotate_left
          focus (intro wT hT; (try dsimp only at hT); obtain ⟨_, _, hT3⟩ := hT; have hlk := lookG hT3 (k := g.applied + 1 + 1) (by omega) (by omega); rw [HQ9.out] at hlk; simp only [pgV] at hlk; go_simp; try with_reducible rfl)
          try simp only [Act.put, List.setIfInBounds_toArray, List.set_cons_zero, List.set_cons_succ]
          refine wpAnyH_take (i := 10) (v := ?_) (by simp only [List.getElem?_toArray, List.getElem?_cons_succ, List.getElem?_cons_zero]; rfl) (by kernel_rfl) (by kernel_rfl) (by kernel_rfl) (by intro _ _ _ h; exact h) (Or.inl ⟨by rfl, ?_⟩) (by assumption) ?_
          rotate_left
          focus (intro wT hT; (try dsimp only at hT); go_simp; try with_reducible rfl)
          try simp only [Act.put, List.setIfInBounds_toArray, List.set_cons_zero, List.set_cons_succ]
          refine wpAnyH_take (i := 11) (v := ?_) (by simp only [List.getElem?_toArray, List.getElem?_cons_succ, List.getElem?_cons_zero]; rfl) (by kernel_rfl) (by kernel_rfl) (by kernel_rfl) (by intro _ _ _ h; exact h) (Or.inl ⟨by rfl, ?_⟩) (by assumption) ?_
          rotate_left
          focus (intro wT hT; (try dsimp only at hT); go_simp; try with_reducible rfl)
          try simp only [Act.put, List.setIfInBounds_toArray, List.set_cons_zero, List.set_cons_succ]
          refine wpAnyH_take (i := 12) (v := ?_) (by simp only [List.getElem?_toArray, List.getElem?_cons_succ, List.getElem?_cons_zero]; rfl) (by kernel_rfl) (by kernel_rfl) (by kernel_rfl) (by intro _ _ _ h; exact h) (Or.inl ⟨by rfl, ?_⟩) (by assumption) ?_
          rotate_left
          focus (intro wT hT; (try dsimp only at hT); go_simp; try with_reducible rfl)
          try simp only [Act.put, List.setIfInBounds_toArray, List.set_cons_zero, List.set_cons_succ]
          refine wpAnyH_ready (rs := [13]) (by kernel_rfl) (by simp) (AllReadyH.cons (by simp only [List.getElem?_toArray, List.getElem?_cons_succ, List.getElem?_cons_zero]; rfl) (fun K hK => ?_) AllReadyH.nil)
          go_simp
          refine hK.out _ _ ?_ (fun hHe9 => ?_)
          focus ((try dsimp only); refine ⟨?_, ?_, ?_⟩; exact cell_setD x4 (by omega) _ _ _; exact cell_setD x1 (by omega) _ _ _; exact World.ownsMap.drew (((hmap.setCell (a := ⟨w.heap.size, 0, none⟩) (by show M ≠ w.heap.size; omega) _).setCell (a := ⟨w.heap.size, 1, none⟩) (by show M ≠ w.heap.size; omega) _).setCell (a := ⟨w.heap.size, 2, none⟩) (by show M ≠ w.heap.size; omega) _))
          clear hK K
          try simp only [Act.put, List.setIfInBounds_toArray, List.set_cons_zero, List.set_cons_succ]
          refine wpAnyH_take (i := 14) (v := ?_) (by simp only [List.getElem?_toArray, List.getElem?_cons_succ, List.getElem?_cons_zero]; rfl) (by kernel_rfl) (by kernel_rfl) (by kernel_rfl) (by intro _ _ _ h; exact h) (Or.inl ⟨by rfl, ?_⟩) (by assumption) ?_
          rotate_left
          focus (intro wT hT; (try dsimp only at hT); go_simp; try with_reducible rfl)
          try simp only [Act.put, List.setIfInBounds_toArray, List.set_cons_zero, List.set_cons_succ]
          refine wpAnyH_done (by kernel_rfl) ?_ _
          go_wp2
          have hX := (HS9.out.next ⟨nk, nt, nv⟩).older (Below.refl _ _).drew
          have hc1 : _ = some (Value.int .i64 (g.applied + 1)) := hX.gate.box.facts.1.2.1
          go_roundw
          case rel => exact ⟨GateM.hasK (g.applied + 1 + 1) l', (if GateM.hasK (g.applied + 1 + 1) l' then g.push ⟨qk, qt, qv⟩ else F), l', _, ⟨nk, nt, nv⟩, rfl, (by have h9 := HNX.out.1; rw [HQ9.out] at h9; exact h9), add_pick HNX.out.2 (hX.gm HPW.out.1 HPW.out.2.1 HPW.out.2.2.1 HPW.out.2.2.2)⟩
          case measure => rw [HC1.out]; exact add_meas (a := g.applied) hc1 ⟨by omega, by omega⟩
end A1
end Go.Proofs.YtnppicekfjdefaaGreatDoor
