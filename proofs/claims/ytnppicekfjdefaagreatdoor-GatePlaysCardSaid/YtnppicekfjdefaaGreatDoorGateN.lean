/- Contracts: the gate's Recent; what the laws over the gate share; the reference gate's Apply, Missing, Recent; the laws' told and is. Conditions: a settled gate; at most a million purges of at most 2^27 bytes. -/
import Derived.Test.YtnppicekfjdefaaGreatDoorGateF
import Derived.Deep.RegionHeld3
import Derived.Test.YtnppicekfjdefaaGreatDoorGateQ
import Derived.Test.YtnppicekfjdefaaGreatDoorGateJ
import Derived.Test.YtnppicekfjdefaaGreatDoorGateX
import Derived.Test.YtnppicekfjdefaaGreatDoorGLawB
import Derived.StillTailTactics
import Derived.OrdersHeld
import Derived.Test.YtnppicekfjdefaaGreatDoorPlogI
import Derived.Deep.QuietTactic
import Derived.Deep.LoopGhost
section
namespace Go.Proofs.YtnppicekfjdefaaGreatDoor
open Go.RowKit Pl Ad Go.Maps
attribute [local go_sem] ba_get ba_append ba_extract_end ba_extract_zero ba_extract
set_option maxRecDepth 100000
set_option maxHeartbeats 8000000
set_option linter.unusedVariables false
set_option linter.unusedSimpArgs false
namespace A1
theorem recent_kept {g : GateM} (ho : g.Ok) {n : Int} {j : Nat} (hj : n = (j : Int) + g.floor) (h : n < g.applied) : g.recent n = g.kept.drop j := by
  have := ho.lo
  unfold GateM.recent
  rw [if_neg (by omega)]
  congr 1; omega
theorem gateRecent (B R M : Nat) (v : Value) (g : GateM) (n : Int) (w : World) (h : GateAt w B R M v g g.aside) (ho : g.Ok) :
    Calls Tryz.prog 28 #[ptrV R, .int .i64 n] w fun e w' => ∃ u, e = .returned (.tuple #[u, codeV (g.recentC n)]) ∧ OwnWin w' w.heap.size 56 3 u (g.recent n).length (pvals (g.recent n)) ∧ Below w.heap.size w w' := by
  have HG := Lib.hid h
  have HO := Lib.hid ho
  obtain ⟨⟨c0, c1, c2, c3, c4⟩, _, hz⟩ := h.box.facts
  have hlen := ho.len
  have hroom := ho.room
  have hw2 := ho.win2
  have hlo := ho.lo
  have hhi := ho.hi
  by_cases h1 : n < 0
  · have HC := Lib.hid (show g.recentC n = 1 from if_pos h1)
    have HN := Lib.hid (own_nil (w := w) (B := w.heap.size) (e := 56) (show g.recent n = [] from if_pos (.inl h1)))
    clear h ho
    go_enter Tryz.func28, Tryz.ntmps28
    go_wp2_with fail
    go_ret2
    exact ⟨_, by rw [HC.out]; rfl, HN.out, Below.refl _ _⟩
  by_cases h2 : g.applied ≤ n
  · have HC := Lib.hid (show g.recentC n = 0 by unfold GateM.recentC; rw [if_neg h1, if_pos h2])
    have HN := Lib.hid (own_nil (w := w) (B := w.heap.size) (e := 56) (show g.recent n = [] from if_pos (.inr (.inl h2))))
    clear h ho
    go_enter Tryz.func28, Tryz.ntmps28
    go_wp2_with fail
    go_ret2
    exact ⟨_, by rw [HC.out]; rfl, HN.out, Below.refl _ _⟩
  by_cases h3 : n < g.floor
  · have HC := Lib.hid (show g.recentC n = 15 by unfold GateM.recentC; rw [if_neg h1, if_neg h2, if_pos h3])
    have HN := Lib.hid (own_nil (w := w) (B := w.heap.size) (e := 56) (show g.recent n = [] from if_pos (.inr (.inr h3))))
    clear h ho
    go_enter Tryz.func28, Tryz.ntmps28
    go_wp2_with fail
    go_ret2
    exact ⟨_, by rw [HC.out]; rfl, HN.out, Below.refl _ _⟩
  · have HC := Lib.hid (show g.recentC n = 0 by unfold GateM.recentC; rw [if_neg h1, if_neg h2, if_neg h3])
    obtain ⟨j, hj⟩ : ∃ j : Nat, n = (j : Int) + g.floor := ⟨(n - g.floor).toNat, by omega⟩
    have HS := Lib.hid (recent_kept ho hj (by omega))
    subst hj
    have hjk : j < g.kept.length := by omega
    obtain ⟨b, o, c, rfl, hc, hcm, hb, hbz, hcell⟩ := h.own.cells (by omega)
    have hjc : j < c := by omega
    have HSrc := Lib.hid (h.own.drop (k := j) rfl (by omega) hjc)
    rw [pvals_drop] at HSrc
    have i1 : IntKind.i64.wrap (j : Int) = (j : Int) := IntWalk.i64_in _ (by omega)
    have i2 : IntKind.i64.wrap ((j : Int) + g.floor - g.floor) = (j : Int) := by rw [show (j : Int) + g.floor - g.floor = (j : Int) by omega]; exact IntWalk.i64_in _ (by omega)
    have hne : ¬ c = j := by omega
    have hle : j ≤ g.kept.length := by omega
    have hI0 : (0 : Int) ≤ (j : Int) := by omega
    have hI1 : (j : Int) ≤ (g.kept.length : Int) := by omega
    have hI2 : (g.kept.length : Int) ≤ (c : Int) := by omega
    have hI3 : (j : Int) ≤ (c : Int) := by omega
    clear h ho hcell hcm hlen
    go_enter Tryz.func28, Tryz.ntmps28
    go_wp2_with fail
    go_region_held3 (fun w' => w'.cell? ⟨R, 3, none⟩ = some (.slice (some ⟨b, o, none⟩) g.kept.length c) ∧ w'.cell? ⟨R, 2, none⟩ = some (.int .i64 g.floor)) (first | go_keep | exact ⟨x3, x2⟩)
      ((go_at_call 44; refine (clone_any B (.slice (some ⟨b, o + j * 3, none⟩) (g.kept.length - j) (c - j)) (g.kept.drop j) _ (by have h := HSrc.out.drew; rw [List.length_drop]; exact h) (by rw [List.length_drop]; omega)).mono ?_; rintro e w9 ⟨u, rfl, hu, hb9⟩; obtain ⟨⟨x0, x1, x2, x3, x4⟩, _, _⟩ := (HG.out.box.older (Below.refl _ _).drew |>.older hb9).facts))
    all_goals
      go_wp2
      go_ret2
      exact ⟨u, by rw [HC.out]; rfl, by rw [HS.out]; exact hu, (Below.refl _ _).drew.trans hb9⟩
end A1
end Go.Proofs.YtnppicekfjdefaaGreatDoor
end

section
namespace Go.Proofs.YtnppicekfjdefaaGreatDoor
open Go.RowKit Pl Ad Go.Maps
attribute [local go_sem] ba_get ba_append ba_extract_end ba_extract_zero ba_extract
set_option maxRecDepth 100000
set_option maxHeartbeats 4000000
set_option linter.unusedVariables false
set_option linter.unusedSimpArgs false
namespace Ad
namespace GateM
def plays (g : GateM) (l : List GAct) : GateM := l.foldl doA g
theorem plays_snoc (g : GateM) {l : List GAct} {k : Nat} (hk : k < l.length) : g.plays (l.take (k + 1)) = (g.plays (l.take k)).doA l[k] := by
  unfold plays
  rw [List.take_succ_eq_append_getElem hk, List.foldl_append]
  rfl
end GateM
def tinyB (x : It) : Bool := decide (x.tags.length ≤ 40) && decide (x.addr.length ≤ 1200)
end Ad
namespace A1
/-- The question's variable. -/
def QBox (w : World) (R : Nat) (xt : Int) (xa : Bs) (u : Value) (n m : Int) : Prop := w.heap[R]? = some (.cells #[.int .i64 xt, .string ⟨xa.toArray⟩, u, .int .i64 n, .int .u8 m] 45 (0, 0))
theorem QBox.facts {w : World} {R : Nat} {xt : Int} {xa : Bs} {u : Value} {n m : Int} (h : QBox w R xt xa u n m) :
    (w.cell? ⟨R, 0, none⟩ = some (.int .i64 xt) ∧ w.cell? ⟨R, 1, none⟩ = some (.string ⟨xa.toArray⟩) ∧ w.cell? ⟨R, 2, none⟩ = some u ∧ w.cell? ⟨R, 3, none⟩ = some (.int .i64 n) ∧ w.cell? ⟨R, 4, none⟩ = some (.int .u8 m)) ∧ R < w.heap.size :=
  ⟨⟨by rw [cell_of_row w R 0 _ _ _ h]; rfl, by rw [cell_of_row w R 1 _ _ _ h]; rfl, by rw [cell_of_row w R 2 _ _ _ h]; rfl, by rw [cell_of_row w R 3 _ _ _ h]; rfl, by rw [cell_of_row w R 4 _ _ _ h]; rfl⟩, (Array.getElem?_eq_some_iff.1 h).1⟩
theorem QBox.older {w w' : World} {R : Nat} {xt : Int} {xa : Bs} {u : Value} {n m : Int} (h : QBox w R xt xa u n m) (hb : Below w.heap.size w w') : QBox w' R xt xa u n m := (hb.block R h.facts.2).trans h
theorem tiny38_any (xt : Int) (xa : Bs) (tags : List Bs) (ua : Option Addr) (uc : Nat) (w : World) (htl : tags.length ≤ 9223372036854775807) :
    Calls Tryz.prog 12 #[.agg #[.int .i64 xt, .string ⟨xa.toArray⟩, .slice ua tags.length uc]] w fun e w' => e = .returned (.bool (tinyB ⟨xt, xa, tags⟩)) ∧ Below w.heap.size w w' := by
  by_cases h1 : tags.length ≤ 40
  · have HT := Lib.hid (show tinyB ⟨xt, xa, tags⟩ = decide (xa.length ≤ 1200) by unfold tinyB; simp only; rw [decide_eq_true h1]; rfl)
    have HD := Lib.hid (show decide ((xa.length : Int) ≤ 1200) = decide (xa.length ≤ 1200) by rw [decide_eq_decide]; omega)
    go_enter Tryz.func12, Tryz.ntmps12
    go_wp2
    go_ret
    exact ⟨ret_bool' (by rw [HT.out, ← HD.out]), (Below.refl _ _).alloc (Nat.le_refl _) _⟩
  · have HT := Lib.hid (show tinyB ⟨xt, xa, tags⟩ = false by unfold tinyB; simp only; rw [decide_eq_false h1]; rfl)
    have hd : decide ((tags.length : Int) ≤ 40) = false := decide_eq_false (by omega)
    go_enter Tryz.func12, Tryz.ntmps12
    go_wp2
    go_ret
    exact ⟨ret_bool' HT.out.symm, (Below.refl _ _).alloc (Nat.le_refl _) _⟩

/-- What stands behind the acts: the gate, the item. -/
structure GRest (w3 wr : World) (R M : Nat) (v u : Value) (g : GateM) (X : Nat) (xt : Int) (xa : Bs) (tags : List Bs) : Prop where
  run : GRun w3 wr R M v g
  str : OwnWin wr w3.heap.size 9 1 u tags.length (svals tags)
  box : Box3 wr X 47 (.int .i64 xt) (.string ⟨xa.toArray⟩) u
  apU : Apart R M v u
  apX : ¬ (X = R ∨ X = M ∨ v.ownBlock = some X)
theorem GRest.older {w3 wr w' : World} {R M : Nat} {v u : Value} {g : GateM} {X : Nat} {xt : Int} {xa : Bs} {tags : List Bs} (h : GRest w3 wr R M v u g X xt xa tags) (hb : Below wr.heap.size wr w') : GRest w3 w' R M v u g X xt xa tags :=
  ⟨h.run.older hb, h.str.older hb, h.box.older hb, h.apU, h.apX⟩
theorem GRest.goes {w3 wr w' : World} {R M : Nat} {v v' u : Value} {g g' : GateM} {X : Nat} {xt : Int} {xa : Bs} {tags : List Bs} (h : GRest w3 wr R M v u g X xt xa tags) (hr : GRun w3 w' R M v' g') (hs : GGoes wr w' R M v v') : GRest w3 w' R M v' u g' X xt xa tags :=
  ⟨hr, h.str.touch hs.touch h.apU, (hs.touch.block X h.box.facts.2.2 h.apX).trans h.box, h.apU.goes hs (fun q hq => (h.str.lt q hq).2), fun e => by
    rcases e with e | e | e
    · exact h.apX (.inl e)
    · exact h.apX (.inr (.inl e))
    · rcases hs.lies X e with e2 | e2
      · exact h.apX (.inr (.inr e2))
      · have := h.box.facts.2.2; omega⟩
/-- The start: the gate is new, then the item is made. -/
theorem gRest_new {w3 wr w5 : World} {R M : Nat} {v u : Value} {g : GateM} {xt : Int} {xa : Bs} {tags : List Bs} (h : GRun w3 wr R M v g) (hb : Below wr.heap.size wr w5) (hu : OwnWin w5 wr.heap.size 9 1 u tags.length (svals tags)) :
    GRest w3 (w5.alloc (.cells #[.int .i64 xt, .string ⟨xa.toArray⟩, u] 47)) R M v u g w5.heap.size xt xa tags := by
  have hal := (Below.refl w5.heap.size w5).alloc (Nat.le_refl _) (.cells #[.int .i64 xt, .string ⟨xa.toArray⟩, u] 47)
  have hR := h.gate.box.facts.2.2
  have hM := map_lt h.gate.map
  have hz := hb.size
  refine ⟨(h.older hb).older hal, (hu.older hal).mono (fun q hq => Nat.le_trans h.bel.size (hu.lt q hq).1), box3_new w5 47 (.int .i64 xt) (.string ⟨xa.toArray⟩) u, fun q hq e => ?_, fun e => ?_⟩
  · have h1 := (hu.lt q hq).1
    rcases e with e | e | e
    · omega
    · omega
    · have := (h.gate.own.lt q e).2; omega
  · rcases e with e | e | e
    · omega
    · omega
    · have := (h.gate.own.lt _ e).2; omega
end A1
end Go.Proofs.YtnppicekfjdefaaGreatDoor
end

section
namespace Go.Proofs.YtnppicekfjdefaaGreatDoor
open Go.RowKit Pl Ad
attribute [local go_sem] ba_get ba_append ba_extract_end ba_extract_zero ba_extract
set_option maxRecDepth 100000
set_option maxHeartbeats 4000000
set_option linter.unusedVariables false
set_option linter.unusedSimpArgs false
namespace A1
attribute [local go_sem] rgV
/-- Apply on the way: the gate's variable and the result's; the gate as it is now. -/
structure ApR2 (w wr : World) (g : GateM) (ku au : Value) : Prop where
  bel : Below w.heap.size w wr
  box : VBox wr w.heap.size (.int .i64 g.applied) (.int .i64 g.floor) (.int .i64 g.win) ku au
  res : VBox wr (w.heap.size + 1) (.int .i64 0) (.int .i64 0) (.int .i64 0) (.slice none 0 0) (.slice none 0 0)
  ref : RefS wr g g.aside ku au
theorem ApR2.older {w wr w' : World} {g : GateM} {ku au : Value} (h : ApR2 w wr g ku au) (hb : Below wr.heap.size wr w') : ApR2 w w' g ku au := ⟨h.bel.trans (hb.mono h.bel.size), h.box.older hb, h.res.older hb, h.ref.below hb⟩
/-- A call's gate is stored. -/
theorem ApR2.store {w wr w' : World} {g g' : GateM} {ku au ku' au' : Value} (h : ApR2 w wr g ku au) (hr : RefS w' g' g'.aside ku' au') (hb : Below wr.heap.size wr w') :
    ApR2 w (((((w'.setCell ⟨w.heap.size, 0, none⟩ (.int .i64 g'.applied)).setCell ⟨w.heap.size, 1, none⟩ (.int .i64 g'.floor)).setCell ⟨w.heap.size, 2, none⟩ (.int .i64 g'.win)).setCell ⟨w.heap.size, 3, none⟩ ku').setCell ⟨w.heap.size, 4, none⟩ au') g' ku' au' := by
  have h1 := h.older hb
  refine ⟨below_store h1.bel (Nat.le_refl _) _ _ _ _ _, h1.box.store _ _ _ _ _, ?_, hr.store h1.box _ _ _ _ _⟩
  exact ((((h1.res.other (by omega) 0 _).other (by omega) 1 _).other (by omega) 2 _).other (by omega) 3 _).other (by omega) 4 _
theorem refKeep_any (g : GateM) (ku au : Value) (p : Pg) (w : World) (ho : g.Ok) (hs : RefS w g g.aside ku au) (hp : p.value.length ≤ 134217728) (ha : g.applied + 1 ≤ 1099511627776) :
    Calls Tryz.prog 40 #[rgV g ku au, .agg #[.int .i64 p.kind, .int .i64 p.tenant, .string ⟨p.value.toArray⟩]] w fun e w' => ∃ ku' au', e = .returned (rgV (g.keep p) ku' au') ∧ RefS w' (g.keep p) (g.keep p).aside ku' au' ∧ Below w.heap.size w w' :=
  keep_of (followOk g.aside.length) g g.aside ku au p w (Nat.le_refl _) ho.near hp ha hs
theorem refApply_any (g : GateM) (ku au v : Value) (n : Int) (l : List Pg) (w : World) (ho : g.Ok) (hs : RefS w g g.aside ku au) (hv : RowsV pcells 3 w v l) (hl : l.length ≤ 1000000) (hsz : ∀ p ∈ l, p.value.length ≤ 134217728) (hn1 : -1125899906842624 ≤ n) (hn2 : n ≤ 1125899906842624) :
    Calls Tryz.prog 21 #[rgV g ku au, .int .i64 n, v] w fun e w' => ∃ ku' au', e = .returned (rgV (g.apply n l) ku' au') ∧ RefS w' (g.apply n l) (g.apply n l).aside ku' au' ∧ Below w.heap.size w w' := by
  obtain ⟨gf, hgf⟩ : ∃ gf, g.apply n l = gf := ⟨_, rfl⟩
  rw [hgf]
  have HGF := Lib.hid hgf
  have HOK := Lib.hid ho
  have HV := Lib.hid hv
  have HSZ := Lib.hid hsz
  obtain ⟨va, vc, rfl, _⟩ := hv.form
  obtain ⟨ua, uc, rfl, _⟩ := hs.kept.form
  obtain ⟨ea, ec, rfl, _⟩ := hs.aside.form
  have h0 := foS_new hs
  have HF := Lib.hid (ApR2.mk h0.bel h0.box h0.res h0.ref)
  clear hs hgf ho hv hsz h0
  go_enter Tryz.func21, Tryz.ntmps21
  go_upto_region 2 with fail
  go_loopg [7, 8] l.length (fun q iv s8 wr => ∃ (k : Nat) (g2 : GateM) (ku2 au2 : Value), iv = .int .i64 k ∧ k ≤ l.length ∧ Hid (l.length ≤ q + k) ∧ Hid (g2.apply (n + k) (l.drop k) = gf) ∧ Hid g2.Ok ∧ ApR2 w wr g2 ku2 au2)
  case atStart => exact ⟨0, g, _, _, rfl, Nat.zero_le _, Lib.hid (by omega), Lib.hid (by simpa using HGF.out), HOK, HF.out⟩
  case round =>
    obtain ⟨k, g2, ku2, au2, rfl, hk, HQ, HG2, HO2, s⟩ := hrel
    obtain ⟨ka, kc, rfl, _⟩ := s.ref.kept.form
    obtain ⟨aa, ac, rfl, _⟩ := s.ref.aside.form
    have HS := Lib.hid s
    have hg0 : 0 ≤ g2.applied := by have := HO2.out.lo; have := HO2.out.len; omega
    have hg1 := HO2.out.hi
    obtain ⟨⟨c0, c1, c2, c3, c4⟩, ⟨f0, f1, f2, f3, f4⟩, hz⟩ := s.box.facts
    obtain ⟨⟨e0, e1, e2, e3, e4⟩, ⟨j0, j1, j2, j3, j4⟩, hz2⟩ := s.res.facts
    clear s
    by_cases hlt : k < l.length
    · obtain ⟨b, o, c, e, hc, hbz, hcell⟩ := (HV.out.below HS.out.bel).at hlt
      cases e
      have hpv := HSZ.out l[k] (List.getElem_mem hlt)
      have HST := Lib.hid (fun hc hn => apply_step (g := g2) (n := n + k) (l := l) hlt hc hn)
      have HSP := Lib.hid (fun h => apply_stop (g := g2) (n := n + k) (l := l) hlt h)
      generalize l[k] = y at hcell hpv HST HSP
      obtain ⟨yk, yt, yv⟩ := y
      simp only at hpv
      have p0 : wr.cell? ⟨b, o + k * 3, none⟩ = some (.int .i64 yk) := hcell 0 _ rfl
      have p1 : wr.cell? ⟨b, o + k * 3 + 1, none⟩ = some (.int .i64 yt) := hcell 1 _ rfl
      have p2 : wr.cell? ⟨b, o + k * 3 + 2, none⟩ = some (.string ⟨yv.toArray⟩) := hcell 2 _ rfl
      clear hcell
      obtain ⟨cn, hcn⟩ : ∃ cn, checkN ⟨yk, yt, yv⟩ = cn := ⟨_, rfl⟩
      have HCN := Lib.hid hcn
      by_cases hc : cn = 0
      · by_cases hbig : 1099511627776 < n + k
        · have HE := Lib.hid (show g2 = gf by rw [← HG2.out]; exact (HSP.out (by rintro ⟨_, h⟩; omega)).symm)
          subst hc
          clear hcn
          go_wp2_with (go_at_call 39; refine (refCheck_any ⟨yk, yt, yv⟩ _ hpv).mono ?_; rintro e w1 ⟨rfl, hb1⟩; rw [HCN.out]; have HS1 := Lib.hid (HS.out.older hb1); have hbz1 := hb1.size; have r0 := (hb1.cell (p := ⟨b, _, none⟩) hbz).trans p0; have r1 := (hb1.cell (p := ⟨b, _, none⟩) hbz).trans p1; have r2 := (hb1.cell (p := ⟨b, _, none⟩) hbz).trans p2; clear hb1 c0 c1 c2 c3 c4 f0 f1 f2 f3 f4 e0 e1 e2 e3 e4 j0 j1 j2 j3 j4; obtain ⟨⟨c0, c1, c2, c3, c4⟩, ⟨f0, f1, f2, f3, f4⟩, hz3⟩ := HS1.out.box.facts; obtain ⟨⟨e0, e1, e2, e3, e4⟩, ⟨j0, j1, j2, j3, j4⟩, hz4⟩ := HS1.out.res.facts)
          obtain ⟨⟨z0, z1, z2, z3, z4⟩, _, _⟩ := (HS1.out.res.store (.int .i64 g2.applied) (.int .i64 g2.floor) (.int .i64 g2.win) (.slice ka g2.kept.length kc) (.slice aa g2.aside.length ac)).facts
          refine bodyPost_ret (v := rgV g2 (.slice ka g2.kept.length kc) (.slice aa g2.aside.length ac)) (by simp [results, Tryz.results21, go_sem, z0, z1, z2, z3, z4]) rfl ?_
          exact ⟨_, _, by rw [HE.out], by rw [← HE.out]; exact HS1.out.ref.store HS1.out.res _ _ _ _ _, below_store HS1.out.bel (by omega) _ _ _ _ _⟩
        · have HST2 := Lib.hid (HST.out (hcn.trans hc) (by omega))
          subst hc
          clear hcn
          by_cases h1 : n + (k : Int) ≤ g2.applied
          · have HE := Lib.hid (show g2.apply (n + ((k + 1 : Nat) : Int)) (l.drop (k + 1)) = gf by
              rw [← HG2.out, HST2.out, show g2.one (n + k) ⟨yk, yt, yv⟩ = g2 from if_pos h1, show (n + ((k + 1 : Nat) : Int)) = n + k + 1 by omega])
            go_wp2_with (go_at_call 39; refine (refCheck_any ⟨yk, yt, yv⟩ _ hpv).mono ?_; rintro e w1 ⟨rfl, hb1⟩; rw [HCN.out]; have HS1 := Lib.hid (HS.out.older hb1); have hbz1 := hb1.size; have r0 := (hb1.cell (p := ⟨b, _, none⟩) hbz).trans p0; have r1 := (hb1.cell (p := ⟨b, _, none⟩) hbz).trans p1; have r2 := (hb1.cell (p := ⟨b, _, none⟩) hbz).trans p2; clear hb1 c0 c1 c2 c3 c4 f0 f1 f2 f3 f4 e0 e1 e2 e3 e4 j0 j1 j2 j3 j4; obtain ⟨⟨c0, c1, c2, c3, c4⟩, ⟨f0, f1, f2, f3, f4⟩, hz3⟩ := HS1.out.box.facts; obtain ⟨⟨e0, e1, e2, e3, e4⟩, ⟨j0, j1, j2, j3, j4⟩, hz4⟩ := HS1.out.res.facts)
            go_roundg (gk - 1)
            case rel => exact ⟨k + 1, g2, _, _, by go_num, by omega, Lib.hid (by have := HQ.out; omega), HE, HO2, HS1.out⟩
            case measure => have := HQ.out; omega
          · by_cases h2 : n + (k : Int) = g2.applied + 1
            · have HE := Lib.hid (show (g2.keep ⟨yk, yt, yv⟩).apply (n + ((k + 1 : Nat) : Int)) (l.drop (k + 1)) = gf by
                rw [← HG2.out, HST2.out, show g2.one (n + k) ⟨yk, yt, yv⟩ = g2.keep ⟨yk, yt, yv⟩ by unfold GateM.one; rw [if_neg h1, if_pos h2], show (n + ((k + 1 : Nat) : Int)) = n + k + 1 by omega])
              have hb2 : ((n + (k : Int)) == g2.applied + 1) = true := by simpa using h2
              have ha2 : g2.applied + 1 ≤ 1099511627776 := by omega
              clear h2
              have HOK2 := Lib.hid (GateM.ok_keep HO2.out (p := ⟨yk, yt, yv⟩) hpv ha2)
              go_wp2_with (go_at_call 39; refine (refCheck_any ⟨yk, yt, yv⟩ _ hpv).mono ?_; rintro e w1 ⟨rfl, hb1⟩; rw [HCN.out]; have HS1 := Lib.hid (HS.out.older hb1); have hbz1 := hb1.size; have r0 := (hb1.cell (p := ⟨b, _, none⟩) hbz).trans p0; have r1 := (hb1.cell (p := ⟨b, _, none⟩) hbz).trans p1; have r2 := (hb1.cell (p := ⟨b, _, none⟩) hbz).trans p2; clear hb1 c0 c1 c2 c3 c4 f0 f1 f2 f3 f4 e0 e1 e2 e3 e4 j0 j1 j2 j3 j4; obtain ⟨⟨c0, c1, c2, c3, c4⟩, ⟨f0, f1, f2, f3, f4⟩, hz3⟩ := HS1.out.box.facts; obtain ⟨⟨e0, e1, e2, e3, e4⟩, ⟨j0, j1, j2, j3, j4⟩, hz4⟩ := HS1.out.res.facts)
              have HS1d := Lib.hid (HS1.out.older (Below.refl _ _).drew)
              go_still_tail 5, (by kernel_rfl)
              change wpList _ _ _ _ _ w1.drew
              generalize hw8 : w1.drew = w8 at HS1d ⊢
              clear hw8
              go_wp2_with (go_at_call 40; refine (refKeep_any g2 (.slice ka g2.kept.length kc) (.slice aa g2.aside.length ac) ⟨yk, yt, yv⟩ _ HO2.out HS1d.out.ref hpv ha2).mono ?_; rintro e w3 ⟨ku3, au3, rfl, hr3, hb3⟩; obtain ⟨ka3, kc3, rfl, _⟩ := hr3.kept.form; obtain ⟨aa3, ac3, rfl, _⟩ := hr3.aside.form; have HS2 := Lib.hid (HS1d.out.older hb3); have HR3 := Lib.hid hr3; have HB3 := Lib.hid hb3; clear hr3 hb3 c0 c1 c2 c3 c4 f0 f1 f2 f3 f4; obtain ⟨⟨c0, c1, c2, c3, c4⟩, ⟨f0, f1, f2, f3, f4⟩, hz5⟩ := HS2.out.box.facts)
              go_roundg (gk - 1)
              case rel => exact ⟨k + 1, (g2.keep ⟨yk, yt, yv⟩), _, _, by go_num, by omega, Lib.hid (by have := HQ.out; omega), HE, HOK2, HS1d.out.store HR3.out HB3.out⟩
              case measure => have := HQ.out; omega
            · have HE := Lib.hid (show (g2.put (n + k) ⟨yk, yt, yv⟩).apply (n + ((k + 1 : Nat) : Int)) (l.drop (k + 1)) = gf by
                rw [← HG2.out, HST2.out, show g2.one (n + k) ⟨yk, yt, yv⟩ = g2.put (n + k) ⟨yk, yt, yv⟩ by unfold GateM.one; rw [if_neg h1, if_neg h2], show (n + ((k + 1 : Nat) : Int)) = n + k + 1 by omega])
              have hb2 : ((n + (k : Int)) == g2.applied + 1) = false := by simpa using h2
              have hlo2 : g2.applied + 1 < n + k := by omega
              clear h2
              have HOK2 := Lib.hid (GateM.ok_put HO2.out (p := ⟨yk, yt, yv⟩) hpv hlo2 (by omega))
              go_wp2_with (go_at_call 39; refine (refCheck_any ⟨yk, yt, yv⟩ _ hpv).mono ?_; rintro e w1 ⟨rfl, hb1⟩; rw [HCN.out]; have HS1 := Lib.hid (HS.out.older hb1); have hbz1 := hb1.size; have r0 := (hb1.cell (p := ⟨b, _, none⟩) hbz).trans p0; have r1 := (hb1.cell (p := ⟨b, _, none⟩) hbz).trans p1; have r2 := (hb1.cell (p := ⟨b, _, none⟩) hbz).trans p2; clear hb1 c0 c1 c2 c3 c4 f0 f1 f2 f3 f4 e0 e1 e2 e3 e4 j0 j1 j2 j3 j4; obtain ⟨⟨c0, c1, c2, c3, c4⟩, ⟨f0, f1, f2, f3, f4⟩, hz3⟩ := HS1.out.box.facts; obtain ⟨⟨e0, e1, e2, e3, e4⟩, ⟨j0, j1, j2, j3, j4⟩, hz4⟩ := HS1.out.res.facts)
              have HS1d := Lib.hid (HS1.out.older (Below.refl _ _).drew)
              go_still_tail 7, (by kernel_rfl)
              change wpList _ _ _ _ _ w1.drew
              generalize hw8 : w1.drew = w8 at HS1d ⊢
              clear hw8
              go_wp2_with (go_at_call 41; refine (refAside_any g2 (.slice ka g2.kept.length kc) (.slice aa g2.aside.length ac) (n + k) ⟨yk, yt, yv⟩ _ HO2.out HS1d.out.ref (by omega)).mono ?_; rintro e w3 ⟨ku3, au3, rfl, hr3, hb3⟩; obtain ⟨ka3, kc3, rfl, _⟩ := hr3.kept.form; obtain ⟨aa3, ac3, rfl, _⟩ := hr3.aside.form; have HS2 := Lib.hid (HS1d.out.older hb3); have HR3 := Lib.hid hr3; have HB3 := Lib.hid hb3; clear hr3 hb3 c0 c1 c2 c3 c4 f0 f1 f2 f3 f4; obtain ⟨⟨c0, c1, c2, c3, c4⟩, ⟨f0, f1, f2, f3, f4⟩, hz5⟩ := HS2.out.box.facts)
              go_roundg (gk - 1)
              case rel => exact ⟨k + 1, (g2.put (n + k) ⟨yk, yt, yv⟩), _, _, by go_num, by omega, Lib.hid (by have := HQ.out; omega), HE, HOK2, HS1d.out.store HR3.out HB3.out⟩
              case measure => have := HQ.out; omega
      · have HE := Lib.hid (show g2 = gf by rw [← HG2.out]; exact (HSP.out (by rintro ⟨h, _⟩; exact hc (hcn.symm.trans h))).symm)
        have hcb : (cn != 0) = true := by simpa using hc
        clear hc hcn
        go_wp2_with (go_at_call 39; refine (refCheck_any ⟨yk, yt, yv⟩ _ hpv).mono ?_; rintro e w1 ⟨rfl, hb1⟩; rw [HCN.out]; have HS1 := Lib.hid (HS.out.older hb1); have hbz1 := hb1.size; have r0 := (hb1.cell (p := ⟨b, _, none⟩) hbz).trans p0; have r1 := (hb1.cell (p := ⟨b, _, none⟩) hbz).trans p1; have r2 := (hb1.cell (p := ⟨b, _, none⟩) hbz).trans p2; clear hb1 c0 c1 c2 c3 c4 f0 f1 f2 f3 f4 e0 e1 e2 e3 e4 j0 j1 j2 j3 j4; obtain ⟨⟨c0, c1, c2, c3, c4⟩, ⟨f0, f1, f2, f3, f4⟩, hz3⟩ := HS1.out.box.facts; obtain ⟨⟨e0, e1, e2, e3, e4⟩, ⟨j0, j1, j2, j3, j4⟩, hz4⟩ := HS1.out.res.facts)
        obtain ⟨⟨z0, z1, z2, z3, z4⟩, _, _⟩ := (HS1.out.res.store (.int .i64 g2.applied) (.int .i64 g2.floor) (.int .i64 g2.win) (.slice ka g2.kept.length kc) (.slice aa g2.aside.length ac)).facts
        refine bodyPost_ret (v := rgV g2 (.slice ka g2.kept.length kc) (.slice aa g2.aside.length ac)) (by simp [results, Tryz.results21, go_sem, z0, z1, z2, z3, z4]) rfl ?_
        exact ⟨_, _, by rw [HE.out], by rw [← HE.out]; exact HS1.out.ref.store HS1.out.res _ _ _ _ _, below_store HS1.out.bel (by omega) _ _ _ _ _⟩
    · have HE := Lib.hid (show g2 = gf by rw [← HG2.out, List.drop_eq_nil_of_le (by omega)]; rfl)
      go_wp2_with fail
      obtain ⟨⟨z0, z1, z2, z3, z4⟩, _, _⟩ := (HS.out.res.store (.int .i64 g2.applied) (.int .i64 g2.floor) (.int .i64 g2.win) (.slice ka g2.kept.length kc) (.slice aa g2.aside.length ac)).facts
      refine bodyPost_ret (v := rgV g2 (.slice ka g2.kept.length kc) (.slice aa g2.aside.length ac)) (by simp [results, Tryz.results21, go_sem, z0, z1, z2, z3, z4]) rfl ?_
      exact ⟨_, _, by rw [HE.out], by rw [← HE.out]; exact HS.out.ref.store HS.out.res _ _ _ _ _, below_store HS.out.bel (by omega) _ _ _ _ _⟩
end A1
end Go.Proofs.YtnppicekfjdefaaGreatDoor
end

section
namespace Go.Proofs.YtnppicekfjdefaaGreatDoor
open Go.RowKit Pl Ad
attribute [local go_sem] ba_get ba_append ba_extract_end ba_extract_zero ba_extract
set_option maxRecDepth 100000
set_option maxHeartbeats 4000000
set_option linter.unusedVariables false
set_option linter.unusedSimpArgs false
namespace A1
attribute [local go_sem] rgV
/-- The blocks that told makes at its head. -/
structure ToS (w wr : World) (g : GateM) (ku au : Value) (j : Bool) (n : Int) (u : Value) : Prop where
  bel : Below w.heap.size w wr
  box : VBox wr w.heap.size (.int .i64 g.applied) (.int .i64 g.floor) (.int .i64 g.win) ku au
  act : Box3 wr (w.heap.size + 1) 37 (.bool j) (.int .i64 n) u
  res : VBox wr (w.heap.size + 1 + 1) (.int .i64 0) (.int .i64 0) (.int .i64 0) (.slice none 0 0) (.slice none 0 0)
theorem ToS.older {w wr w' : World} {g : GateM} {ku au u : Value} {j : Bool} {n : Int} (h : ToS w wr g ku au j n u) (hb : Below wr.heap.size wr w') : ToS w w' g ku au j n u := ⟨h.bel.trans (hb.mono h.bel.size), h.box.older hb, h.act.older hb, h.res.older hb⟩
theorem toS_new (w : World) (g : GateM) (ku au : Value) (j : Bool) (n : Int) (u : Value) :
    ToS w (((w.alloc (.cells #[.int .i64 g.applied, .int .i64 g.floor, .int .i64 g.win, ku, au] 34)).alloc (.cells #[.bool j, .int .i64 n, u] 37)).alloc (.cells #[.int .i64 0, .int .i64 0, .int .i64 0, .slice none 0 0, .slice none 0 0] 34)) g ku au j n u := by
  have h1 := (Below.refl (w.alloc (.cells #[.int .i64 g.applied, .int .i64 g.floor, .int .i64 g.win, ku, au] 34)).heap.size (w.alloc (.cells #[.int .i64 g.applied, .int .i64 g.floor, .int .i64 g.win, ku, au] 34))).alloc (Nat.le_refl _) (.cells #[.bool j, .int .i64 n, u] 37)
  refine ⟨(((Below.refl _ _).alloc (Nat.le_refl _) _).alloc (by simp) _).alloc (by simp; omega) _, ((vbox_new w _ _ _ _ _).older (h1.alloc (by simp) _)), ?_, ?_⟩
  · have h := (box3_new (w.alloc (.cells #[.int .i64 g.applied, .int .i64 g.floor, .int .i64 g.win, ku, au] 34)) 37 (.bool j) (.int .i64 n) u).alloc (.cells #[.int .i64 0, .int .i64 0, .int .i64 0, .slice none 0 0, .slice none 0 0] 34)
    simpa using h
  · have h := vbox_new ((w.alloc (.cells #[.int .i64 g.applied, .int .i64 g.floor, .int .i64 g.win, ku, au] 34)).alloc (.cells #[.bool j, .int .i64 n, u] 37)) (.int .i64 0) (.int .i64 0) (.int .i64 0) (.slice none 0 0) (.slice none 0 0)
    simpa using h
theorem told_jump (g : GateM) (ku au u : Value) (n : Int) (ll : Nat) (w : World) (hu : ∃ a c, u = .slice a ll c) (ho : g.Ok) (hs : RefS w g g.aside ku au) :
    Calls Tryz.prog 9 #[rgV g ku au, .agg #[.bool true, .int .i64 n, u]] w fun e w' => ∃ ku' au', e = .returned (rgV (g.jump n) ku' au') ∧ RefS w' (g.jump n) (g.jump n).aside ku' au' ∧ Below w.heap.size w w' := by
  obtain ⟨ua, uc, rfl⟩ := hu
  obtain ⟨gf, hgf⟩ : ∃ gf, g.jump n = gf := ⟨_, rfl⟩
  rw [hgf]
  have HGF := Lib.hid hgf
  have HOK := Lib.hid ho
  have HRS := Lib.hid hs
  obtain ⟨ka, kc, rfl, _⟩ := hs.kept.form
  obtain ⟨aa, ac, rfl, _⟩ := hs.aside.form
  have HS := Lib.hid (toS_new w g (.slice ka g.kept.length kc) (.slice aa g.aside.length ac) true n (.slice ua ll uc))
  clear hs hgf ho
  go_enter Tryz.func9, Tryz.ntmps9
  obtain ⟨⟨c0, c1, c2, c3, c4⟩, ⟨f0, f1, f2, f3, f4⟩, hz⟩ := HS.out.box.facts; obtain ⟨⟨d0, d1, d2⟩, _, hz3⟩ := HS.out.act.facts; obtain ⟨⟨e0, e1, e2, e3, e4⟩, ⟨j0, j1, j2, j3, j4⟩, hz2⟩ := HS.out.res.facts
  go_wp2_with (go_at_call 20; refine (refJump_any g (.slice ka g.kept.length kc) (.slice aa g.aside.length ac) n _ HOK.out (HRS.out.below HS.out.bel)).mono ?_; rw [HGF.out]; rintro e w7 ⟨ku7, au7, rfl, hr7, hb7⟩; obtain ⟨kb, kd, rfl, _⟩ := hr7.kept.form; obtain ⟨ab, ad, rfl, _⟩ := hr7.aside.form; have HR7 := Lib.hid hr7; have HS7 := Lib.hid (HS.out.older hb7); clear hr7 hb7 c0 c1 c2 c3 c4 f0 f1 f2 f3 f4 e0 e1 e2 e3 e4 j0 j1 j2 j3 j4 d0 d1 d2; obtain ⟨⟨c0, c1, c2, c3, c4⟩, ⟨f0, f1, f2, f3, f4⟩, hz⟩ := HS7.out.box.facts; obtain ⟨⟨d0, d1, d2⟩, _, hz3⟩ := HS7.out.act.facts; obtain ⟨⟨e0, e1, e2, e3, e4⟩, ⟨j0, j1, j2, j3, j4⟩, hz2⟩ := HS7.out.res.facts)
  obtain ⟨⟨z0, z1, z2, z3, z4⟩, _, _⟩ := (HS7.out.res.store (.int .i64 gf.applied) (.int .i64 gf.floor) (.int .i64 gf.win) (.slice kb gf.kept.length kd) (.slice ab gf.aside.length ad)).facts
  refine bodyPost_ret (v := rgV gf (.slice kb gf.kept.length kd) (.slice ab gf.aside.length ad)) (by simp [results, Tryz.results9, go_sem, z0, z1, z2, z3, z4]) rfl ?_
  exact ⟨_, _, rfl, HR7.out.store HS7.out.res _ _ _ _ _, below_store HS7.out.bel (by omega) _ _ _ _ _⟩
theorem told_apply (g : GateM) (ku au u : Value) (n : Int) (l : List Pg) (w : World) (hu : RowsV pcells 3 w u l) (hl : l.length ≤ 1000000) (hsz : ∀ p ∈ l, p.value.length ≤ 134217728) (ho : g.Ok) (hs : RefS w g g.aside ku au) :
    Calls Tryz.prog 9 #[rgV g ku au, .agg #[.bool false, .int .i64 n, u]] w fun e w' => ∃ ku' au', e = .returned (rgV (g.apply (clip50 n) l) ku' au') ∧ RefS w' (g.apply (clip50 n) l) (g.apply (clip50 n) l).aside ku' au' ∧ Below w.heap.size w w' := by
  obtain ⟨ua, uc, rfl, _⟩ := hu.form
  have hc1 : -1125899906842624 ≤ clip50 n ∧ clip50 n ≤ 1125899906842624 := by unfold clip50; omega
  have HU := Lib.hid hu
  have HSZ := Lib.hid hsz
  obtain ⟨gf, hgf⟩ : ∃ gf, g.apply (clip50 n) l = gf := ⟨_, rfl⟩
  rw [hgf]
  have HGF := Lib.hid hgf
  have HOK := Lib.hid ho
  have HRS := Lib.hid hs
  obtain ⟨ka, kc, rfl, _⟩ := hs.kept.form
  obtain ⟨aa, ac, rfl, _⟩ := hs.aside.form
  have HS := Lib.hid (toS_new w g (.slice ka g.kept.length kc) (.slice aa g.aside.length ac) false n (.slice ua l.length uc))
  clear hs hgf ho hu hsz
  go_enter Tryz.func9, Tryz.ntmps9
  obtain ⟨⟨c0, c1, c2, c3, c4⟩, ⟨f0, f1, f2, f3, f4⟩, hz⟩ := HS.out.box.facts; obtain ⟨⟨d0, d1, d2⟩, _, hz3⟩ := HS.out.act.facts; obtain ⟨⟨e0, e1, e2, e3, e4⟩, ⟨j0, j1, j2, j3, j4⟩, hz2⟩ := HS.out.res.facts
  go_wp2_with fail
  refine wp_region_held_drew (S := fun w' => w'.cell? ⟨w.heap.size, 0, none⟩ = some (.int .i64 g.applied) ∧ w'.cell? ⟨w.heap.size, 1, none⟩ = some (.int .i64 g.floor) ∧ w'.cell? ⟨w.heap.size, 2, none⟩ = some (.int .i64 g.win) ∧ w'.cell? ⟨w.heap.size, 3, none⟩ = some (.slice ka g.kept.length kc) ∧ w'.cell? ⟨w.heap.size, 4, none⟩ = some (.slice aa g.aside.length ac) ∧ w'.cell? ⟨w.heap.size + 1, 0, none⟩ = some (.bool false) ∧ w'.cell? ⟨w.heap.size + 1, 1, none⟩ = some (.int .i64 n) ∧ w'.cell? ⟨w.heap.size + 1, 2, none⟩ = some (.slice ua l.length uc)) (by kernel_rfl) (by exact ⟨c0, c1, c2, c3, c4, d0, d1, d2⟩) (fun hHeld => ?_)
  refine wpAnyH_take (i := 0) (v := ?_) (by simp only [List.getElem?_toArray, List.getElem?_cons_succ, List.getElem?_cons_zero]; rfl) (by kernel_rfl) (by kernel_rfl) (by kernel_rfl) (by intro _ _ _ h; exact h) (Or.inl ⟨by rfl, ?_⟩) (by assumption) ?_
  rotate_left
  focus (intro wT hT; (try dsimp only at hT); go_simp; try with_reducible rfl)
  try simp only [Act.put, List.setIfInBounds_toArray, List.set_cons_zero, List.set_cons_succ]
  refine wpAnyH_take (i := 1) (v := ?_) (by simp only [List.getElem?_toArray, List.getElem?_cons_succ, List.getElem?_cons_zero]; rfl) (by kernel_rfl) (by kernel_rfl) (by kernel_rfl) (by intro _ _ _ h; exact h) (Or.inl ⟨by rfl, ?_⟩) (by assumption) ?_
  rotate_left
  focus (intro wT hT; (try dsimp only at hT); go_simp; try with_reducible rfl)
  try simp only [Act.put, List.setIfInBounds_toArray, List.set_cons_zero, List.set_cons_succ]
  refine wpAnyH_take (i := 3) (v := ?_) (by simp only [List.getElem?_toArray, List.getElem?_cons_succ, List.getElem?_cons_zero]; rfl) (by kernel_rfl) (by kernel_rfl) (by kernel_rfl) (by intro _ _ _ h; exact h) (Or.inl ⟨by rfl, ?_⟩) (by assumption) ?_
  rotate_left
  focus (intro wT hT; (try dsimp only at hT); go_simp; try with_reducible rfl)
  try simp only [Act.put, List.setIfInBounds_toArray, List.set_cons_zero, List.set_cons_succ]
  refine wpAnyH_take (i := 4) (v := ?_) (by simp only [List.getElem?_toArray, List.getElem?_cons_succ, List.getElem?_cons_zero]; rfl) (by kernel_rfl) (by kernel_rfl) (by kernel_rfl) (by intro _ _ _ h; exact h) (Or.inl ⟨by rfl, ?_⟩) (by assumption) ?_
  rotate_left
  focus (intro wT hT; (try dsimp only at hT); go_simp; try with_reducible rfl)
  try simp only [Act.put, List.setIfInBounds_toArray, List.set_cons_zero, List.set_cons_succ]
  refine wpAnyH_ready (rs := [2]) (by kernel_rfl) (by simp) (AllReadyH.cons (by simp only [List.getElem?_toArray, List.getElem?_cons_succ, List.getElem?_cons_zero]; rfl) (fun K hK => ?_) AllReadyH.nil)
  go_simp
  go_at_call 22; refine (first38_any _ _ _ _ rfl).mono ?_; rintro e w6 ⟨rfl, hb6⟩; have HS6 := Lib.hid ((HS.out.older (Below.refl _ _).drew).older hb6); clear hb6 c0 c1 c2 c3 c4 f0 f1 f2 f3 f4 e0 e1 e2 e3 e4 j0 j1 j2 j3 j4 d0 d1 d2; obtain ⟨⟨c0, c1, c2, c3, c4⟩, ⟨f0, f1, f2, f3, f4⟩, hz⟩ := HS6.out.box.facts; obtain ⟨⟨d0, d1, d2⟩, _, hz3⟩ := HS6.out.act.facts; obtain ⟨⟨e0, e1, e2, e3, e4⟩, ⟨j0, j1, j2, j3, j4⟩, hz2⟩ := HS6.out.res.facts
  go_wp2_with fail
  refine hK.out _ _ (by exact ⟨c0, c1, c2, c3, c4, d0, d1, d2⟩) (fun hHe2 => ?_)
  clear hK K
  try simp only [Act.put, List.setIfInBounds_toArray, List.set_cons_zero, List.set_cons_succ]
  refine wpAnyH_ready (rs := [5]) (by kernel_rfl) (by simp) (AllReadyH.cons (by simp only [List.getElem?_toArray, List.getElem?_cons_succ, List.getElem?_cons_zero]; rfl) (fun K hK => ?_) AllReadyH.nil)
  go_simp
  go_at_call 21; refine (refApply_any g (.slice ka g.kept.length kc) (.slice aa g.aside.length ac) (.slice ua l.length uc) (clip50 n) l _ HOK.out (HRS.out.below HS6.out.bel) (HU.out.below HS6.out.bel) hl HSZ.out hc1.1 hc1.2).mono ?_; rw [HGF.out]; rintro e w7 ⟨ku7, au7, rfl, hr7, hb7⟩; obtain ⟨kb, kd, rfl, _⟩ := hr7.kept.form; obtain ⟨ab, ad, rfl, _⟩ := hr7.aside.form; have HR7 := Lib.hid hr7; have HS7 := Lib.hid (HS6.out.older hb7); clear hr7 hb7 c0 c1 c2 c3 c4 f0 f1 f2 f3 f4 e0 e1 e2 e3 e4 j0 j1 j2 j3 j4 d0 d1 d2; obtain ⟨⟨c0, c1, c2, c3, c4⟩, ⟨f0, f1, f2, f3, f4⟩, hz⟩ := HS7.out.box.facts; obtain ⟨⟨d0, d1, d2⟩, _, hz3⟩ := HS7.out.act.facts; obtain ⟨⟨e0, e1, e2, e3, e4⟩, ⟨j0, j1, j2, j3, j4⟩, hz2⟩ := HS7.out.res.facts
  go_wp2_with fail
  refine hK.out _ _ (by exact ⟨c0, c1, c2, c3, c4, d0, d1, d2⟩) (fun hHe3 => ?_)
  clear hK K
  try simp only [Act.put, List.setIfInBounds_toArray, List.set_cons_zero, List.set_cons_succ]
  refine wpAnyH_ready (rs := [6]) (by kernel_rfl) (by simp) (AllReadyH.cons (by simp only [List.getElem?_toArray, List.getElem?_cons_succ, List.getElem?_cons_zero]; rfl) (fun K hK => ?_) AllReadyH.nil)
  go_simp
  refine hK.out _ _ (by simp [go_sem, c0, c1, c2, c3, c4, d0, d1, d2]) (fun hHe4 => ?_)
  clear hK K
  try simp only [Act.put, List.setIfInBounds_toArray, List.set_cons_zero, List.set_cons_succ]
  refine wpAnyH_done (by kernel_rfl) ?_ _
  go_wp2_with fail
  obtain ⟨⟨z0, z1, z2, z3, z4⟩, _, _⟩ := (HS7.out.res.store (.int .i64 gf.applied) (.int .i64 gf.floor) (.int .i64 gf.win) (.slice kb gf.kept.length kd) (.slice ab gf.aside.length ad)).facts
  refine bodyPost_ret (v := rgV gf (.slice kb gf.kept.length kd) (.slice ab gf.aside.length ad)) (by simp [results, Tryz.results9, go_sem, z0, z1, z2, z3, z4]) rfl ?_
  exact ⟨_, _, rfl, HR7.out.store HS7.out.res _ _ _ _ _, below_store HS7.out.bel (by omega) _ _ _ _ _⟩
theorem told38_any (g : GateM) (ku au u : Value) (j : Bool) (n : Int) (l : List Pg) (w : World) (hu : RowsV pcells 3 w u l) (hl : l.length ≤ 1000000) (hsz : ∀ p ∈ l, p.value.length ≤ 134217728) (ho : g.Ok) (hs : RefS w g g.aside ku au) :
    Calls Tryz.prog 9 #[rgV g ku au, .agg #[.bool j, .int .i64 n, u]] w fun e w' => ∃ ku' au', e = .returned (rgV (g.doA ⟨j, n, u, l⟩) ku' au') ∧ RefS w' (g.doA ⟨j, n, u, l⟩) (g.doA ⟨j, n, u, l⟩).aside ku' au' ∧ Below w.heap.size w w' := by
  cases j with
  | true =>
    obtain ⟨a, c, e, _⟩ := hu.form
    exact told_jump g ku au u n l.length w ⟨a, c, e⟩ ho hs
  | false => exact told_apply g ku au u n l w hu hl hsz ho hs
end A1
end Go.Proofs.YtnppicekfjdefaaGreatDoor
end

section
namespace Go.Proofs.YtnppicekfjdefaaGreatDoor
open Go.RowKit Pl Ad Go.Maps
set_option maxRecDepth 100000
set_option linter.unusedVariables false
namespace A1
/-- The program's gate (g) and the reference's (r, in the variable at RB) side by side; the law began at w0. -/
structure PairS (w0 w : World) (R M : Nat) (v : Value) (g : GateM) (RB : Nat) (r : GateM) (ku au : Value) : Prop where
  run : GRun w0 w R M v g
  box : VBox w RB (.int .i64 r.applied) (.int .i64 r.floor) (.int .i64 r.win) ku au
  ref : RefS w r r.aside ku au
  old : w0.heap.size ≤ RB
  off : ¬ (RB = R ∨ RB = M ∨ v.ownBlock = some RB)
section
variable {w0 w w' : World} {R M RB : Nat} {v v' ku au ku' au' : Value} {g g' r r' : GateM}
theorem PairS.older (h : PairS w0 w R M v g RB r ku au) (hb : Below w.heap.size w w') : PairS w0 w' R M v g RB r ku au := ⟨h.run.older hb, h.box.older hb, h.ref.below hb, h.old, h.off⟩
theorem typed_off {B e : Nat} {u : Value} {l : List (Int × Pg)} (h : GateAt w B R M v g l) (hu : TypedV w e u) (h1 : e ≠ 63) (h2 : e ≠ 56) : ∀ q, u.ownBlock = some q → ¬ (q = R ∨ q = M ∨ v.ownBlock = some q) := fun q hq hs => by
  obtain ⟨cs, fr, hg⟩ := hu q hq
  rcases hs with rfl | rfl | hs
  · have := Option.some.inj (hg.symm.trans h.box)
    injection this with _ e2
    exact h1 e2
  · exact map_neC h.map hg rfl
  · rcases h.own.2 with ⟨rfl, _⟩ | ⟨b, o, cap, cur, rfl, _, hg2, _⟩
    · cases hs
    · simp [Value.ownBlock] at hs
      subst hs
      have := Option.some.inj (hg.symm.trans hg2)
      injection this with _ e2
      exact h2 e2
/-- The program's gate moves on. -/
theorem PairS.goes (h : PairS w0 w R M v g RB r ku au) (hr : GRun w0 w' R M v' g') (hs : GGoes w w' R M v v') : PairS w0 w' R M v' g' RB r ku au := by
  have hk := typed_off h.run.gate h.ref.tk (by decide) (by decide)
  have ha := typed_off h.run.gate h.ref.ta (by decide) (by decide)
  refine ⟨hr, (hs.touch.block RB h.box.facts.2.2 h.off).trans h.box, ⟨h.ref.kept.touch hs.touch hk, h.ref.aside.touch hs.touch ha, fun q hq => ?_, fun q hq => ?_⟩, h.old, fun e => ?_⟩
  · obtain ⟨cs, fr, hg⟩ := h.ref.tk q hq
    exact ⟨cs, fr, (hs.touch.block q (Array.getElem?_eq_some_iff.1 hg).1 (hk q hq)).trans hg⟩
  · obtain ⟨cs, fr, hg⟩ := h.ref.ta q hq
    exact ⟨cs, fr, (hs.touch.block q (Array.getElem?_eq_some_iff.1 hg).1 (ha q hq)).trans hg⟩
  · rcases e with e | e | e
    · exact h.off (.inl e)
    · exact h.off (.inr (.inl e))
    · rcases hs.lies RB e with e2 | e2
      · exact h.off (.inr (.inr e2))
      · have := h.box.facts.2.2; omega
/-- The reference's gate is stored. -/
theorem PairS.store (h : PairS w0 w R M v g RB r ku au) (hr : RefS w' r' r'.aside ku' au') (hb : Below w.heap.size w w') :
    PairS w0 (((((w'.setCell ⟨RB, 0, none⟩ (.int .i64 r'.applied)).setCell ⟨RB, 1, none⟩ (.int .i64 r'.floor)).setCell ⟨RB, 2, none⟩ (.int .i64 r'.win)).setCell ⟨RB, 3, none⟩ ku').setCell ⟨RB, 4, none⟩ au') R M v g RB r' ku' au' := by
  have h1 := h.older hb
  have ho : GOff w0 R M v RB := ⟨fun e => h.off (.inl e), fun e => h.off (.inr (.inl e)), fun e => h.off (.inr (.inr e)), h.old⟩
  exact ⟨((((h1.run.set1 ho 0 _).set1 ho 1 _).set1 ho 2 _).set1 ho 3 _).set1 ho 4 _, h1.box.store _ _ _ _ _, hr.store h1.box _ _ _ _ _, h.old, h.off⟩
theorem pair_new (h : GRun w0 w R M v g) (hr : RefS w r r.aside ku au) : PairS w0 (w.alloc (.cells #[.int .i64 r.applied, .int .i64 r.floor, .int .i64 r.win, ku, au] 34)) R M v g w.heap.size r ku au := by
  have hal := (Below.refl w.heap.size w).alloc (Nat.le_refl _) (.cells #[.int .i64 r.applied, .int .i64 r.floor, .int .i64 r.win, ku, au] 34)
  have h1 := h.gate.box.facts.2.2
  have h2 := map_lt h.gate.map
  refine ⟨h.older hal, vbox_new w _ _ _ _ _, hr.below hal, h.bel.size, ?_⟩
  rintro (e | e | e)
  · omega
  · omega
  · have := (h.gate.own.lt _ e).2; omega
end
end A1
end Go.Proofs.YtnppicekfjdefaaGreatDoor
end

section
namespace Go.Proofs.YtnppicekfjdefaaGreatDoor
open Go.RowKit Pl Ad
namespace A1
/-- A part of a slice of rows. -/
theorem RowsV.part {α : Type} {F : α → List Value} {k : Nat} {w : World} {b o n c : Nat} {xs : List α} (h : RowsV F k w (.slice (some ⟨b, o, none⟩) n c) xs) (hn : n = xs.length) {i j : Nat} (hij : i < j) (hj : j ≤ xs.length) :
    RowsV F k w (.slice (some ⟨b, o + i * k, none⟩) (j - i) (c - i)) ((xs.drop i).take (j - i)) := by
  rcases h with ⟨rfl, _⟩ | ⟨b', o', c', e, h2, h3, h4⟩
  · simp at hj; omega
  · cases e
    have hlen : ((xs.drop i).take (j - i)).length = j - i := by rw [List.length_take, List.length_drop]; omega
    refine .inr ⟨b, o + i * k, c - i, by rw [hlen], by rw [hlen]; omega, h3, fun m x hx q u hu => ?_⟩
    have hm : m < j - i := by rw [← hlen]; exact (List.getElem?_eq_some_iff.1 hx).1
    rw [List.getElem?_take, if_pos hm, List.getElem?_drop] at hx
    have := h4 (i + m) x hx q u hu
    rw [show o + i * k + (m * k + q) = o + ((i + m) * k + q) by rw [Nat.add_mul]; omega]
    exact this
end A1
end Go.Proofs.YtnppicekfjdefaaGreatDoor
end

section
namespace Go.Proofs.YtnppicekfjdefaaGreatDoor
open Go.RowKit Pl Ad
attribute [local go_sem] ba_get ba_append ba_extract_end ba_extract_zero ba_extract
set_option maxRecDepth 100000
set_option maxHeartbeats 4000000
set_option linter.unusedVariables false
set_option linter.unusedSimpArgs false
namespace A1
attribute [local go_sem] rgV
theorem refMissing_any (g : GateM) (ku au : Value) (w : World) (ho : g.Ok) (hs : RefS w g g.aside ku au) :
    Calls Tryz.prog 26 #[rgV g ku au] w fun e w' => e = .returned (.tuple #[.int .i64 g.applied, .int .i64 g.missTo]) ∧ Below w.heap.size w w' := by
  obtain ⟨ua, uc, rfl, _⟩ := hs.kept.form
  obtain ⟨ea, ec, rfl, _⟩ := hs.aside.form
  have HB := Lib.hid ((Below.refl w.heap.size w).alloc (Nat.le_refl _) (.cells #[.int .i64 g.applied, .int .i64 g.floor, .int .i64 g.win, .slice ua g.kept.length uc, .slice ea g.aside.length ec] 34))
  have HAS := Lib.hid hs.aside
  have HFR := Lib.hid ho.far
  have hap := ho.hi
  have hap0 : 0 ≤ g.applied := by have := ho.len; have := ho.lo; omega
  clear hs ho
  cases hl : g.aside with
  | nil =>
    have HM := Lib.hid (show g.missTo = g.applied by unfold GateM.missTo; rw [hl])
    have HL := Lib.hid (show g.aside.length = 0 by rw [hl]; rfl)
    rw [HL.out] at HB
    rw [HM.out]
    clear hl
    go_enter Tryz.func26, Tryz.ntmps26
    go_wp2_with fail
    go_quiet (fail)
    go_wp2_with fail
    go_ret2
    exact ⟨rfl, below_drewN HB.out _⟩
  | cons y r =>
    have HM := Lib.hid (show g.missTo = y.1 - 1 by unfold GateM.missTo; rw [hl])
    have hf := HFR.out y (by rw [hl]; simp)
    have HL := Lib.hid (show g.aside.length = r.length + 1 by rw [hl]; rfl)
    have HB2 := Lib.hid HB.out
    rw [HL.out] at HB2
    have hz0 : (0 : Int) < (r.length : Int) + 1 := by omega
    obtain ⟨b, o, c, e, hc, hbz, hcell⟩ := HAS.out.at (i := 0) (by rw [hl]; simp)
    cases e
    simp only [hl, List.getElem_cons_zero] at hcell
    obtain ⟨yn, yk, yt, yv⟩ := y
    have p00 := hcell 0 _ rfl
    simp only [Nat.zero_mul, Nat.add_zero] at p00 hf
    have p0 := (HB2.out.cell (p := ⟨b, _, none⟩) hbz).trans p00
    clear p00
    obtain ⟨hf1, hf2⟩ := hf
    rw [HM.out]
    clear hl hcell
    go_enter Tryz.func26, Tryz.ntmps26
    go_wp2_with fail
    go_quiet (fail)
    go_wp2_with fail
    go_ret2
    exact ⟨rfl, below_drewN HB2.out _⟩
theorem refRecent_any (g : GateM) (ku au : Value) (n : Int) (w : World) (ho : g.Ok) (hs : RefS w g g.aside ku au) :
    Calls Tryz.prog 29 #[rgV g ku au, .int .i64 n] w fun e w' => ∃ v, e = .returned (.tuple #[v, .int .i64 (g.recentC n)]) ∧ RowsV pcells 3 w' v (g.recent n) ∧ Below w.heap.size w w' := by
  obtain ⟨ua, uc, rfl, _⟩ := hs.kept.form
  obtain ⟨ea, ec, rfl, _⟩ := hs.aside.form
  have HB := Lib.hid ((Below.refl w.heap.size w).alloc (Nat.le_refl _) (.cells #[.int .i64 g.applied, .int .i64 g.floor, .int .i64 g.win, .slice ua g.kept.length uc, .slice ea g.aside.length ec] 34))
  have HK := Lib.hid hs.kept
  have hlen := ho.len
  have hlo := ho.lo
  have hhi := ho.hi
  have hroom := ho.room
  have hw2 := ho.win2
  clear hs ho
  by_cases h1 : n < 0
  · have HC := Lib.hid (show g.recentC n = 1 from if_pos h1)
    have HR := Lib.hid (show g.recent n = [] from if_pos (.inl h1))
    go_enter Tryz.func29, Tryz.ntmps29
    go_wp2_with fail
    go_ret2
    exact ⟨.slice none 0 0, by rw [HC.out]; rfl, by rw [HR.out]; exact RowsV.nil, HB.out⟩
  by_cases h2 : g.applied ≤ n
  · have HC := Lib.hid (show g.recentC n = 0 by unfold GateM.recentC; rw [if_neg h1, if_pos h2])
    have HR := Lib.hid (show g.recent n = [] from if_pos (.inr (.inl h2)))
    go_enter Tryz.func29, Tryz.ntmps29
    go_wp2_with fail
    go_ret2
    exact ⟨.slice none 0 0, by rw [HC.out]; rfl, by rw [HR.out]; exact RowsV.nil, HB.out⟩
  by_cases h3 : n < g.floor
  · have HC := Lib.hid (show g.recentC n = 15 by unfold GateM.recentC; rw [if_neg h1, if_neg h2, if_pos h3])
    have HR := Lib.hid (show g.recent n = [] from if_pos (.inr (.inr h3)))
    go_enter Tryz.func29, Tryz.ntmps29
    go_wp2_with fail
    go_ret2
    exact ⟨.slice none 0 0, by rw [HC.out]; rfl, by rw [HR.out]; exact RowsV.nil, HB.out⟩
  · obtain ⟨j, rfl⟩ : ∃ j : Nat, n = (j : Int) + g.floor := ⟨(n - g.floor).toNat, by omega⟩
    have hjl : j < g.kept.length := by omega
    have HC := Lib.hid (show g.recentC ((j : Int) + g.floor) = 0 by unfold GateM.recentC; rw [if_neg h1, if_neg h2, if_neg h3])
    have HR := Lib.hid (show g.recent ((j : Int) + g.floor) = g.kept.drop j by unfold GateM.recent; rw [if_neg (by omega), show (((j : Int) + g.floor) - g.floor).toNat = j by omega])
    obtain ⟨b, o, c, e, hc, hbz, _⟩ := HK.out.at hjl
    cases e
    have HP := Lib.hid ((HK.out.below HB.out).part rfl hjl (Nat.le_refl _))
    rw [List.take_of_length_le (by rw [List.length_drop]; exact Nat.le_refl _)] at HP
    have hne : ¬ uc = j := by omega
    have hne2 : ¬ j = uc := by omega
    have hju : j ≤ uc := by omega
    have hjle : j ≤ g.kept.length := by omega
    go_enter Tryz.func29, Tryz.ntmps29
    go_wp2_with fail
    go_ret2
    exact ⟨.slice (some ⟨b, o + j * 3, none⟩) (g.kept.length - j) (uc - j), by rw [HC.out]; rfl, by rw [HR.out]; exact HP.out, HB.out⟩
end A1
end Go.Proofs.YtnppicekfjdefaaGreatDoor
end

section
namespace Go.Proofs.YtnppicekfjdefaaGreatDoor
open Go.RowKit Pl Ad
attribute [local go_sem] ba_get ba_append ba_extract_end ba_extract_zero ba_extract
set_option maxRecDepth 100000
set_option maxHeartbeats 4000000
set_option linter.unusedVariables false
set_option linter.unusedSimpArgs false
namespace A1
attribute [local go_sem] rgV
theorem recent_len (g : GateM) (n : Int) : (g.recent n).length ≤ g.kept.length := by
  unfold GateM.recent
  split
  · simp
  · rw [List.length_drop]; omega
theorem is38_any (w0 w : World) (R M : Nat) (v ku au : Value) (g : GateM) (n : Int) (h : GRun w0 w R M v g) (hs : RefS w g g.aside ku au) :
    Calls Tryz.prog 11 #[ptrV R, rgV g ku au, .int .i64 n] w fun e w' => e = .returned (.bool true) ∧ Below w.heap.size w w' := by
  obtain ⟨ua, uc, rfl, _⟩ := hs.kept.form
  obtain ⟨ea, ec, rfl, _⟩ := hs.aside.form
  have hb0 := (Below.refl w.heap.size w).alloc (Nat.le_refl _) (.cells #[.int .i64 g.applied, .int .i64 g.floor, .int .i64 g.win, .slice ua g.kept.length uc, .slice ea g.aside.length ec] 34)
  have HB0 := Lib.hid hb0
  have HG := Lib.hid h
  have HRS := Lib.hid hs
  have HX0 := Lib.hid (vbox_new w (.int .i64 g.applied) (.int .i64 g.floor) (.int .i64 g.win) (.slice ua g.kept.length uc) (.slice ea g.aside.length ec))
  have hg0 := h.ok.lo
  have hg1 := h.ok.hi
  have hg2 : g.floor ≤ g.applied := by have := h.ok.len; omega
  have hg3 : g.kept.length ≤ 1024 := Nat.le_trans h.ok.room h.ok.win2
  clear hb0 h hs
  go_enter Tryz.func11, Tryz.ntmps11
  go_wp2_with (first
    | (go_at_call 25; refine (gateMissing w0.heap.size R M v g _ (HG.out.older HB0.out).gate HG.out.ok).mono ?_; rintro e w1 ⟨rfl, hb1⟩; have HB1 := Lib.hid (HB0.out.trans (hb1.mono HB0.out.size)); have HX1 := Lib.hid (HX0.out.older hb1); clear hb1; obtain ⟨⟨c0, c1, c2, c3, c4⟩, _, hz1⟩ := HX1.out.facts)
    | (go_at_call 26; refine (refMissing_any g (.slice ua g.kept.length uc) (.slice ea g.aside.length ec) _ HG.out.ok (HRS.out.below HB1.out)).mono ?_; rintro e w2 ⟨rfl, hb2⟩; have HB2 := Lib.hid (HB1.out.trans (hb2.mono HB1.out.size)); have HX2 := Lib.hid (HX1.out.older hb2); clear hb2 c0 c1 c2 c3 c4; obtain ⟨⟨c0, c1, c2, c3, c4⟩, _, hz2⟩ := HX2.out.facts))
  go_region_held3 (fun w' => w'.cell? ⟨w.heap.size, 0, none⟩ = some (.int .i64 g.applied) ∧ w'.cell? ⟨w.heap.size, 1, none⟩ = some (.int .i64 g.floor)) (first | go_keep | exact ⟨c0, c1⟩)
    ((first
      | (go_at_call 18; refine (gateApplied w0.heap.size R M v g _ _ ((HG.out.older HB2.out).older (Below.refl _ _).drew).gate).mono ?_; rintro e w' ⟨rfl, rfl⟩)
      | (go_at_call 27; refine (gateFloor w0.heap.size R M v g _ _ ((HG.out.older HB2.out).older (Below.refl _ _).drew).gate).mono ?_; rintro e w' ⟨rfl, rfl⟩)))
  have HBA := Lib.hid HB2.out.drew
  have HXA := Lib.hid HX2.out.drew
  generalize hwA : w2.drew = wA at HBA HXA ⊢
  clear hwA c0 c1 c2 c3 c4
  obtain ⟨⟨c0, c1, c2, c3, c4⟩, _, hzA⟩ := HXA.out.facts
  go_wp2_with fail
  have hal := (Below.refl wA.heap.size wA).alloc (Nat.le_refl _) (.cells #[.int .i64 g.floor, .int .i64 (g.floor - 1), .int .i64 g.applied, .int .i64 n] 3)
  have hlst := heap_alloc_new wA (.cells #[.int .i64 g.floor, .int .i64 (g.floor - 1), .int .i64 g.applied, .int .i64 n] 3)
  have HBB := Lib.hid (HBA.out.trans (hal.mono HBA.out.size))
  have HXB := Lib.hid (HXA.out.older hal)
  clear hal c0 c1 c2 c3 c4
  generalize hwB : wA.alloc (.cells #[.int .i64 g.floor, .int .i64 (g.floor - 1), .int .i64 g.applied, .int .i64 n] 3) = wB at HBB HXB hlst ⊢
  have HAT : Hid (∀ i : Nat, i < 4 → ∃ a : Int, wB.cell? ⟨wA.heap.size, i, none⟩ = some (.int .i64 a)) := Lib.hid (fun i hi => by
    rw [cell_of_row wB wA.heap.size i _ _ _ hlst]
    match i, hi with
    | 0, _ => exact ⟨_, rfl⟩
    | 1, _ => exact ⟨_, rfl⟩
    | 2, _ => exact ⟨_, rfl⟩
    | 3, _ => exact ⟨_, rfl⟩)
  have hlz := (Array.getElem?_eq_some_iff.1 hlst).1
  clear hwB hlst
  go_loopg [60, 12, 13, 14, 15, 16, 17] 4 (fun q iv s12 s13 s14 s15 s16 s17 wr => ∃ i : Nat, iv = .int .i64 i ∧ i ≤ 4 ∧ Hid (4 ≤ q + i) ∧ Below wB.heap.size wB wr)
  case atStart => exact ⟨0, rfl, by omega, Lib.hid (by omega), Below.refl _ _⟩
  case round =>
    obtain ⟨i, rfl, hi, HQ, hbr⟩ := hrel
    obtain ⟨n11, hn11⟩ : ∃ n11, gk = n11 := ⟨_, rfl⟩
    have HN11 := Lib.hid hn11
    have HBR := Lib.hid hbr
    have HBW := Lib.hid (HBB.out.trans (hbr.mono HBB.out.size))
    have HX3 := Lib.hid (HXB.out.older hbr)
    clear hbr hn11
    by_cases hi4 : i < 4
    · obtain ⟨a, ha⟩ := HAT.out i hi4
      have l0 := (HBR.out.cell (p := ⟨wA.heap.size, i, none⟩) hlz).trans ha
      clear ha
      obtain ⟨cc, hcc⟩ : ∃ cc, g.recentC a = cc := ⟨_, rfl⟩
      have HC := Lib.hid hcc
      obtain ⟨rl, hrl⟩ : ∃ rl, g.recent a = rl := ⟨_, rfl⟩
      have HRL := Lib.hid hrl
      have hrlen : rl.length ≤ 1000000 := by have := recent_len g a; rw [hrl] at this; omega
      clear hcc hrl
      go_wp2_with (first
        | (go_at_call 28; refine (gateRecent w0.heap.size R M v g a _ (HG.out.older HBW.out).gate HG.out.ok).mono ?_; rw [HC.out, HRL.out]; rintro e w7 ⟨u7, rfl, hown, hb7⟩; obtain ⟨a7, q7, rfl, hq7⟩ := hown.form; have HO7 := Lib.hid hown; have HB7 := Lib.hid (HBW.out.trans (hb7.mono HBW.out.size)); have HX7 := Lib.hid (HX3.out.older hb7); have HZ7 := Lib.hid (HBR.out.trans (hb7.mono HBR.out.size)); clear hown hb7; obtain ⟨⟨c0, c1, c2, c3, c4⟩, _, hz7⟩ := HX7.out.facts)
        | (go_at_call 29; refine (refRecent_any g (.slice ua g.kept.length uc) (.slice ea g.aside.length ec) a _ HG.out.ok (HRS.out.below HB7.out)).mono ?_; rw [HC.out, HRL.out]; rintro e w8 ⟨v8, rfl, hv8, hb8⟩; obtain ⟨a8, q8, rfl, _⟩ := hv8.form; have HV8 := Lib.hid hv8; have HO8 := Lib.hid (HO7.out.older hb8); have HZ8 := Lib.hid (HZ7.out.trans (hb8.mono HZ7.out.size)); clear hv8 hb8)
        | (go_at_call 14; refine (num_codeV cc _).mono ?_; rintro e w' ⟨rfl, rfl⟩)
        | (go_at_call 30; refine (are_any rl (.slice a7 rl.length q7) (.slice a8 rl.length q8) _ (rows_own HO8.out) HV8.out hrlen).mono ?_; rintro e w9 ⟨rfl, hb9⟩; have HO9 := Lib.hid (HO8.out.older hb9); have HZ9 := Lib.hid (HZ8.out.trans (hb9.mono HZ8.out.size)); clear hb9))
      have hlt7 : Hid (∀ q o, a7 = some ⟨q, o, none⟩ → wB.heap.size ≤ q) := Lib.hid fun q o e => by
        subst e
        exact Nat.le_trans HBR.out.size (HO7.out.lt q rfl).1
      go_loopg [17] rl.length (fun q jv wx => ∃ k : Nat, jv = .int .i64 k ∧ k ≤ rl.length ∧ Hid (rl.length ≤ q + k) ∧ ZRow wx 56 a7 rl.length ∧ Below wB.heap.size wB wx)
      case atStart => exact ⟨0, rfl, Nat.zero_le _, Lib.hid (by omega), ZRow.of HO9.out, HZ9.out⟩
      case round =>
        obtain ⟨k, rfl, hk, HQ2, z, hbx⟩ := hrel
        have HZ := Lib.hid z
        have HBX := Lib.hid hbx
        clear z hbx
        by_cases hlt2 : k < rl.length
        · obtain ⟨q, lo, c, e, _⟩ := HO9.out.cells (by omega)
          cases e
          have hrow := HZ.out q lo rfl
          obtain ⟨y0, q0⟩ := hrow.cell (i := lo + k * 3) (by omega)
          obtain ⟨y1, q1⟩ := hrow.cell (i := lo + k * 3 + 1) (by omega)
          obtain ⟨y2, q2⟩ := hrow.cell (i := lo + k * 3 + 2) (by omega)
          have f0 := hrow.frozen (lo + k * 3)
          have f1 := hrow.frozen (lo + k * 3 + 1)
          have f2 := hrow.frozen (lo + k * 3 + 2)
          have HLQ := Lib.hid (hlt7.out q lo rfl)
          clear hrow
          go_wp2_with fail
          go_roundg (gk - 1)
          case rel => exact ⟨k + 1, by go_num, by omega, Lib.hid (by have := HQ2.out; omega), ((HZ.out.set _ _).set _ _).set _ _, ((HBX.out.setCell (p := ⟨q, _, none⟩) HLQ.out _).setCell (p := ⟨q, _, none⟩) HLQ.out _).setCell (p := ⟨q, _, none⟩) HLQ.out _⟩
          case measure => have := HQ2.out; omega
        · go_wp2_with fail
          go_roundg (n11 - 1)
          case rel => exact ⟨i + 1, by go_num, by omega, Lib.hid (by have := HQ.out; have := HN11.out; omega), HBX.out⟩
          case measure => have := HQ.out; have := HN11.out; omega
    · go_wp2_with fail
      go_ret
      exact ⟨rfl, HBW.out⟩
end A1
end Go.Proofs.YtnppicekfjdefaaGreatDoor
end
