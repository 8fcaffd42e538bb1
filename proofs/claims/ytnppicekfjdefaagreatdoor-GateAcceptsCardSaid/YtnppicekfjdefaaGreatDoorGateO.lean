/- Contracts: questions opened; what the laws over the gate share; the reference gate's Apply, the laws' told, the pair of a gate and its reference. Conditions: a settled gate; at most a million purges of at most 2^27 bytes. -/
import Derived.Test.YtnppicekfjdefaaGreatDoorActs
import Derived.Lib.SmallJoins
import Derived.Test.YtnppicekfjdefaaGreatDoorGateQ
import Derived.Test.YtnppicekfjdefaaGreatDoorGateJ
import Derived.Test.YtnppicekfjdefaaGreatDoorGateX
import Derived.Test.YtnppicekfjdefaaGreatDoorGLawB
import Derived.StillTailTactics
import Derived.OrdersHeld
section
namespace Go.Proofs.YtnppicekfjdefaaGreatDoor.Op
open Go.ChangeShapes Go.WideShapes Go.Deep Go.RowKit Pl A1 Ad
set_option maxRecDepth 100000
theorem item_trod {H : Type} {enc : TypeId × Value → H} {w : World} {base n : Nat} {spare : Nat → Bool} {held : Bool} {cs : List Value} {y : DataW H × List MemPlace} (hl : cs.length = 3)
    (h : DataW.trod enc Tryz.prog w base spare held n 43 cs = some y) : ∃ (t : Int) (a : Bs) (u : Value) (tags : List Bs), cs = [.int .i64 t, .string ⟨a.toArray⟩, u] ∧ StrsV w u tags ∧ tags.length ≤ 9223372036854775807 := by
  obtain ⟨y0, y1, y2, m, _, _, h0, h1, h2⟩ := trod_struct3 Tryz.underlying43 h
  match cs, hl with
  | [a, b, c], _ =>
    obtain ⟨k, e0, _, _⟩ := DataW.trod_int Tryz.underlying3 h0
    obtain ⟨⟨⟨l⟩⟩, e1, _, _⟩ := DataW.trod_string Tryz.underlying9 h1
    have h2' : DataW.trod enc Tryz.prog w base spare held m 41 [c] = some y2 := h2
    obtain ⟨tags, ht, htl⟩ := strs_trod h2'
    have e0' : [a] = [Value.int .i64 k] := e0
    have e1' : [b] = [Value.string ⟨⟨l⟩⟩] := e1
    cases e0'; cases e1'
    exact ⟨k, l, c, tags, rfl, ht, htl⟩
theorem open_q38 {H : Type} {enc : TypeId × Value → H} {w : World} {base : Nat} {spare : Nat → Bool} {held : Bool} {v : Value} {d : DataW H} {p : List MemPlace} {r : Reach} {b0 : Nat}
    (hv : Value.okWide Tryz.prog w r b0 45 v) (h : DataW.Trod enc Tryz.prog w base spare held 45 v d p) :
    ∃ (xt : Int) (xa : Bs) (tags : List Bs) (u : Value) (n m : Int), v = .agg #[.int .i64 xt, .string ⟨xa.toArray⟩, u, .int .i64 n, .int .u8 m] ∧ StrsV w u tags ∧ tags.length ≤ 9223372036854775807 ∧ 0 ≤ m ∧ m < 256 := by
  obtain ⟨cs, rfl, hsz⟩ : ∃ cs, v = .agg cs ∧ cs.size = 5 := by
    unfold Value.okWide at hv
    rw [Tryz.underlying45] at hv
    obtain ⟨cs, h1, h2, _⟩ := hv
    exact ⟨cs, h1, h2.trans (by kernel_rfl)⟩
  obtain ⟨fuel, hf⟩ := h
  obtain ⟨y0, y1, y2, m, _, _, h0, h1, h2⟩ := trod_struct3 Tryz.underlying45 hf
  obtain ⟨l⟩ := cs
  have hl : l.length = 5 := hsz
  match l, hl with
  | [a, b, c, d, e], _ =>
    have h0' : DataW.trod enc Tryz.prog w base spare held m 43 [a, b, c] = some y0 := h0
    obtain ⟨t, la, u, tags, e0, hu, hul⟩ := item_trod rfl h0'
    obtain ⟨n, e1, _, _⟩ := DataW.trod_int Tryz.underlying3 h1
    obtain ⟨k, e2, _, wf⟩ := DataW.trod_int Tryz.underlying5 h2
    have e1' : [d] = [Value.int .i64 n] := e1
    have e2' : [e] = [Value.int .u8 k] := e2
    cases e0; cases e1'; cases e2'
    have hk := u8_range wf
    exact ⟨t, la, tags, _, n, k, rfl, hu, hul, hk.1, hk.2⟩
end Go.Proofs.YtnppicekfjdefaaGreatDoor.Op
end

section
namespace Go.Proofs.YtnppicekfjdefaaGreatDoor
open Go.RowKit Pl Ad Go.Maps
attribute [local go_sem] ba_get ba_append ba_extract_end ba_extract_zero ba_extract
set_option maxRecDepth 100000
set_option maxHeartbeats 4000000
set_option linter.unusedVariables false
set_option linter.unusedSimpArgs false
namespace Ad
namespace GateM
def plays (g : GateM) (l : List GAct) : GateM := l.foldl doA g
theorem plays_snoc (g : GateM) {l : List GAct} {k : Nat} (hk : k < l.length) : g.plays (l.take (k + 1)) = (g.plays (l.take k)).doA l[k] := by
  unfold plays
  rw [List.take_succ_eq_append_getElem hk, List.foldl_append]
  rfl
end GateM
def tinyB (x : It) : Bool := decide (x.tags.length ≤ 40) && decide (x.addr.length ≤ 1200)
end Ad
namespace A1
/-- The question's variable. -/
def QBox (w : World) (R : Nat) (xt : Int) (xa : Bs) (u : Value) (n m : Int) : Prop := w.heap[R]? = some (.cells #[.int .i64 xt, .string ⟨xa.toArray⟩, u, .int .i64 n, .int .u8 m] 45 (0, 0))
theorem QBox.facts {w : World} {R : Nat} {xt : Int} {xa : Bs} {u : Value} {n m : Int} (h : QBox w R xt xa u n m) :
    (w.cell? ⟨R, 0, none⟩ = some (.int .i64 xt) ∧ w.cell? ⟨R, 1, none⟩ = some (.string ⟨xa.toArray⟩) ∧ w.cell? ⟨R, 2, none⟩ = some u ∧ w.cell? ⟨R, 3, none⟩ = some (.int .i64 n) ∧ w.cell? ⟨R, 4, none⟩ = some (.int .u8 m)) ∧ R < w.heap.size :=
  ⟨⟨by rw [cell_of_row w R 0 _ _ _ h]; rfl, by rw [cell_of_row w R 1 _ _ _ h]; rfl, by rw [cell_of_row w R 2 _ _ _ h]; rfl, by rw [cell_of_row w R 3 _ _ _ h]; rfl, by rw [cell_of_row w R 4 _ _ _ h]; rfl⟩, (Array.getElem?_eq_some_iff.1 h).1⟩
theorem QBox.older {w w' : World} {R : Nat} {xt : Int} {xa : Bs} {u : Value} {n m : Int} (h : QBox w R xt xa u n m) (hb : Below w.heap.size w w') : QBox w' R xt xa u n m := (hb.block R h.facts.2).trans h
theorem tiny38_any (xt : Int) (xa : Bs) (tags : List Bs) (ua : Option Addr) (uc : Nat) (w : World) (htl : tags.length ≤ 9223372036854775807) :
    Calls Tryz.prog 12 #[.agg #[.int .i64 xt, .string ⟨xa.toArray⟩, .slice ua tags.length uc]] w fun e w' => e = .returned (.bool (tinyB ⟨xt, xa, tags⟩)) ∧ Below w.heap.size w w' := by
  by_cases h1 : tags.length ≤ 40
  · have HT := Lib.hid (show tinyB ⟨xt, xa, tags⟩ = decide (xa.length ≤ 1200) by unfold tinyB; simp only; rw [decide_eq_true h1]; rfl)
    have HD := Lib.hid (show decide ((xa.length : Int) ≤ 1200) = decide (xa.length ≤ 1200) by rw [decide_eq_decide]; omega)
    go_enter Tryz.func12, Tryz.ntmps12
    go_wp2
    go_ret
    exact ⟨ret_bool' (by rw [HT.out, ← HD.out]), (Below.refl _ _).alloc (Nat.le_refl _) _⟩
  · have HT := Lib.hid (show tinyB ⟨xt, xa, tags⟩ = false by unfold tinyB; simp only; rw [decide_eq_false h1]; rfl)
    have hd : decide ((tags.length : Int) ≤ 40) = false := decide_eq_false (by omega)
    go_enter Tryz.func12, Tryz.ntmps12
    go_wp2
    go_ret
    exact ⟨ret_bool' HT.out.symm, (Below.refl _ _).alloc (Nat.le_refl _) _⟩

/-- What stands behind the acts: the gate, the item. -/
structure GRest (w3 wr : World) (R M : Nat) (v u : Value) (g : GateM) (X : Nat) (xt : Int) (xa : Bs) (tags : List Bs) : Prop where
  run : GRun w3 wr R M v g
  str : OwnWin wr w3.heap.size 9 1 u tags.length (svals tags)
  box : Box3 wr X 47 (.int .i64 xt) (.string ⟨xa.toArray⟩) u
  apU : Apart R M v u
  apX : ¬ (X = R ∨ X = M ∨ v.ownBlock = some X)
theorem GRest.older {w3 wr w' : World} {R M : Nat} {v u : Value} {g : GateM} {X : Nat} {xt : Int} {xa : Bs} {tags : List Bs} (h : GRest w3 wr R M v u g X xt xa tags) (hb : Below wr.heap.size wr w') : GRest w3 w' R M v u g X xt xa tags :=
  ⟨h.run.older hb, h.str.older hb, h.box.older hb, h.apU, h.apX⟩
theorem GRest.goes {w3 wr w' : World} {R M : Nat} {v v' u : Value} {g g' : GateM} {X : Nat} {xt : Int} {xa : Bs} {tags : List Bs} (h : GRest w3 wr R M v u g X xt xa tags) (hr : GRun w3 w' R M v' g') (hs : GGoes wr w' R M v v') : GRest w3 w' R M v' u g' X xt xa tags :=
  ⟨hr, h.str.touch hs.touch h.apU, (hs.touch.block X h.box.facts.2.2 h.apX).trans h.box, h.apU.goes hs (fun q hq => (h.str.lt q hq).2), fun e => by
    rcases e with e | e | e
    · exact h.apX (.inl e)
    · exact h.apX (.inr (.inl e))
    · rcases hs.lies X e with e2 | e2
      · exact h.apX (.inr (.inr e2))
      · have := h.box.facts.2.2; omega⟩
/-- The start: the gate is new, then the item is made. -/
theorem gRest_new {w3 wr w5 : World} {R M : Nat} {v u : Value} {g : GateM} {xt : Int} {xa : Bs} {tags : List Bs} (h : GRun w3 wr R M v g) (hb : Below wr.heap.size wr w5) (hu : OwnWin w5 wr.heap.size 9 1 u tags.length (svals tags)) :
    GRest w3 (w5.alloc (.cells #[.int .i64 xt, .string ⟨xa.toArray⟩, u] 47)) R M v u g w5.heap.size xt xa tags := by
  have hal := (Below.refl w5.heap.size w5).alloc (Nat.le_refl _) (.cells #[.int .i64 xt, .string ⟨xa.toArray⟩, u] 47)
  have hR := h.gate.box.facts.2.2
  have hM := map_lt h.gate.map
  have hz := hb.size
  refine ⟨(h.older hb).older hal, (hu.older hal).mono (fun q hq => Nat.le_trans h.bel.size (hu.lt q hq).1), box3_new w5 47 (.int .i64 xt) (.string ⟨xa.toArray⟩) u, fun q hq e => ?_, fun e => ?_⟩
  · have h1 := (hu.lt q hq).1
    rcases e with e | e | e
    · omega
    · omega
    · have := (h.gate.own.lt q e).2; omega
  · rcases e with e | e | e
    · omega
    · omega
    · have := (h.gate.own.lt _ e).2; omega
end A1
end Go.Proofs.YtnppicekfjdefaaGreatDoor
end

section
namespace Go.Proofs.YtnppicekfjdefaaGreatDoor
open Go.RowKit Pl Ad
attribute [local go_sem] ba_get ba_append ba_extract_end ba_extract_zero ba_extract
set_option maxRecDepth 100000
set_option maxHeartbeats 4000000
set_option linter.unusedVariables false
set_option linter.unusedSimpArgs false
namespace A1
attribute [local go_sem] rgV
/-- Apply on the way: the gate's variable and the result's; the gate as it is now. -/
structure ApR2 (w wr : World) (g : GateM) (ku au : Value) : Prop where
  bel : Below w.heap.size w wr
  box : VBox wr w.heap.size (.int .i64 g.applied) (.int .i64 g.floor) (.int .i64 g.win) ku au
  res : VBox wr (w.heap.size + 1) (.int .i64 0) (.int .i64 0) (.int .i64 0) (.slice none 0 0) (.slice none 0 0)
  ref : RefS wr g g.aside ku au
theorem ApR2.older {w wr w' : World} {g : GateM} {ku au : Value} (h : ApR2 w wr g ku au) (hb : Below wr.heap.size wr w') : ApR2 w w' g ku au := ⟨h.bel.trans (hb.mono h.bel.size), h.box.older hb, h.res.older hb, h.ref.below hb⟩
/-- A call's gate is stored. -/
theorem ApR2.store {w wr w' : World} {g g' : GateM} {ku au ku' au' : Value} (h : ApR2 w wr g ku au) (hr : RefS w' g' g'.aside ku' au') (hb : Below wr.heap.size wr w') :
    ApR2 w (((((w'.setCell ⟨w.heap.size, 0, none⟩ (.int .i64 g'.applied)).setCell ⟨w.heap.size, 1, none⟩ (.int .i64 g'.floor)).setCell ⟨w.heap.size, 2, none⟩ (.int .i64 g'.win)).setCell ⟨w.heap.size, 3, none⟩ ku').setCell ⟨w.heap.size, 4, none⟩ au') g' ku' au' := by
  have h1 := h.older hb
  refine ⟨below_store h1.bel (Nat.le_refl _) _ _ _ _ _, h1.box.store _ _ _ _ _, ?_, hr.store h1.box _ _ _ _ _⟩
  exact ((((h1.res.other (by omega) 0 _).other (by omega) 1 _).other (by omega) 2 _).other (by omega) 3 _).other (by omega) 4 _
theorem refKeep_any (g : GateM) (ku au : Value) (p : Pg) (w : World) (ho : g.Ok) (hs : RefS w g g.aside ku au) (hp : p.value.length ≤ 134217728) (ha : g.applied + 1 ≤ 1099511627776) :
    Calls Tryz.prog 40 #[rgV g ku au, .agg #[.int .i64 p.kind, .int .i64 p.tenant, .string ⟨p.value.toArray⟩]] w fun e w' => ∃ ku' au', e = .returned (rgV (g.keep p) ku' au') ∧ RefS w' (g.keep p) (g.keep p).aside ku' au' ∧ Below w.heap.size w w' :=
  keep_of (followOk g.aside.length) g g.aside ku au p w (Nat.le_refl _) ho.near hp ha hs
theorem refApply_any (g : GateM) (ku au v : Value) (n : Int) (l : List Pg) (w : World) (ho : g.Ok) (hs : RefS w g g.aside ku au) (hv : RowsV pcells 3 w v l) (hl : l.length ≤ 1000000) (hsz : ∀ p ∈ l, p.value.length ≤ 134217728) (hn1 : -1125899906842624 ≤ n) (hn2 : n ≤ 1125899906842624) :
    Calls Tryz.prog 21 #[rgV g ku au, .int .i64 n, v] w fun e w' => ∃ ku' au', e = .returned (rgV (g.apply n l) ku' au') ∧ RefS w' (g.apply n l) (g.apply n l).aside ku' au' ∧ Below w.heap.size w w' := by
  obtain ⟨gf, hgf⟩ : ∃ gf, g.apply n l = gf := ⟨_, rfl⟩
  rw [hgf]
  have HGF := Lib.hid hgf
  have HOK := Lib.hid ho
  have HV := Lib.hid hv
  have HSZ := Lib.hid hsz
  obtain ⟨va, vc, rfl, _⟩ := hv.form
  obtain ⟨ua, uc, rfl, _⟩ := hs.kept.form
  obtain ⟨ea, ec, rfl, _⟩ := hs.aside.form
  have h0 := foS_new hs
  have HF := Lib.hid (ApR2.mk h0.bel h0.box h0.res h0.ref)
  clear hs hgf ho hv hsz h0
  go_enter Tryz.func21, Tryz.ntmps21
  go_upto_region 2 with fail
  go_loopg [7, 8] l.length (fun q iv s8 wr => ∃ (k : Nat) (g2 : GateM) (ku2 au2 : Value), iv = .int .i64 k ∧ k ≤ l.length ∧ Hid (l.length ≤ q + k) ∧ Hid (g2.apply (n + k) (l.drop k) = gf) ∧ Hid g2.Ok ∧ ApR2 w wr g2 ku2 au2)
  case atStart => exact ⟨0, g, _, _, rfl, Nat.zero_le _, Lib.hid (by omega), Lib.hid (by simpa using HGF.out), HOK, HF.out⟩
  case round =>
    obtain ⟨k, g2, ku2, au2, rfl, hk, HQ, HG2, HO2, s⟩ := hrel
    obtain ⟨ka, kc, rfl, _⟩ := s.ref.kept.form
    obtain ⟨aa, ac, rfl, _⟩ := s.ref.aside.form
    have HS := Lib.hid s
    have hg0 : 0 ≤ g2.applied := by have := HO2.out.lo; have := HO2.out.len; omega
    have hg1 := HO2.out.hi
    obtain ⟨⟨c0, c1, c2, c3, c4⟩, ⟨f0, f1, f2, f3, f4⟩, hz⟩ := s.box.facts
    obtain ⟨⟨e0, e1, e2, e3, e4⟩, ⟨j0, j1, j2, j3, j4⟩, hz2⟩ := s.res.facts
    clear s
    by_cases hlt : k < l.length
    · obtain ⟨b, o, c, e, hc, hbz, hcell⟩ := (HV.out.below HS.out.bel).at hlt
      cases e
      have hpv := HSZ.out l[k] (List.getElem_mem hlt)
      have HST := Lib.hid (fun hc hn => apply_step (g := g2) (n := n + k) (l := l) hlt hc hn)
      have HSP := Lib.hid (fun h => apply_stop (g := g2) (n := n + k) (l := l) hlt h)
      generalize l[k] = y at hcell hpv HST HSP
      obtain ⟨yk, yt, yv⟩ := y
      simp only at hpv
      have p0 : wr.cell? ⟨b, o + k * 3, none⟩ = some (.int .i64 yk) := hcell 0 _ rfl
      have p1 : wr.cell? ⟨b, o + k * 3 + 1, none⟩ = some (.int .i64 yt) := hcell 1 _ rfl
      have p2 : wr.cell? ⟨b, o + k * 3 + 2, none⟩ = some (.string ⟨yv.toArray⟩) := hcell 2 _ rfl
      clear hcell
      obtain ⟨cn, hcn⟩ : ∃ cn, checkN ⟨yk, yt, yv⟩ = cn := ⟨_, rfl⟩
      have HCN := Lib.hid hcn
      by_cases hc : cn = 0
      · by_cases hbig : 1099511627776 < n + k
        · have HE := Lib.hid (show g2 = gf by rw [← HG2.out]; exact (HSP.out (by rintro ⟨_, h⟩; omega)).symm)
          subst hc
          clear hcn
          go_wp2_with (go_at_call 39; refine (refCheck_any ⟨yk, yt, yv⟩ _ hpv).mono ?_; rintro e w1 ⟨rfl, hb1⟩; rw [HCN.out]; have HS1 := Lib.hid (HS.out.older hb1); have hbz1 := hb1.size; have r0 := (hb1.cell (p := ⟨b, _, none⟩) hbz).trans p0; have r1 := (hb1.cell (p := ⟨b, _, none⟩) hbz).trans p1; have r2 := (hb1.cell (p := ⟨b, _, none⟩) hbz).trans p2; clear hb1 c0 c1 c2 c3 c4 f0 f1 f2 f3 f4 e0 e1 e2 e3 e4 j0 j1 j2 j3 j4; obtain ⟨⟨c0, c1, c2, c3, c4⟩, ⟨f0, f1, f2, f3, f4⟩, hz3⟩ := HS1.out.box.facts; obtain ⟨⟨e0, e1, e2, e3, e4⟩, ⟨j0, j1, j2, j3, j4⟩, hz4⟩ := HS1.out.res.facts)
          obtain ⟨⟨z0, z1, z2, z3, z4⟩, _, _⟩ := (HS1.out.res.store (.int .i64 g2.applied) (.int .i64 g2.floor) (.int .i64 g2.win) (.slice ka g2.kept.length kc) (.slice aa g2.aside.length ac)).facts
          refine bodyPost_ret (v := rgV g2 (.slice ka g2.kept.length kc) (.slice aa g2.aside.length ac)) (by simp [results, Tryz.results21, go_sem, z0, z1, z2, z3, z4]) rfl ?_
          exact ⟨_, _, by rw [HE.out], by rw [← HE.out]; exact HS1.out.ref.store HS1.out.res _ _ _ _ _, below_store HS1.out.bel (by omega) _ _ _ _ _⟩
        · have HST2 := Lib.hid (HST.out (hcn.trans hc) (by omega))
          subst hc
          clear hcn
          by_cases h1 : n + (k : Int) ≤ g2.applied
          · have HE := Lib.hid (show g2.apply (n + ((k + 1 : Nat) : Int)) (l.drop (k + 1)) = gf by
              rw [← HG2.out, HST2.out, show g2.one (n + k) ⟨yk, yt, yv⟩ = g2 from if_pos h1, show (n + ((k + 1 : Nat) : Int)) = n + k + 1 by omega])
            go_wp2_with (go_at_call 39; refine (refCheck_any ⟨yk, yt, yv⟩ _ hpv).mono ?_; rintro e w1 ⟨rfl, hb1⟩; rw [HCN.out]; have HS1 := Lib.hid (HS.out.older hb1); have hbz1 := hb1.size; have r0 := (hb1.cell (p := ⟨b, _, none⟩) hbz).trans p0; have r1 := (hb1.cell (p := ⟨b, _, none⟩) hbz).trans p1; have r2 := (hb1.cell (p := ⟨b, _, none⟩) hbz).trans p2; clear hb1 c0 c1 c2 c3 c4 f0 f1 f2 f3 f4 e0 e1 e2 e3 e4 j0 j1 j2 j3 j4; obtain ⟨⟨c0, c1, c2, c3, c4⟩, ⟨f0, f1, f2, f3, f4⟩, hz3⟩ := HS1.out.box.facts; obtain ⟨⟨e0, e1, e2, e3, e4⟩, ⟨j0, j1, j2, j3, j4⟩, hz4⟩ := HS1.out.res.facts)
            go_roundg (gk - 1)
            case rel => exact ⟨k + 1, g2, _, _, by go_num, by omega, Lib.hid (by have := HQ.out; omega), HE, HO2, HS1.out⟩
            case measure => have := HQ.out; omega
          · by_cases h2 : n + (k : Int) = g2.applied + 1
            · have HE := Lib.hid (show (g2.keep ⟨yk, yt, yv⟩).apply (n + ((k + 1 : Nat) : Int)) (l.drop (k + 1)) = gf by
                rw [← HG2.out, HST2.out, show g2.one (n + k) ⟨yk, yt, yv⟩ = g2.keep ⟨yk, yt, yv⟩ by unfold GateM.one; rw [if_neg h1, if_pos h2], show (n + ((k + 1 : Nat) : Int)) = n + k + 1 by omega])
              have hb2 : ((n + (k : Int)) == g2.applied + 1) = true := by simpa using h2
              have ha2 : g2.applied + 1 ≤ 1099511627776 := by omega
              clear h2
              have HOK2 := Lib.hid (GateM.ok_keep HO2.out (p := ⟨yk, yt, yv⟩) hpv ha2)
              go_wp2_with (go_at_call 39; refine (refCheck_any ⟨yk, yt, yv⟩ _ hpv).mono ?_; rintro e w1 ⟨rfl, hb1⟩; rw [HCN.out]; have HS1 := Lib.hid (HS.out.older hb1); have hbz1 := hb1.size; have r0 := (hb1.cell (p := ⟨b, _, none⟩) hbz).trans p0; have r1 := (hb1.cell (p := ⟨b, _, none⟩) hbz).trans p1; have r2 := (hb1.cell (p := ⟨b, _, none⟩) hbz).trans p2; clear hb1 c0 c1 c2 c3 c4 f0 f1 f2 f3 f4 e0 e1 e2 e3 e4 j0 j1 j2 j3 j4; obtain ⟨⟨c0, c1, c2, c3, c4⟩, ⟨f0, f1, f2, f3, f4⟩, hz3⟩ := HS1.out.box.facts; obtain ⟨⟨e0, e1, e2, e3, e4⟩, ⟨j0, j1, j2, j3, j4⟩, hz4⟩ := HS1.out.res.facts)
              have HS1d := Lib.hid (HS1.out.older (Below.refl _ _).drew)
              go_still_tail 5, (by kernel_rfl)
              change wpList _ _ _ _ _ w1.drew
              generalize hw8 : w1.drew = w8 at HS1d ⊢
              clear hw8
              go_wp2_with (go_at_call 40; refine (refKeep_any g2 (.slice ka g2.kept.length kc) (.slice aa g2.aside.length ac) ⟨yk, yt, yv⟩ _ HO2.out HS1d.out.ref hpv ha2).mono ?_; rintro e w3 ⟨ku3, au3, rfl, hr3, hb3⟩; obtain ⟨ka3, kc3, rfl, _⟩ := hr3.kept.form; obtain ⟨aa3, ac3, rfl, _⟩ := hr3.aside.form; have HS2 := Lib.hid (HS1d.out.older hb3); have HR3 := Lib.hid hr3; have HB3 := Lib.hid hb3; clear hr3 hb3 c0 c1 c2 c3 c4 f0 f1 f2 f3 f4; obtain ⟨⟨c0, c1, c2, c3, c4⟩, ⟨f0, f1, f2, f3, f4⟩, hz5⟩ := HS2.out.box.facts)
              go_roundg (gk - 1)
              case rel => exact ⟨k + 1, (g2.keep ⟨yk, yt, yv⟩), _, _, by go_num, by omega, Lib.hid (by have := HQ.out; omega), HE, HOK2, HS1d.out.store HR3.out HB3.out⟩
              case measure => have := HQ.out; omega
            · have HE := Lib.hid (show (g2.put (n + k) ⟨yk, yt, yv⟩).apply (n + ((k + 1 : Nat) : Int)) (l.drop (k + 1)) = gf by
                rw [← HG2.out, HST2.out, show g2.one (n + k) ⟨yk, yt, yv⟩ = g2.put (n + k) ⟨yk, yt, yv⟩ by unfold GateM.one; rw [if_neg h1, if_neg h2], show (n + ((k + 1 : Nat) : Int)) = n + k + 1 by omega])
              have hb2 : ((n + (k : Int)) == g2.applied + 1) = false := by simpa using h2
              have hlo2 : g2.applied + 1 < n + k := by omega
              clear h2
              have HOK2 := Lib.hid (GateM.ok_put HO2.out (p := ⟨yk, yt, yv⟩) hpv hlo2 (by omega))
              go_wp2_with (go_at_call 39; refine (refCheck_any ⟨yk, yt, yv⟩ _ hpv).mono ?_; rintro e w1 ⟨rfl, hb1⟩; rw [HCN.out]; have HS1 := Lib.hid (HS.out.older hb1); have hbz1 := hb1.size; have r0 := (hb1.cell (p := ⟨b, _, none⟩) hbz).trans p0; have r1 := (hb1.cell (p := ⟨b, _, none⟩) hbz).trans p1; have r2 := (hb1.cell (p := ⟨b, _, none⟩) hbz).trans p2; clear hb1 c0 c1 c2 c3 c4 f0 f1 f2 f3 f4 e0 e1 e2 e3 e4 j0 j1 j2 j3 j4; obtain ⟨⟨c0, c1, c2, c3, c4⟩, ⟨f0, f1, f2, f3, f4⟩, hz3⟩ := HS1.out.box.facts; obtain ⟨⟨e0, e1, e2, e3, e4⟩, ⟨j0, j1, j2, j3, j4⟩, hz4⟩ := HS1.out.res.facts)
              have HS1d := Lib.hid (HS1.out.older (Below.refl _ _).drew)
              go_still_tail 7, (by kernel_rfl)
              change wpList _ _ _ _ _ w1.drew
              generalize hw8 : w1.drew = w8 at HS1d ⊢
              clear hw8
              go_wp2_with (go_at_call 41; refine (refAside_any g2 (.slice ka g2.kept.length kc) (.slice aa g2.aside.length ac) (n + k) ⟨yk, yt, yv⟩ _ HO2.out HS1d.out.ref (by omega)).mono ?_; rintro e w3 ⟨ku3, au3, rfl, hr3, hb3⟩; obtain ⟨ka3, kc3, rfl, _⟩ := hr3.kept.form; obtain ⟨aa3, ac3, rfl, _⟩ := hr3.aside.form; have HS2 := Lib.hid (HS1d.out.older hb3); have HR3 := Lib.hid hr3; have HB3 := Lib.hid hb3; clear hr3 hb3 c0 c1 c2 c3 c4 f0 f1 f2 f3 f4; obtain ⟨⟨c0, c1, c2, c3, c4⟩, ⟨f0, f1, f2, f3, f4⟩, hz5⟩ := HS2.out.box.facts)
              go_roundg (gk - 1)
              case rel => exact ⟨k + 1, (g2.put (n + k) ⟨yk, yt, yv⟩), _, _, by go_num, by omega, Lib.hid (by have := HQ.out; omega), HE, HOK2, HS1d.out.store HR3.out HB3.out⟩
              case measure => have := HQ.out; omega
      · have HE := Lib.hid (show g2 = gf by rw [← HG2.out]; exact (HSP.out (by rintro ⟨h, _⟩; exact hc (hcn.symm.trans h))).symm)
        have hcb : (cn != 0) = true := by simpa using hc
        clear hc hcn
        go_wp2_with (go_at_call 39; refine (refCheck_any ⟨yk, yt, yv⟩ _ hpv).mono ?_; rintro e w1 ⟨rfl, hb1⟩; rw [HCN.out]; have HS1 := Lib.hid (HS.out.older hb1); have hbz1 := hb1.size; have r0 := (hb1.cell (p := ⟨b, _, none⟩) hbz).trans p0; have r1 := (hb1.cell (p := ⟨b, _, none⟩) hbz).trans p1; have r2 := (hb1.cell (p := ⟨b, _, none⟩) hbz).trans p2; clear hb1 c0 c1 c2 c3 c4 f0 f1 f2 f3 f4 e0 e1 e2 e3 e4 j0 j1 j2 j3 j4; obtain ⟨⟨c0, c1, c2, c3, c4⟩, ⟨f0, f1, f2, f3, f4⟩, hz3⟩ := HS1.out.box.facts; obtain ⟨⟨e0, e1, e2, e3, e4⟩, ⟨j0, j1, j2, j3, j4⟩, hz4⟩ := HS1.out.res.facts)
        obtain ⟨⟨z0, z1, z2, z3, z4⟩, _, _⟩ := (HS1.out.res.store (.int .i64 g2.applied) (.int .i64 g2.floor) (.int .i64 g2.win) (.slice ka g2.kept.length kc) (.slice aa g2.aside.length ac)).facts
        refine bodyPost_ret (v := rgV g2 (.slice ka g2.kept.length kc) (.slice aa g2.aside.length ac)) (by simp [results, Tryz.results21, go_sem, z0, z1, z2, z3, z4]) rfl ?_
        exact ⟨_, _, by rw [HE.out], by rw [← HE.out]; exact HS1.out.ref.store HS1.out.res _ _ _ _ _, below_store HS1.out.bel (by omega) _ _ _ _ _⟩
    · have HE := Lib.hid (show g2 = gf by rw [← HG2.out, List.drop_eq_nil_of_le (by omega)]; rfl)
      go_wp2_with fail
      obtain ⟨⟨z0, z1, z2, z3, z4⟩, _, _⟩ := (HS.out.res.store (.int .i64 g2.applied) (.int .i64 g2.floor) (.int .i64 g2.win) (.slice ka g2.kept.length kc) (.slice aa g2.aside.length ac)).facts
      refine bodyPost_ret (v := rgV g2 (.slice ka g2.kept.length kc) (.slice aa g2.aside.length ac)) (by simp [results, Tryz.results21, go_sem, z0, z1, z2, z3, z4]) rfl ?_
      exact ⟨_, _, by rw [HE.out], by rw [← HE.out]; exact HS.out.ref.store HS.out.res _ _ _ _ _, below_store HS.out.bel (by omega) _ _ _ _ _⟩
end A1
end Go.Proofs.YtnppicekfjdefaaGreatDoor
end

section
namespace Go.Proofs.YtnppicekfjdefaaGreatDoor
open Go.RowKit Pl Ad
attribute [local go_sem] ba_get ba_append ba_extract_end ba_extract_zero ba_extract
set_option maxRecDepth 100000
set_option maxHeartbeats 4000000
set_option linter.unusedVariables false
set_option linter.unusedSimpArgs false
namespace A1
attribute [local go_sem] rgV
/-- The blocks that told makes at its head. -/
structure ToS (w wr : World) (g : GateM) (ku au : Value) (j : Bool) (n : Int) (u : Value) : Prop where
  bel : Below w.heap.size w wr
  box : VBox wr w.heap.size (.int .i64 g.applied) (.int .i64 g.floor) (.int .i64 g.win) ku au
  act : Box3 wr (w.heap.size + 1) 37 (.bool j) (.int .i64 n) u
  res : VBox wr (w.heap.size + 1 + 1) (.int .i64 0) (.int .i64 0) (.int .i64 0) (.slice none 0 0) (.slice none 0 0)
theorem ToS.older {w wr w' : World} {g : GateM} {ku au u : Value} {j : Bool} {n : Int} (h : ToS w wr g ku au j n u) (hb : Below wr.heap.size wr w') : ToS w w' g ku au j n u := ⟨h.bel.trans (hb.mono h.bel.size), h.box.older hb, h.act.older hb, h.res.older hb⟩
theorem toS_new (w : World) (g : GateM) (ku au : Value) (j : Bool) (n : Int) (u : Value) :
    ToS w (((w.alloc (.cells #[.int .i64 g.applied, .int .i64 g.floor, .int .i64 g.win, ku, au] 34)).alloc (.cells #[.bool j, .int .i64 n, u] 37)).alloc (.cells #[.int .i64 0, .int .i64 0, .int .i64 0, .slice none 0 0, .slice none 0 0] 34)) g ku au j n u := by
  have h1 := (Below.refl (w.alloc (.cells #[.int .i64 g.applied, .int .i64 g.floor, .int .i64 g.win, ku, au] 34)).heap.size (w.alloc (.cells #[.int .i64 g.applied, .int .i64 g.floor, .int .i64 g.win, ku, au] 34))).alloc (Nat.le_refl _) (.cells #[.bool j, .int .i64 n, u] 37)
  refine ⟨(((Below.refl _ _).alloc (Nat.le_refl _) _).alloc (by simp) _).alloc (by simp; omega) _, ((vbox_new w _ _ _ _ _).older (h1.alloc (by simp) _)), ?_, ?_⟩
  · have h := (box3_new (w.alloc (.cells #[.int .i64 g.applied, .int .i64 g.floor, .int .i64 g.win, ku, au] 34)) 37 (.bool j) (.int .i64 n) u).alloc (.cells #[.int .i64 0, .int .i64 0, .int .i64 0, .slice none 0 0, .slice none 0 0] 34)
    simpa using h
  · have h := vbox_new ((w.alloc (.cells #[.int .i64 g.applied, .int .i64 g.floor, .int .i64 g.win, ku, au] 34)).alloc (.cells #[.bool j, .int .i64 n, u] 37)) (.int .i64 0) (.int .i64 0) (.int .i64 0) (.slice none 0 0) (.slice none 0 0)
    simpa using h
theorem told_jump (g : GateM) (ku au u : Value) (n : Int) (ll : Nat) (w : World) (hu : ∃ a c, u = .slice a ll c) (ho : g.Ok) (hs : RefS w g g.aside ku au) :
    Calls Tryz.prog 9 #[rgV g ku au, .agg #[.bool true, .int .i64 n, u]] w fun e w' => ∃ ku' au', e = .returned (rgV (g.jump n) ku' au') ∧ RefS w' (g.jump n) (g.jump n).aside ku' au' ∧ Below w.heap.size w w' := by
  obtain ⟨ua, uc, rfl⟩ := hu
  obtain ⟨gf, hgf⟩ : ∃ gf, g.jump n = gf := ⟨_, rfl⟩
  rw [hgf]
  have HGF := Lib.hid hgf
  have HOK := Lib.hid ho
  have HRS := Lib.hid hs
  obtain ⟨ka, kc, rfl, _⟩ := hs.kept.form
  obtain ⟨aa, ac, rfl, _⟩ := hs.aside.form
  have HS := Lib.hid (toS_new w g (.slice ka g.kept.length kc) (.slice aa g.aside.length ac) true n (.slice ua ll uc))
  clear hs hgf ho
  go_enter Tryz.func9, Tryz.ntmps9
  obtain ⟨⟨c0, c1, c2, c3, c4⟩, ⟨f0, f1, f2, f3, f4⟩, hz⟩ := HS.out.box.facts; obtain ⟨⟨d0, d1, d2⟩, _, hz3⟩ := HS.out.act.facts; obtain ⟨⟨e0, e1, e2, e3, e4⟩, ⟨j0, j1, j2, j3, j4⟩, hz2⟩ := HS.out.res.facts
  go_wp2_with (go_at_call 20; refine (refJump_any g (.slice ka g.kept.length kc) (.slice aa g.aside.length ac) n _ HOK.out (HRS.out.below HS.out.bel)).mono ?_; rw [HGF.out]; rintro e w7 ⟨ku7, au7, rfl, hr7, hb7⟩; obtain ⟨kb, kd, rfl, _⟩ := hr7.kept.form; obtain ⟨ab, ad, rfl, _⟩ := hr7.aside.form; have HR7 := Lib.hid hr7; have HS7 := Lib.hid (HS.out.older hb7); clear hr7 hb7 c0 c1 c2 c3 c4 f0 f1 f2 f3 f4 e0 e1 e2 e3 e4 j0 j1 j2 j3 j4 d0 d1 d2; obtain ⟨⟨c0, c1, c2, c3, c4⟩, ⟨f0, f1, f2, f3, f4⟩, hz⟩ := HS7.out.box.facts; obtain ⟨⟨d0, d1, d2⟩, _, hz3⟩ := HS7.out.act.facts; obtain ⟨⟨e0, e1, e2, e3, e4⟩, ⟨j0, j1, j2, j3, j4⟩, hz2⟩ := HS7.out.res.facts)
  obtain ⟨⟨z0, z1, z2, z3, z4⟩, _, _⟩ := (HS7.out.res.store (.int .i64 gf.applied) (.int .i64 gf.floor) (.int .i64 gf.win) (.slice kb gf.kept.length kd) (.slice ab gf.aside.length ad)).facts
  refine bodyPost_ret (v := rgV gf (.slice kb gf.kept.length kd) (.slice ab gf.aside.length ad)) (by simp [results, Tryz.results9, go_sem, z0, z1, z2, z3, z4]) rfl ?_
  exact ⟨_, _, rfl, HR7.out.store HS7.out.res _ _ _ _ _, below_store HS7.out.bel (by omega) _ _ _ _ _⟩
theorem told_apply (g : GateM) (ku au u : Value) (n : Int) (l : List Pg) (w : World) (hu : RowsV pcells 3 w u l) (hl : l.length ≤ 1000000) (hsz : ∀ p ∈ l, p.value.length ≤ 134217728) (ho : g.Ok) (hs : RefS w g g.aside ku au) :
    Calls Tryz.prog 9 #[rgV g ku au, .agg #[.bool false, .int .i64 n, u]] w fun e w' => ∃ ku' au', e = .returned (rgV (g.apply (clip50 n) l) ku' au') ∧ RefS w' (g.apply (clip50 n) l) (g.apply (clip50 n) l).aside ku' au' ∧ Below w.heap.size w w' := by
  obtain ⟨ua, uc, rfl, _⟩ := hu.form
  have hc1 : -1125899906842624 ≤ clip50 n ∧ clip50 n ≤ 1125899906842624 := by unfold clip50; omega
  have HU := Lib.hid hu
  have HSZ := Lib.hid hsz
  obtain ⟨gf, hgf⟩ : ∃ gf, g.apply (clip50 n) l = gf := ⟨_, rfl⟩
  rw [hgf]
  have HGF := Lib.hid hgf
  have HOK := Lib.hid ho
  have HRS := Lib.hid hs
  obtain ⟨ka, kc, rfl, _⟩ := hs.kept.form
  obtain ⟨aa, ac, rfl, _⟩ := hs.aside.form
  have HS := Lib.hid (toS_new w g (.slice ka g.kept.length kc) (.slice aa g.aside.length ac) false n (.slice ua l.length uc))
  clear hs hgf ho hu hsz
  go_enter Tryz.func9, Tryz.ntmps9
  obtain ⟨⟨c0, c1, c2, c3, c4⟩, ⟨f0, f1, f2, f3, f4⟩, hz⟩ := HS.out.box.facts; obtain ⟨⟨d0, d1, d2⟩, _, hz3⟩ := HS.out.act.facts; obtain ⟨⟨e0, e1, e2, e3, e4⟩, ⟨j0, j1, j2, j3, j4⟩, hz2⟩ := HS.out.res.facts
  go_wp2_with fail
  refine wp_region_held_drew (S := fun w' => w'.cell? ⟨w.heap.size, 0, none⟩ = some (.int .i64 g.applied) ∧ w'.cell? ⟨w.heap.size, 1, none⟩ = some (.int .i64 g.floor) ∧ w'.cell? ⟨w.heap.size, 2, none⟩ = some (.int .i64 g.win) ∧ w'.cell? ⟨w.heap.size, 3, none⟩ = some (.slice ka g.kept.length kc) ∧ w'.cell? ⟨w.heap.size, 4, none⟩ = some (.slice aa g.aside.length ac) ∧ w'.cell? ⟨w.heap.size + 1, 0, none⟩ = some (.bool false) ∧ w'.cell? ⟨w.heap.size + 1, 1, none⟩ = some (.int .i64 n) ∧ w'.cell? ⟨w.heap.size + 1, 2, none⟩ = some (.slice ua l.length uc)) (by kernel_rfl) (by exact ⟨c0, c1, c2, c3, c4, d0, d1, d2⟩) (fun hHeld => ?_)
  refine wpAnyH_take (i := 0) (v := ?_) (by simp only [List.getElem?_toArray, List.getElem?_cons_succ, List.getElem?_cons_zero]; rfl) (by kernel_rfl) (by kernel_rfl) (by kernel_rfl) (by intro _ _ _ h; exact h) (Or.inl ⟨by rfl, ?_⟩) (by assumption) ?_
  rotate_left
  focus (intro wT hT; (try dsimp only at hT); go_simp; try with_reducible rfl)
  try simp only [Act.put, List.setIfInBounds_toArray, List.set_cons_zero, List.set_cons_succ]
  refine wpAnyH_take (i := 1) (v := ?_) (by simp only [List.getElem?_toArray, List.getElem?_cons_succ, List.getElem?_cons_zero]; rfl) (by kernel_rfl) (by kernel_rfl) (by kernel_rfl) (by intro _ _ _ h; exact h) (Or.inl ⟨by rfl, ?_⟩) (by assumption) ?_
  rotate_left
  focus (intro wT hT; (try dsimp only at hT); go_simp; try with_reducible rfl)
  try simp only [Act.put, List.setIfInBounds_toArray, List.set_cons_zero, List.set_cons_succ]
  refine wpAnyH_take (i := 3) (v := ?_) (by simp only [List.getElem?_toArray, List.getElem?_cons_succ, List.getElem?_cons_zero]; rfl) (by kernel_rfl) (by kernel_rfl) (by kernel_rfl) (by intro _ _ _ h; exact h) (Or.inl ⟨by rfl, ?_⟩) (by assumption) ?_
  rotate_left
  focus (intro wT hT; (try dsimp only at hT); go_simp; try with_reducible rfl)
  try simp only [Act.put, List.setIfInBounds_toArray, List.set_cons_zero, List.set_cons_succ]
  refine wpAnyH_take (i := 4) (v := ?_) (by simp only [List.getElem?_toArray, List.getElem?_cons_succ, List.getElem?_cons_zero]; rfl) (by kernel_rfl) (by kernel_rfl) (by kernel_rfl) (by intro _ _ _ h; exact h) (Or.inl ⟨by rfl, ?_⟩) (by assumption) ?_
  rotate_left
  focus (intro wT hT; (try dsimp only at hT); go_simp; try with_reducible rfl)
  try simp only [Act.put, List.setIfInBounds_toArray, List.set_cons_zero, List.set_cons_succ]
  refine wpAnyH_ready (rs := [2]) (by kernel_rfl) (by simp) (AllReadyH.cons (by simp only [List.getElem?_toArray, List.getElem?_cons_succ, List.getElem?_cons_zero]; rfl) (fun K hK => ?_) AllReadyH.nil)
  go_simp
  go_at_call 22; refine (first38_any _ _ _ _ rfl).mono ?_; rintro e w6 ⟨rfl, hb6⟩; have HS6 := Lib.hid ((HS.out.older (Below.refl _ _).drew).older hb6); clear hb6 c0 c1 c2 c3 c4 f0 f1 f2 f3 f4 e0 e1 e2 e3 e4 j0 j1 j2 j3 j4 d0 d1 d2; obtain ⟨⟨c0, c1, c2, c3, c4⟩, ⟨f0, f1, f2, f3, f4⟩, hz⟩ := HS6.out.box.facts; obtain ⟨⟨d0, d1, d2⟩, _, hz3⟩ := HS6.out.act.facts; obtain ⟨⟨e0, e1, e2, e3, e4⟩, ⟨j0, j1, j2, j3, j4⟩, hz2⟩ := HS6.out.res.facts
  go_wp2_with fail
  refine hK.out _ _ (by exact ⟨c0, c1, c2, c3, c4, d0, d1, d2⟩) (fun hHe2 => ?_)
  clear hK K
  try simp only [Act.put, List.setIfInBounds_toArray, List.set_cons_zero, List.set_cons_succ]
  refine wpAnyH_ready (rs := [5]) (by kernel_rfl) (by simp) (AllReadyH.cons (by simp only [List.getElem?_toArray, List.getElem?_cons_succ, List.getElem?_cons_zero]; rfl) (fun K hK => ?_) AllReadyH.nil)
  go_simp
  go_at_call 21; refine (refApply_any g (.slice ka g.kept.length kc) (.slice aa g.aside.length ac) (.slice ua l.length uc) (clip50 n) l _ HOK.out (HRS.out.below HS6.out.bel) (HU.out.below HS6.out.bel) hl HSZ.out hc1.1 hc1.2).mono ?_; rw [HGF.out]; rintro e w7 ⟨ku7, au7, rfl, hr7, hb7⟩; obtain ⟨kb, kd, rfl, _⟩ := hr7.kept.form; obtain ⟨ab, ad, rfl, _⟩ := hr7.aside.form; have HR7 := Lib.hid hr7; have HS7 := Lib.hid (HS6.out.older hb7); clear hr7 hb7 c0 c1 c2 c3 c4 f0 f1 f2 f3 f4 e0 e1 e2 e3 e4 j0 j1 j2 j3 j4 d0 d1 d2; obtain ⟨⟨c0, c1, c2, c3, c4⟩, ⟨f0, f1, f2, f3, f4⟩, hz⟩ := HS7.out.box.facts; obtain ⟨⟨d0, d1, d2⟩, _, hz3⟩ := HS7.out.act.facts; obtain ⟨⟨e0, e1, e2, e3, e4⟩, ⟨j0, j1, j2, j3, j4⟩, hz2⟩ := HS7.out.res.facts
  go_wp2_with fail
  refine hK.out _ _ (by exact ⟨c0, c1, c2, c3, c4, d0, d1, d2⟩) (fun hHe3 => ?_)
  clear hK K
  try simp only [Act.put, List.setIfInBounds_toArray, List.set_cons_zero, List.set_cons_succ]
  refine wpAnyH_ready (rs := [6]) (by kernel_rfl) (by simp) (AllReadyH.cons (by simp only [List.getElem?_toArray, List.getElem?_cons_succ, List.getElem?_cons_zero]; rfl) (fun K hK => ?_) AllReadyH.nil)
  go_simp
  refine hK.out _ _ (by simp [go_sem, c0, c1, c2, c3, c4, d0, d1, d2]) (fun hHe4 => ?_)
  clear hK K
  try simp only [Act.put, List.setIfInBounds_toArray, List.set_cons_zero, List.set_cons_succ]
  refine wpAnyH_done (by kernel_rfl) ?_ _
  go_wp2_with fail
  obtain ⟨⟨z0, z1, z2, z3, z4⟩, _, _⟩ := (HS7.out.res.store (.int .i64 gf.applied) (.int .i64 gf.floor) (.int .i64 gf.win) (.slice kb gf.kept.length kd) (.slice ab gf.aside.length ad)).facts
  refine bodyPost_ret (v := rgV gf (.slice kb gf.kept.length kd) (.slice ab gf.aside.length ad)) (by simp [results, Tryz.results9, go_sem, z0, z1, z2, z3, z4]) rfl ?_
  exact ⟨_, _, rfl, HR7.out.store HS7.out.res _ _ _ _ _, below_store HS7.out.bel (by omega) _ _ _ _ _⟩
theorem told38_any (g : GateM) (ku au u : Value) (j : Bool) (n : Int) (l : List Pg) (w : World) (hu : RowsV pcells 3 w u l) (hl : l.length ≤ 1000000) (hsz : ∀ p ∈ l, p.value.length ≤ 134217728) (ho : g.Ok) (hs : RefS w g g.aside ku au) :
    Calls Tryz.prog 9 #[rgV g ku au, .agg #[.bool j, .int .i64 n, u]] w fun e w' => ∃ ku' au', e = .returned (rgV (g.doA ⟨j, n, u, l⟩) ku' au') ∧ RefS w' (g.doA ⟨j, n, u, l⟩) (g.doA ⟨j, n, u, l⟩).aside ku' au' ∧ Below w.heap.size w w' := by
  cases j with
  | true =>
    obtain ⟨a, c, e, _⟩ := hu.form
    exact told_jump g ku au u n l.length w ⟨a, c, e⟩ ho hs
  | false => exact told_apply g ku au u n l w hu hl hsz ho hs
end A1
end Go.Proofs.YtnppicekfjdefaaGreatDoor
end

section
namespace Go.Proofs.YtnppicekfjdefaaGreatDoor
open Go.RowKit Pl Ad Go.Maps
set_option maxRecDepth 100000
set_option linter.unusedVariables false
namespace A1
/-- The program's gate (g) and the reference's (r, in the variable at RB) side by side; the law began at w0. -/
structure PairS (w0 w : World) (R M : Nat) (v : Value) (g : GateM) (RB : Nat) (r : GateM) (ku au : Value) : Prop where
  run : GRun w0 w R M v g
  box : VBox w RB (.int .i64 r.applied) (.int .i64 r.floor) (.int .i64 r.win) ku au
  ref : RefS w r r.aside ku au
  old : w0.heap.size ≤ RB
  off : ¬ (RB = R ∨ RB = M ∨ v.ownBlock = some RB)
section
variable {w0 w w' : World} {R M RB : Nat} {v v' ku au ku' au' : Value} {g g' r r' : GateM}
theorem PairS.older (h : PairS w0 w R M v g RB r ku au) (hb : Below w.heap.size w w') : PairS w0 w' R M v g RB r ku au := ⟨h.run.older hb, h.box.older hb, h.ref.below hb, h.old, h.off⟩
theorem typed_off {B e : Nat} {u : Value} {l : List (Int × Pg)} (h : GateAt w B R M v g l) (hu : TypedV w e u) (h1 : e ≠ 63) (h2 : e ≠ 56) : ∀ q, u.ownBlock = some q → ¬ (q = R ∨ q = M ∨ v.ownBlock = some q) := fun q hq hs => by
  obtain ⟨cs, fr, hg⟩ := hu q hq
  rcases hs with rfl | rfl | hs
  · have := Option.some.inj (hg.symm.trans h.box)
    injection this with _ e2
    exact h1 e2
  · exact map_neC h.map hg rfl
  · rcases h.own.2 with ⟨rfl, _⟩ | ⟨b, o, cap, cur, rfl, _, hg2, _⟩
    · cases hs
    · simp [Value.ownBlock] at hs
      subst hs
      have := Option.some.inj (hg.symm.trans hg2)
      injection this with _ e2
      exact h2 e2
/-- The program's gate moves on. -/
theorem PairS.goes (h : PairS w0 w R M v g RB r ku au) (hr : GRun w0 w' R M v' g') (hs : GGoes w w' R M v v') : PairS w0 w' R M v' g' RB r ku au := by
  have hk := typed_off h.run.gate h.ref.tk (by decide) (by decide)
  have ha := typed_off h.run.gate h.ref.ta (by decide) (by decide)
  refine ⟨hr, (hs.touch.block RB h.box.facts.2.2 h.off).trans h.box, ⟨h.ref.kept.touch hs.touch hk, h.ref.aside.touch hs.touch ha, fun q hq => ?_, fun q hq => ?_⟩, h.old, fun e => ?_⟩
  · obtain ⟨cs, fr, hg⟩ := h.ref.tk q hq
    exact ⟨cs, fr, (hs.touch.block q (Array.getElem?_eq_some_iff.1 hg).1 (hk q hq)).trans hg⟩
  · obtain ⟨cs, fr, hg⟩ := h.ref.ta q hq
    exact ⟨cs, fr, (hs.touch.block q (Array.getElem?_eq_some_iff.1 hg).1 (ha q hq)).trans hg⟩
  · rcases e with e | e | e
    · exact h.off (.inl e)
    · exact h.off (.inr (.inl e))
    · rcases hs.lies RB e with e2 | e2
      · exact h.off (.inr (.inr e2))
      · have := h.box.facts.2.2; omega
/-- The reference's gate is stored. -/
theorem PairS.store (h : PairS w0 w R M v g RB r ku au) (hr : RefS w' r' r'.aside ku' au') (hb : Below w.heap.size w w') :
    PairS w0 (((((w'.setCell ⟨RB, 0, none⟩ (.int .i64 r'.applied)).setCell ⟨RB, 1, none⟩ (.int .i64 r'.floor)).setCell ⟨RB, 2, none⟩ (.int .i64 r'.win)).setCell ⟨RB, 3, none⟩ ku').setCell ⟨RB, 4, none⟩ au') R M v g RB r' ku' au' := by
  have h1 := h.older hb
  have ho : GOff w0 R M v RB := ⟨fun e => h.off (.inl e), fun e => h.off (.inr (.inl e)), fun e => h.off (.inr (.inr e)), h.old⟩
  exact ⟨((((h1.run.set1 ho 0 _).set1 ho 1 _).set1 ho 2 _).set1 ho 3 _).set1 ho 4 _, h1.box.store _ _ _ _ _, hr.store h1.box _ _ _ _ _, h.old, h.off⟩
theorem pair_new (h : GRun w0 w R M v g) (hr : RefS w r r.aside ku au) : PairS w0 (w.alloc (.cells #[.int .i64 r.applied, .int .i64 r.floor, .int .i64 r.win, ku, au] 34)) R M v g w.heap.size r ku au := by
  have hal := (Below.refl w.heap.size w).alloc (Nat.le_refl _) (.cells #[.int .i64 r.applied, .int .i64 r.floor, .int .i64 r.win, ku, au] 34)
  have h1 := h.gate.box.facts.2.2
  have h2 := map_lt h.gate.map
  refine ⟨h.older hal, vbox_new w _ _ _ _ _, hr.below hal, h.bel.size, ?_⟩
  rintro (e | e | e)
  · omega
  · omega
  · have := (h.gate.own.lt _ e).2; omega
end
end A1
end Go.Proofs.YtnppicekfjdefaaGreatDoor
end
