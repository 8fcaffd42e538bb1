/- Contracts: the gate laws' log and pass; arguments that are parts of a log. Conditions: at most a million purges of at most 2^27 bytes. -/
import Derived.Test.YtnppicekfjdefaaDoorGLawC
import Derived.Test.YtnppicekfjdefaaDoorGateS
namespace Go.Proofs.YtnppicekfjdefaaDoor
open Go.RowKit Pl Ad Go.Maps
attribute [local go_sem] ba_get ba_append ba_extract_end ba_extract_zero ba_extract
set_option maxRecDepth 100000
set_option maxHeartbeats 4000000
set_option linter.unusedVariables false
set_option linter.unusedSimpArgs false
namespace Ad
/-- A part of a log: many entries behind the first src. -/
structure Part where
  src : Nat
  many : Nat
def partC (p : Part) : List Value := [.int .u8 p.src, .int .u8 p.many]
/-- The purges that Check accepts. -/
def logL (l : List Pg) : List Pg := l.filter fun p => decide (checkN p = 0)
theorem logL_good {l : List Pg} : ∀ p ∈ logL l, checkN p = 0 := fun p hp => by simpa using (List.mem_filter.1 hp).2
theorem logL_sub {l : List Pg} {P : Pg → Prop} (h : ∀ p ∈ l, P p) : ∀ p ∈ logL l, P p := fun p hp => h p (List.mem_filter.1 hp).1
theorem logL_len (l : List Pg) : (logL l).length ≤ l.length := List.length_filter_le _ _
theorem logL_yes {l : List Pg} {k : Nat} (hk : k < l.length) (h : checkN l[k] = 0) : logL (l.take (k + 1)) = logL (l.take k) ++ [l[k]] := by
  unfold logL
  rw [List.take_succ_eq_append_getElem hk, List.filter_append]
  simp [h]
theorem logL_no {l : List Pg} {k : Nat} (hk : k < l.length) (h : ¬ checkN l[k] = 0) : logL (l.take (k + 1)) = logL (l.take k) := by
  unfold logL
  rw [List.take_succ_eq_append_getElem hk, List.filter_append]
  simp [h]
/-- Where a part begins, and where it ends. -/
def Part.lo (p : Part) (n : Nat) : Nat := p.src % n
def Part.hi (p : Part) (n : Nat) : Nat := min n (p.src % n + 1 + p.many % 8)
/-- The gate behind a part. -/
def GateM.pass (g : GateM) (all : List Pg) (p : Part) : GateM := g.apply ((p.lo all.length : Nat) + 1 : Int) ((all.drop (p.lo all.length)).take (p.hi all.length - p.lo all.length))
theorem part_len {all : List Pg} {p : Part} (h : 0 < all.length) : ((all.drop (p.lo all.length)).take (p.hi all.length - p.lo all.length)).length = p.hi all.length - p.lo all.length := by
  have h1 := Nat.mod_lt p.src h
  rw [List.length_take, List.length_drop]
  unfold Part.lo Part.hi
  omega
theorem part_at {all : List Pg} {p : Part} (h : 0 < all.length) (i : Nat) (hi : i < ((all.drop (p.lo all.length)).take (p.hi all.length - p.lo all.length)).length) : all[(((p.lo all.length : Nat) + 1 : Int) - 1).toNat + i]? = some (((all.drop (p.lo all.length)).take (p.hi all.length - p.lo all.length))[i]'hi) := by
  rw [← List.getElem?_eq_getElem hi]
  rw [part_len h] at hi
  rw [List.getElem?_take, if_pos hi, List.getElem?_drop]
  congr 1
  omega
theorem part_sub {all : List Pg} {p : Part} {P : Pg → Prop} (h : ∀ q ∈ all, P q) : ∀ q ∈ (all.drop (p.lo all.length)).take (p.hi all.length - p.lo all.length), P q := fun q hq => h q (List.mem_of_mem_drop (List.mem_of_mem_take hq))
theorem pass_of {all : List Pg} {g : GateM} (h : GateM.OfL all g g.aside) (ho : g.Ok) (hs : ∀ p ∈ all, p.value.length ≤ 134217728) (hz : 0 < all.length) (p : Part) : GateM.OfL all (g.pass all p) (g.pass all p).aside ∧ (g.pass all p).Ok :=
  ⟨GateM.apply_of _ g _ h ho (part_sub hs) (by omega) (part_at hz), GateM.ok_apply ho (part_sub hs)⟩
theorem pass_room {all : List Pg} {g : GateM} (h : GateM.Room all g) (hs : ∀ p ∈ all, p.value.length ≤ 134217728 ∧ checkN p = 0) (hz : 0 < all.length) (hl : all.length ≤ 1000000) (p : Part) :
    GateM.Room all (g.pass all p) ∧ ∀ i, GateM.In (g.pass all p) (g.pass all p).aside i ↔ GateM.In g g.aside i ∨ ((p.lo all.length : Int) + 1 ≤ i ∧ i < (p.hi all.length : Int) + 1) := by
  have h1 := Nat.mod_lt p.src hz
  have hlo : p.lo all.length ≤ p.hi all.length ∧ p.hi all.length ≤ all.length := by unfold Part.lo Part.hi; omega
  have := GateM.apply_room _ g ((p.lo all.length : Nat) + 1 : Int) h (part_sub hs) (by omega) (part_at hz) (by rw [part_len hz]; omega)
  refine ⟨this.1, fun i => ?_⟩
  have h2 := this.2 i
  rw [part_len hz] at h2
  show GateM.In (GateM.apply _ _ _) (GateM.apply _ _ _).aside i ↔ _
  rw [h2]
  constructor
  · rintro (h3 | h3)
    · exact .inl h3
    · exact .inr (by omega)
  · rintro (h3 | h3)
    · exact .inl h3
    · exact .inr (by omega)
end Ad
namespace Op
open Go.ChangeShapes Go.WideShapes Go.Deep A1
theorem part_trod {H : Type} {enc : TypeId × Value → H} {w : World} {base n : Nat} {spare : Nat → Bool} {held : Bool} {cs : List Value} {y : DataW H × List MemPlace} (hl : cs.length = 2)
    (h : DataW.trod enc Tryd.prog w base spare held n 43 cs = some y) : ∃ x : Part, cs = partC x ∧ (x.src < 256 ∧ x.many < 256) := by
  obtain ⟨y0, y1, m, _, _, h0, h1⟩ := trod_struct2 Tryd.underlying43 h
  match cs, hl with
  | [a, b], _ =>
    obtain ⟨s, e0, _, wf0⟩ := DataW.trod_int Tryd.underlying5 h0
    obtain ⟨k, e1, _, wf1⟩ := DataW.trod_int Tryd.underlying5 h1
    have e0' : [a] = [Value.int .u8 s] := e0
    have e1' : [b] = [Value.int .u8 k] := e1
    cases e0'; cases e1'
    have k0 := u8_range wf0
    have k1 := u8_range wf1
    obtain ⟨s', rfl⟩ : ∃ s' : Nat, s = (s' : Int) := ⟨s.toNat, by omega⟩
    obtain ⟨k', rfl⟩ : ∃ k' : Nat, k = (k' : Int) := ⟨k.toNat, by omega⟩
    exact ⟨⟨s', k'⟩, rfl, by simp only; omega, by simp only; omega⟩
theorem parts_trod {H : Type} {enc : TypeId × Value → H} {w : World} {base n : Nat} {spare : Nat → Bool} {held : Bool} {v : Value} {y : DataW H × List MemPlace}
    (h : DataW.trod enc Tryd.prog w base spare held n 23 [v] = some y) : ∃ xs : List Part, RowsV partC 2 w v xs ∧ xs.length ≤ 9223372036854775807 ∧ ∀ a ∈ xs, a.src < 256 ∧ a.many < 256 :=
  open_rows (R := partC) (k := 2) (fun a => a.src < 256 ∧ a.many < 256) Tryd.underlying23 (by kernel_rfl) (by decide) (fun n cs y hl h => part_trod hl h) h
end Op
namespace A1
theorem log38_any (v : Value) (l : List Pg) (w : World) (hv : RowsV pcells 3 w v l) (hr : Ready w) (hs : ∀ p ∈ l, p.value.length ≤ 134217728) (hl : l.length ≤ 1000000) :
    Calls Tryd.prog 9 #[v] w fun e w' => ∃ u, e = .returned u ∧ OwnWin w' w.heap.size 50 3 u (logL l).length (pvals (logL l)) ∧ Below w.heap.size w w' := by
  have HV := Lib.hid hv
  have HS := Lib.hid hs
  have HR : Hid (∀ w', Below w.heap.size w w' → Ready w') := Lib.hid fun w' hb => hr.below hb
  obtain ⟨va, vc, rfl, hvc⟩ := hv.form
  clear hv hs hr
  go_enter Tryd.func9, Tryd.ntmps9
  go_wp2_with fail
  refine (of38_any _ l _ HV.out hl).mono ?_
  rintro e w1 ⟨u1, rfl, hown, hb1⟩
  obtain ⟨a1, q1, rfl, _⟩ := hown.form
  have HB1 := Lib.hid hb1
  have HO1 := Lib.hid (rows_own hown)
  have hbz := hb1.size
  clear hown hb1
  go_wp2_with fail
  go_loopw [3, 5] (fun u i wr => ∃ k : Nat, k ≤ l.length ∧ i = .int .i64 k ∧ OwnWin wr w1.heap.size 50 3 u (logL (l.take k)).length (pvals (logL (l.take k))) ∧ Below w1.heap.size w1 wr) (fun _ i _ => l.length - (intOf i).toNat)
  case atStart => exact ⟨0, Nat.zero_le _, rfl, OwnWin.nil _ _ _ _, Below.refl _ _⟩
  case round =>
    obtain ⟨k, hk, rfl, ho, hb⟩ := hrel
    have HO := Lib.hid ho
    have HB := Lib.hid hb
    have hbz2 := hb.size
    have hll : (logL (l.take k)).length ≤ 1000000 := by
      have := logL_len (l.take k)
      rw [List.length_take] at this
      omega
    obtain ⟨ua, uc, rfl, huc⟩ := ho.form
    clear ho
    by_cases hlt : k < l.length
    · obtain ⟨b, o, c, e, hc, hbz3, hcell⟩ := (HO1.out.below hb).at hlt
      cases e
      have p0 := hcell 0 _ rfl
      have p1 := hcell 1 _ rfl
      have p2 := hcell 2 _ rfl
      rw [Nat.add_zero] at p0
      rw [← Nat.add_assoc] at p1 p2
      have HY := Lib.hid (fun h => logL_yes (l := l) hlt h)
      have HN := Lib.hid (fun h => logL_no (l := l) hlt h)
      have hyv := HS.out l[k] (List.getElem_mem hlt)
      clear hcell hb
      generalize l[k] = y at p0 p1 p2 HY HN hyv
      obtain ⟨yk, yt, yv⟩ := y
      simp only at hyv p0 p1 p2
      by_cases hc : checkN ⟨yk, yt, yv⟩ = 0
      · have HC := Lib.hid (chkV_ok hc)
        have HY2 := Lib.hid (HY.out hc)
        clear hc
        go_wp2_with (first | (go_at_call 27; refine (check_any ⟨yk, yt, yv⟩ _ (HR.out _ (HB1.out.trans (HB.out.mono hbz))) hyv).mono ?_; rw [HC.out]; rintro e w4 ⟨rfl, hb4⟩; have hwc := hb4.size; have r0 := (hb4.cell (p := ⟨b, _, none⟩) hbz3).trans p0; have r1 := (hb4.cell (p := ⟨b, _, none⟩) hbz3).trans p1; have r2 := (hb4.cell (p := ⟨b, _, none⟩) hbz3).trans p2) | (at_builtin; have h1 : OwnWin w4 w1.heap.size 50 3 (.slice ua (logL (l.take k)).length uc) (logL (l.take k)).length (pvals (logL (l.take k))) := HO.out.older hb4; have h2 := SrcAt.one (heap_alloc_new w4 (.cells #[.int .i64 yk, .int .i64 yt, .string ⟨yv.toArray⟩] 50)) (c := 1); refine wpList_appw tyPgs (by rfl) _ _ (by rfl) w1.heap.size _ (logL (l.take k)).length _ (by rfl) (h1.alloc _) (by simp; omega) _ 1 _ (by rfl) h2 (by rfl) (by simp [Value.oneCell']) (by omega) ?_; intro v' w5 hown5 hgrow5 hlies5; obtain ⟨a5, q5, rfl, hq5⟩ := hown5.form))
        go_roundw
        case rel => exact ⟨k + 1, by omega, by go_num, by rw [HY2.out, List.length_append, pvals_append, pvals_one]; exact hown5, below_grown ((HB.out.trans (hb4.mono HB.out.size)).alloc (by omega) _) hgrow5 (by simp <;> omega) (fun q hq => (HO.out.lt q hq).1)⟩
        case measure => simp [intOf]; omega
      · obtain ⟨n, hn⟩ : ∃ n, checkN ⟨yk, yt, yv⟩ = n := ⟨_, rfl⟩
        have HC := Lib.hid (chkV_err hn (by rw [← hn]; exact hc))
        have HN2 := Lib.hid (HN.out hc)
        clear hc hn
        go_wp2_with (go_at_call 27; refine (check_any ⟨yk, yt, yv⟩ _ (HR.out _ (HB1.out.trans (HB.out.mono hbz))) hyv).mono ?_; rw [HC.out]; rintro e w4 ⟨rfl, hb4⟩; have hwc := hb4.size)
        go_roundw
        case rel => exact ⟨k + 1, by omega, by go_num, by rw [HN2.out]; exact HO.out.older hb4, HB.out.trans (hb4.mono HB.out.size)⟩
        case measure => simp [intOf]; omega
    · have hke : k = l.length := by omega
      subst hke
      go_wp2
      go_ret
      exact ⟨.slice ua (logL (l.take l.length)).length uc, rfl, (by have h := HO.out.mono (fun q hq => Nat.le_trans hbz (HO.out.lt q hq).1); simpa only [List.take_length] using h), HB1.out.trans (HB.out.mono hbz)⟩
/-- A part of a slice of rows. -/
theorem RowsV.part {α : Type} {F : α → List Value} {k : Nat} {w : World} {b o n c : Nat} {xs : List α} (h : RowsV F k w (.slice (some ⟨b, o, none⟩) n c) xs) (hn : n = xs.length) {i j : Nat} (hij : i < j) (hj : j ≤ xs.length) :
    RowsV F k w (.slice (some ⟨b, o + i * k, none⟩) (j - i) (c - i)) ((xs.drop i).take (j - i)) := by
  rcases h with ⟨rfl, _⟩ | ⟨b', o', c', e, h2, h3, h4⟩
  · simp at hj; omega
  · cases e
    have hlen : ((xs.drop i).take (j - i)).length = j - i := by rw [List.length_take, List.length_drop]; omega
    refine .inr ⟨b, o + i * k, c - i, by rw [hlen], by rw [hlen]; omega, h3, fun m x hx q u hu => ?_⟩
    have hm : m < j - i := by rw [← hlen]; exact (List.getElem?_eq_some_iff.1 hx).1
    rw [List.getElem?_take, if_pos hm, List.getElem?_drop] at hx
    have := h4 (i + m) x hx q u hu
    rw [show o + i * k + (m * k + q) = o + ((i + m) * k + q) by rw [Nat.add_mul]; omega]
    exact this
theorem apart_old {w0 w : World} {R M : Nat} {v u : Value} {g : GateM} (h : GRun w0 w R M v g) (hu : ∀ q, u.ownBlock = some q → q < w0.heap.size) : Apart R M v u := fun q hq e => by
  have h1 := hu q hq
  have h2 := h.gate.hR
  have h3 := h.gate.hM
  rcases e with e | e | e
  · omega
  · omega
  · have := (h.gate.own.lt q e).1; omega
theorem pass38_any (w0 w : World) (R M : Nat) (v u : Value) (g : GateM) (all : List Pg) (p : Part) (h : GRun w0 w R M v g) (hr : Ready w0) (hu : RowsV pcells 3 w u all) (hap : Apart R M v u) (hs : ∀ p ∈ all, p.value.length ≤ 134217728) (hz : 0 < all.length) (hl : all.length ≤ 1000000) (hp : p.src < 256 ∧ p.many < 256) :
    Calls Tryd.prog 14 #[ptrV R, u, .agg #[.int .u8 p.src, .int .u8 p.many]] w fun e w' => ∃ v', e = .returned (.tuple #[]) ∧ GRun w0 w' R M v' (g.pass all p) ∧ GGoes w w' R M v v' := by
  obtain ⟨b, o, c, rfl, hc, hbz, _⟩ := hu.at hz
  obtain ⟨ps, pm⟩ := p
  simp only at hp
  obtain ⟨hp1, hp2⟩ := hp
  have hml := Nat.mod_lt ps hz
  obtain ⟨lo, hlo⟩ : ∃ lo, ps % all.length = lo := ⟨_, rfl⟩
  obtain ⟨hi, hhi⟩ : ∃ hi, min all.length (lo + 1 + pm % 8) = hi := ⟨_, rfl⟩
  have e1 : (Part.mk ps pm).lo all.length = lo := hlo
  have e2 : (Part.mk ps pm).hi all.length = hi := by unfold Part.hi; simp only; rw [hlo]; exact hhi
  rw [hlo] at hml
  have hlh : lo < hi ∧ hi ≤ all.length := by omega
  have HPS := Lib.hid (show g.pass all ⟨ps, pm⟩ = g.apply ((lo : Int) + 1) ((all.drop lo).take (hi - lo)) by unfold GateM.pass; rw [e1, e2])
  have hd := (Below.refl w.heap.size w).alloc (Nat.le_refl _) (.cells #[.int .u8 ps, .int .u8 pm] 43)
  have HU := Lib.hid ((hu.part rfl hlh.1 hlh.2).below hd)
  have HG := Lib.hid (h.older hd)
  have HGG := Lib.hid (GGoes.of_below (R := R) (M := M) (v := v) hd)
  have HAP := Lib.hid hap
  have HS := Lib.hid (fun q (hq : q ∈ (all.drop lo).take (hi - lo)) => hs q (List.mem_of_mem_drop (List.mem_of_mem_take hq)))
  have HLn := Lib.hid (show ((all.drop lo).take (hi - lo)).length ≤ 1000000 by rw [List.length_take]; omega)
  have HR := Lib.hid hr
  have HM : Hid ((ps : Int) % (all.length : Int) = (lo : Int)) := Lib.hid (by rw [← hlo]; rfl)
  have HI : Hid (min (all.length : Int) ((lo : Int) + 1 + (pm : Int) % 8) = (hi : Int)) := Lib.hid (by omega)
  obtain ⟨hlh1, hlh2⟩ := hlh
  clear hu h hap hs hr hd hlo hhi e1 e2
  rw [HPS.out]
  go_enter Tryd.func14, Tryd.ntmps14
  go_upto_region 2 with fail
  rw [HM.out]
  go_upto_region 3 with fail
  rw [HI.out]
  go_wp2_with fail
  refine (apply_any w0 _ R M v (.slice (some ⟨b, o + lo * 3, none⟩) (hi - lo) (c - lo)) g ((lo : Int) + 1) ((all.drop lo).take (hi - lo)) HG.out HR.out HU.out (fun q hq => HAP.out q hq) HS.out HLn.out (by omega) (by omega)).mono ?_
  rintro e w2 ⟨v2, rfl, hr2, hg2⟩
  have HR2 := Lib.hid hr2
  have HG2 := Lib.hid (HGG.out.trans hg2)
  clear hr2 hg2
  go_wp2_with fail
  refine bodyPost_end (v := .tuple #[]) (by simp [results, Tryd.results14, go_sem]) rfl ?_
  exact ⟨v2, rfl, HR2.out, HG2.out⟩
end A1
end Go.Proofs.YtnppicekfjdefaaDoor
