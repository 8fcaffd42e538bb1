/- PROVED: KeyringTenants returns true for every input and leaves its arguments as they were. No condition beyond the statement's own (the listed variables read as the program's text lays them, which the card ties). -/
import Derived.Test.YtbpbopjlcidefaaDoorFrameK
import Derived.Deep.RegionHeld3
import Derived.Deep.LoopGhost
import Derived.Deep.DeepCutAuto
import Derived.OrdersHeld
import Derived.Test.YtbpbopjlcidefaaDoorOpenK
namespace Go.Proofs.YtbpbopjlcidefaaDoor.lawKeyringTenants
open Go.ChangeShapes Go.WideShapes Go.ChangeAt Go.RowKit Pl Ad Kr
open Go.ChangeMaps (open_string shut_string)
attribute [local go_sem] ba_get ba_append ba_extract A1.conv_bytes
set_option maxRecDepth 100000
set_option maxHeartbeats 4000000
set_option linter.unusedVariables false
set_option linter.unusedSimpArgs false

theorem actK_arg {H : Type} {enc : TypeId × Value → H} {w : World} {base : Nat} {spare : Nat → Bool} {held : Bool} {v : Value} {d : DataW H} {p : List MemPlace} {r : Reach} {b0 : Nat}
    (hv : Value.okWide Tryd.prog w r b0 46 v) (h : DataW.Trod enc Tryd.prog w base spare held 46 v d p) : ∃ x : KAct, v = .agg (actK x).toArray ∧ x.ok := by
  obtain ⟨cs, rfl, hsz⟩ := okWide_struct Tryd.underlying46 hv
  obtain ⟨fuel, hf⟩ := h
  obtain ⟨l⟩ := cs
  have hl : l.length = 8 := hsz.trans (by kernel_rfl)
  obtain ⟨x, hx, hk⟩ := Op.actK_trod hl (by simpa [Value.cells] using hf)
  exact ⟨x, by rw [hx], hk⟩
def stepK (kd : Nat) (t : Int) (l : List KeyM) (id : Bs) (x y z : Int) (sec : Bs) : List KeyM :=
  if kd = 2 then revL l id x else if kd = 3 ∨ kd = 4 then rotL t l x y z sec else addL t l ⟨id, sec, x, y, 0⟩
def LOk (k : Nat) (l : List KeyM) : Prop := l.length ≤ k ∧ ∀ e ∈ l, e.sec.length ≤ 1000000
theorem LOk.mono {k j : Nat} {l : List KeyM} (h : LOk k l) (hj : k ≤ j) : LOk j l := ⟨Nat.le_trans h.1 hj, h.2⟩
theorem LOk.snoc {k : Nat} {l : List KeyM} {x : KeyM} (h : LOk k l) (hx : x.sec.length ≤ 1000000) : LOk (k + 1) (l ++ [x]) := by
  refine ⟨by rw [List.length_append, List.length_singleton]; have := h.1; omega, fun e he => ?_⟩
  rcases List.mem_append.1 he with he | he
  · exact h.2 e he
  · rw [List.mem_singleton.1 he]; exact hx
theorem LOk.modify {k i : Nat} {l : List KeyM} {f : KeyM → KeyM} (h : LOk k l) (hf : ∀ x, (f x).sec = x.sec) : LOk k (l.modify i f) := by
  refine ⟨by rw [List.length_modify]; exact h.1, fun e he => ?_⟩
  obtain ⟨j, hj, rfl⟩ := List.getElem_of_mem he
  rw [List.length_modify] at hj
  rw [List.getElem_modify]
  split
  · rw [hf]; exact h.2 _ (List.getElem_mem _)
  · exact h.2 _ (List.getElem_mem _)
theorem LOk.step {k : Nat} {l : List KeyM} (h : LOk k l) (kd : Nat) (t : Int) (id : Bs) (x y z : Int) {sec : Bs} (hs : sec.length ≤ 1000000) : LOk (k + 1) (stepK kd t l id x y z sec) := by
  unfold stepK
  split
  · exact (LOk.modify (f := revK x) h (fun _ => rfl)).mono (Nat.le_succ _)
  · split
    · unfold rotL
      split
      · have h2 : LOk (k + 1) (l ++ [newK (rotK l x y sec)]) := h.snoc hs
        unfold endL
        split
        · exact h2
        · exact LOk.modify (f := endK _) h2 (fun _ => rfl)
      · exact h.mono (Nat.le_succ _)
    · unfold addL
      split
      · exact h.snoc hs
      · exact h.mono (Nat.le_succ _)
def stepAt (kd : Nat) (t tl : Int) (l : List KeyM) (id : Bs) (x y z : Int) (sec : Bs) : List KeyM := if tl = t then stepK kd t l id x y z sec else l
def BndE (k : Nat) (E : Nat → List Ent) : Prop := ∀ s, LOk k (keysOf E s)

theorem bnd_step {k : Nat} {E E' : Nat → List Ent} {t : Int} {kd : Nat} {id sec : Bs} {x y z : Int} (h : BndE k E) (hst : KStep E E' t (stepK kd t (keysOf E t) id x y z sec)) (hs : sec.length ≤ 1000000) : BndE (k + 1) E' := fun u => by
  rw [hst u]
  split
  · exact (h t).step kd t id x y z hs
  · exact (h u).mono (Nat.le_succ _)
theorem keys_step {E E' : Nat → List Ent} {t tl : Int} {kd : Nat} {id sec : Bs} {x y z : Int} {L0 : List KeyM} (hk : keysOf E tl = L0) (hst : KStep E E' t (stepK kd t (keysOf E t) id x y z sec)) : keysOf E' tl = stepAt kd t tl L0 id x y z sec := by
  unfold stepAt
  rw [hst tl]
  by_cases e : tl = t
  · subst e
    rw [if_pos rfl, if_pos rfl, hk]
  · rw [if_neg e, if_neg e, hk]
theorem stepK_rev {E E' : Nat → List Ent} {t : Int} {kd : Nat} {id sec : Bs} {x y z : Int} (h : kd = 2) (hst : KStep E E' t (revL (keysOf E t) id x)) : KStep E E' t (stepK kd t (keysOf E t) id x y z sec) := by
  unfold stepK; rw [if_pos h]; exact hst
theorem stepK_rot {E E' : Nat → List Ent} {t : Int} {kd : Nat} {id sec : Bs} {x y z : Int} (h : kd = 3 ∨ kd = 4) (hst : KStep E E' t (rotL t (keysOf E t) x y z sec)) : KStep E E' t (stepK kd t (keysOf E t) id x y z sec) := by
  unfold stepK; rw [if_neg (by omega), if_pos h]; exact hst
theorem stepK_add {E E' : Nat → List Ent} {t : Int} {kd : Nat} {id sec : Bs} {x y z : Int} (h : ¬ kd = 2) (h' : ¬ (kd = 3 ∨ kd = 4)) (hst : KStep E E' t (addL t (keysOf E t) ⟨id, sec, x, y, 0⟩)) : KStep E E' t (stepK kd t (keysOf E t) id x y z sec) := by
  unfold stepK; rw [if_neg h, if_neg h']; exact hst
/-- Two rings side by side. -/
structure Two (w0 wr : World) (Ra : Nat) (Va : Nat → Value) (Ea : Nat → List Ent) (Ro : Nat) (Vo : Nat → Value) (Eo : Nat → List Ent) : Prop where
  bel : Below w0.heap.size w0 wr
  ra : RingAt wr w0.heap.size Ra Va Ea
  ro : RingAt wr w0.heap.size Ro Vo Eo
  dis : ∀ q, RBlk Ra Va Ea q → ¬ RBlk Ro Vo Eo q
section
variable {w0 wr w' : World} {Ra Ro : Nat} {Va Vo : Nat → Value} {Ea Eo : Nat → List Ent}
theorem Two.symm (h : Two w0 wr Ra Va Ea Ro Vo Eo) : Two w0 wr Ro Vo Eo Ra Va Ea := ⟨h.bel, h.ro, h.ra, fun q h1 h2 => h.dis q h2 h1⟩
theorem Two.older (h : Two w0 wr Ra Va Ea Ro Vo Eo) (hb : Below wr.heap.size wr w') : Two w0 w' Ra Va Ea Ro Vo Eo := ⟨h.bel.trans (hb.mono h.bel.size), h.ra.older hb, h.ro.older hb, h.dis⟩
theorem Two.step {V' : Nat → Value} {E' : Nat → List Ent} (h : Two w0 wr Ra Va Ea Ro Vo Eo) (hd : RDone wr w' w0.heap.size Ra Va V' Ea E') : Two w0 w' Ra V' E' Ro Vo Eo :=
  ⟨h.bel.trans (hd.goes.below h.ra h.bel.size), hd.ring, h.ro.touch hd.goes.touch (fun k hk h2 => h.dis k hk h2) (fun k hk => by
      obtain ⟨T, cs, hb, hT⟩ := h.ra.typed hk
      exact h.ro.secOff hb (by rcases hT with e | e | e <;> (rw [e]; decide))), fun q h1 h2 => by
    rcases hd.goes.lies q h1 with h3 | h3
    · exact h.dis q h3 h2
    · have := h.ro.lt h2; omega⟩
end
/-- Within a round: j rings have had the act. -/
def InnerS (w : World) (RA RO k : Nat) (tl : Int) (L0 L1 : List KeyM) (j : Int) (wr : World) : Prop :=
  ∃ Va Ea Vo Eo, Two w wr RA Va Ea RO Vo Eo ∧ BndE (if j = 0 then k else k + 1) Ea ∧ BndE (if j = 2 then k + 1 else k) Eo ∧ keysOf Ea tl = (if j = 0 then L0 else L1) ∧ keysOf Eo tl = (if j = 2 then L1 else L0)
theorem actB {w : World} {q kd tn s : Nat} {id : Bs} {x y z at_ : Int} (h : Bx w q 46 #[.int .u8 (kd : Int), .int .u8 (tn : Int), .int .u8 (s : Int), .string ⟨id.toArray⟩, .int .i64 x, .int .i64 y, .int .i64 z, .int .i64 at_]) :
    w.cell? ⟨q, 0, none⟩ = some (.int .u8 (kd : Int)) ∧ w.cell? ⟨q, 1, none⟩ = some (.int .u8 (tn : Int)) ∧ w.cell? ⟨q, 2, none⟩ = some (.int .u8 (s : Int)) ∧ w.cell? ⟨q, 3, none⟩ = some (.string ⟨id.toArray⟩) ∧ w.cell? ⟨q, 4, none⟩ = some (.int .i64 x) ∧ w.cell? ⟨q, 5, none⟩ = some (.int .i64 y) ∧ w.cell? ⟨q, 6, none⟩ = some (.int .i64 z) ∧ w.cell? ⟨q, 7, none⟩ = some (.int .i64 at_) :=
  ⟨h.cell rfl, h.cell rfl, h.cell rfl, h.cell rfl, h.cell rfl, h.cell rfl, h.cell rfl, h.cell rfl⟩
theorem walk_big (va : Option Addr) (vc n : Nat) (lkd ltn ls : Nat) (lid : Bs) (lx ly lz lat : Int) (w : World) (hl : n ≤ 9223372036854775807) (hb : ¬ n ≤ 40) :
    Calls Tryd.prog 5 #[.slice va n vc, actV lkd ltn ls lid lx ly lz lat] w fun e w' => e = .returned (.bool true) ∧ Below w.heap.size w w' := by
  have hb' : 40 < (n : Int) := by omega
  have HB0 := Lib.hid ((Below.refl w.heap.size w).alloc (Nat.le_refl _) (.cells #[.int .u8 (lkd : Int), .int .u8 (ltn : Int), .int .u8 (ls : Int), .string ⟨lid.toArray⟩, .int .i64 lx, .int .i64 ly, .int .i64 lz, .int .i64 lat] 46))
  go_enter Tryd.func5, Tryd.ntmps5
  go_wp2_with fail
  refine (awake50_any _).mono ?_
  rintro e w1 ⟨rfl, hb1⟩
  have HB1 := Lib.hid (HB0.out.trans (hb1.mono HB0.out.size))
  clear hb1
  go_wp2_with fail
  refine (awake50_any _).mono ?_
  rintro e w2 ⟨rfl, hb2⟩
  go_wp2_with fail
  go_ret
  exact ⟨rfl, HB1.out.trans (hb2.mono HB1.out.size)⟩
theorem walk_ok (va : Option Addr) (vc : Nat) (acts : List KAct) (lkd ltn ls : Nat) (lid : Bs) (lx ly lz lat : Int) (w : World) (hv : A1.RowsV actK 8 w (.slice va acts.length vc) acts) (ha : ∀ a ∈ acts, a.ok) (hl : acts.length ≤ 40) (hltn : ltn < 256) :
    Calls Tryd.prog 5 #[.slice va acts.length vc, actV lkd ltn ls lid lx ly lz lat] w fun e w' => e = .returned (.bool true) ∧ Below w.heap.size w w' := by
  have HV := Lib.hid hv
  have HA := Lib.hid ha
  have hl' : ¬ 40 < (acts.length : Int) := by omega
  have HB0 := Lib.hid ((Below.refl w.heap.size w).alloc (Nat.le_refl _) (.cells #[.int .u8 (lkd : Int), .int .u8 (ltn : Int), .int .u8 (ls : Int), .string ⟨lid.toArray⟩, .int .i64 lx, .int .i64 ly, .int .i64 lz, .int .i64 lat] 46))
  have HX0 := Lib.hid (Bx.new w 46 #[.int .u8 (lkd : Int), .int .u8 (ltn : Int), .int .u8 (ls : Int), .string ⟨lid.toArray⟩, .int .i64 lx, .int .i64 ly, .int .i64 lz, .int .i64 lat])
  clear hv ha
  go_enter Tryd.func5, Tryd.ntmps5
  go_wp2_with fail
  refine (awake50_any _).mono ?_
  rintro e w1 ⟨rfl, hb1⟩
  have HB1 := Lib.hid (HB0.out.trans (hb1.mono HB0.out.size))
  have HX1 := Lib.hid (HX0.out.older hb1)
  have hz1 := HB1.out.size
  clear hb1
  go_wp2_with (go_at_call 7; refine (keyNew_any _).mono ?_; rintro e w2 ⟨rfl, rfl⟩)
  have hs2 : (w1.alloc (.cells ring0 64)).heap.size = w1.heap.size + 1 := by simp
  have HP0 := Lib.hid (show Two w ((w1.alloc (.cells ring0 64)).alloc (.cells ring0 64)) (w1.heap.size + 1) (fun _ => .slice none 0 0) (fun _ => []) w1.heap.size (fun _ => .slice none 0 0) (fun _ => []) from by
    have h2 := ringAt_new (w1.alloc (.cells ring0 64)) w.heap.size (by rw [hs2]; omega)
    rw [hs2] at h2
    refine ⟨(HB1.out.alloc hz1 _).alloc (by rw [hs2]; omega) _, h2, (ringAt_new w1 w.heap.size hz1).older ((Below.refl _ _).alloc (Nat.le_refl _) _), fun q h1 h2 => ?_⟩
    rcases h1 with rfl | ⟨t, _, h1 | ⟨e, he, _⟩⟩
    · rcases h2 with h2 | ⟨t, _, h2 | ⟨e, he, _⟩⟩
      · omega
      · cases h2
      · cases he
    · cases h1
    · cases he)
  have HXL0 := Lib.hid (HX1.out.older (((Below.refl w1.heap.size w1).alloc (Nat.le_refl _) (.cells ring0 64)).alloc (by simp) (.cells ring0 64)))
  clear hs2
  go_loopg [28, 8, 9, 10] acts.length (fun q iv s8 s9 s10 wr => ∃ (k : Nat) (Va : Nat → Value) (Ea : Nat → List Ent) (Vo : Nat → Value) (Eo : Nat → List Ent), iv = .int .i64 k ∧ k ≤ acts.length ∧ Hid (acts.length ≤ q + k) ∧ Two w wr (w1.heap.size + 1) Va Ea w1.heap.size Vo Eo ∧ BndE k Ea ∧ BndE k Eo ∧ keysOf Ea (tenB ltn) = keysOf Eo (tenB ltn) ∧ Bx wr w.heap.size 46 #[.int .u8 (lkd : Int), .int .u8 (ltn : Int), .int .u8 (ls : Int), .string ⟨lid.toArray⟩, .int .i64 lx, .int .i64 ly, .int .i64 lz, .int .i64 lat])
  case atStart => exact ⟨0, _, _, _, _, rfl, Nat.zero_le _, Lib.hid (by omega), HP0.out, fun s => by unfold keysOf tlK; split <;> exact ⟨Nat.le_refl _, fun e he => by cases he⟩, fun s => by unfold keysOf tlK; split <;> exact ⟨Nat.le_refl _, fun e he => by cases he⟩, rfl, HXL0.out⟩
  case round =>
    obtain ⟨k, Va, Ea, Vo, Eo, rfl, hk, HQ, hp, hba, hbo, heq, hxl⟩ := hrel
    have HP := Lib.hid hp
    have HBA0 := Lib.hid hba
    have HBO0 := Lib.hid hbo
    have HEQ := Lib.hid heq
    have HXL := Lib.hid hxl
    clear hp hba hbo heq hxl
    obtain ⟨gk1, hgk⟩ : ∃ gk1, gk = gk1 := ⟨_, rfl⟩
    have HGK := Lib.hid hgk
    clear hgk
    by_cases hlt : k < acts.length
    · obtain ⟨a, hak⟩ : ∃ a, acts[k]? = some a := ⟨_, List.getElem?_eq_getElem hlt⟩
      have haok := HA.out a (List.mem_of_getElem? hak)
      obtain ⟨b, o, rfl, _, hbl, hrow⟩ := A1.RowsV.rowAt HV.out hak
      obtain ⟨kd, tn, s, id, x, y, z, at_⟩ := a
      obtain ⟨hkd, htn, hsn⟩ := haok
      simp only at hkd htn hsn
      have d0 := keepC HP.out.bel (hrow 0 _ rfl)
      have d1 := keepC HP.out.bel (hrow 1 _ rfl)
      have d2 := keepC HP.out.bel (hrow 2 _ rfl)
      have d3 := keepC HP.out.bel (hrow 3 _ rfl)
      have d4 := keepC HP.out.bel (hrow 4 _ rfl)
      have d5 := keepC HP.out.bel (hrow 5 _ rfl)
      have d6 := keepC HP.out.bel (hrow 6 _ rfl)
      have d7 := keepC HP.out.bel (hrow 7 _ rfl)
      rw [Nat.add_zero] at d0
      have hb6 := (Below.refl wr.heap.size wr).alloc (Nat.le_refl _) (.cells #[.int .u8 (kd : Int), .int .u8 (tn : Int), .int .u8 (s : Int), .string ⟨id.toArray⟩, .int .i64 x, .int .i64 y, .int .i64 z, .int .i64 at_] 46)
      have HP6 := Lib.hid (HP.out.older hb6)
      have HXL6 := Lib.hid (HXL.out.older hb6)
      have HX6 := Lib.hid (Bx.new wr 46 #[.int .u8 (kd : Int), .int .u8 (tn : Int), .int .u8 (s : Int), .string ⟨id.toArray⟩, .int .i64 x, .int .i64 y, .int .i64 z, .int .i64 at_])
      clear hak hrow hb6
      by_cases hid : id.length ≤ 100
      · have hid' : ¬ 100 < (id.length : Int) := by omega
        go_upto_region 9 with fail
        obtain ⟨w6, hw6⟩ : ∃ w6, wr.alloc (.cells #[.int .u8 (kd : Int), .int .u8 (tn : Int), .int .u8 (s : Int), .string ⟨id.toArray⟩, .int .i64 x, .int .i64 y, .int .i64 z, .int .i64 at_] 46) = w6 := ⟨_, rfl⟩
        rw [hw6] at HP6 HX6 HXL6 ⊢
        clear hw6
        obtain ⟨qa, hqa⟩ : ∃ qa, wr.heap.size = qa := ⟨_, rfl⟩
        rw [hqa] at HX6 ⊢
        have HQA := Lib.hid hqa
        clear hqa d0 d1 d2 d3 d4 d5 d6 d7
        have hb7 := (Below.refl w6.heap.size w6).alloc (Nat.le_refl _) (.cells #[ptrK (w1.heap.size + 1), ptrK w1.heap.size] 24)
        have HP7 := Lib.hid (HP6.out.older hb7)
        have HXA7 := Lib.hid (HX6.out.older hb7)
        have HXL7 := Lib.hid (HXL6.out.older hb7)
        have HXS7 := Lib.hid (Bx.new w6 24 #[ptrK (w1.heap.size + 1), ptrK w1.heap.size])
        have hsl6 : (secN s).length ≤ 1000000 := by rw [secN_len]; omega
        obtain ⟨m6, hm6⟩ : ∃ m6, kd % 6 = m6 := ⟨_, rfl⟩
        have hmod : (kd : Int) % 6 = (m6 : Int) := by omega
        have HMOD := Lib.hid hmod
        clear hmod hm6 hb7
        obtain ⟨L0, hL0⟩ : ∃ L0, keysOf Ea (tenB ltn) = L0 := ⟨_, rfl⟩
        have HL0 := Lib.hid hL0
        have HL0' := Lib.hid (HEQ.out.symm.trans hL0)
        clear hL0
        go_wp2_with fail
        obtain ⟨qs, hqs⟩ : ∃ qs, w6.heap.size = qs := ⟨_, rfl⟩
        rw [hqs] at HXS7 ⊢
        clear hqs
        go_loopg [40, 9, 10] 2 (fun q2 jv s9 s10 wr => ∃ j : Int, jv = .int .i64 j ∧ (j = 0 ∨ j = 1 ∨ j = 2) ∧ Hid ((2 : Int) ≤ (q2 : Int) + j) ∧ InnerS w (w1.heap.size + 1) w1.heap.size k (tenB ltn) L0 (stepAt m6 (tenB tn) (tenB ltn) L0 id x y z (secN s)) j wr ∧ Bx wr w.heap.size 46 #[.int .u8 (lkd : Int), .int .u8 (ltn : Int), .int .u8 (ls : Int), .string ⟨lid.toArray⟩, .int .i64 lx, .int .i64 ly, .int .i64 lz, .int .i64 lat] ∧ Bx wr qa 46 #[.int .u8 (kd : Int), .int .u8 (tn : Int), .int .u8 (s : Int), .string ⟨id.toArray⟩, .int .i64 x, .int .i64 y, .int .i64 z, .int .i64 at_] ∧ Bx wr qs 24 #[ptrK (w1.heap.size + 1), ptrK w1.heap.size])
        case atStart => exact ⟨0, rfl, .inl rfl, Lib.hid (by omega), ⟨Va, Ea, Vo, Eo, HP7.out, HBA0.out, HBO0.out, HL0.out, HL0'.out⟩, HXL7.out, HXA7.out, HXS7.out⟩
        case round =>
          obtain ⟨j, rfl, hj, HQ2, hin, hxl, hxa, hxs⟩ := hrel
          clear HP7 HXA7 HXL7 HXS7 HBA0 HBO0 HL0 HL0' HEQ HP6 HX6 HXL6 HP HXL HP0 HXL0
          obtain ⟨Va, Ea, Vo, Eo, ht, hba, hbo, hka, hko⟩ := hin
          have HT := Lib.hid ht
          have HXL := Lib.hid hxl
          have HXA := Lib.hid hxa
          have HXS := Lib.hid hxs
          obtain ⟨c0, c1, c2, c3, c4, c5, c6, c7⟩ := actB hxa
          obtain ⟨l0, l1, l2, l3, l4, l5, l6, l7⟩ := actB hxl
          have p0 := hxs.cell (i := 0) rfl
          have p1 := hxs.cell (i := 1) rfl
          clear ht hxl hxa hxs
          rcases hj with rfl | rfl | rfl
          · have HBX := Lib.hid (show BndE k Ea from hba)
            have HBO := Lib.hid (show BndE k Eo from hbo)
            have HKX := Lib.hid (show keysOf Ea (tenB ltn) = L0 from hka)
            have HKO := Lib.hid (show keysOf Eo (tenB ltn) = L0 from hko)
            clear hba hbo hka hko
            go_wp2_with fail
            refine wp_region_held_drew (S := fun w' => (w'.cell? ⟨qa, 0, none⟩ = some (.int .u8 (kd : Int)) ∧ w'.cell? ⟨qa, 1, none⟩ = some (.int .u8 (tn : Int)) ∧ w'.cell? ⟨qa, 2, none⟩ = some (.int .u8 (s : Int)) ∧ w'.cell? ⟨qa, 3, none⟩ = some (.string ⟨id.toArray⟩) ∧ w'.cell? ⟨qa, 4, none⟩ = some (.int .i64 x) ∧ w'.cell? ⟨qa, 5, none⟩ = some (.int .i64 y) ∧ w'.cell? ⟨qa, 6, none⟩ = some (.int .i64 z) ∧ w'.cell? ⟨qa, 7, none⟩ = some (.int .i64 at_)) ∧ w'.cell? ⟨w.heap.size, 0, none⟩ = some (.int .u8 (lkd : Int)) ∧ w'.cell? ⟨w.heap.size, 1, none⟩ = some (.int .u8 (ltn : Int)) ∧ w'.cell? ⟨w.heap.size, 2, none⟩ = some (.int .u8 (ls : Int)) ∧ w'.cell? ⟨w.heap.size, 3, none⟩ = some (.string ⟨lid.toArray⟩) ∧ w'.cell? ⟨w.heap.size, 4, none⟩ = some (.int .i64 lx) ∧ w'.cell? ⟨w.heap.size, 5, none⟩ = some (.int .i64 ly) ∧ w'.cell? ⟨w.heap.size, 6, none⟩ = some (.int .i64 lz) ∧ w'.cell? ⟨w.heap.size, 7, none⟩ = some (.int .i64 lat)) (by kernel_rfl) (by exact ⟨⟨c0, c1, c2, c3, c4, c5, c6, c7⟩, l0, l1, l2, l3, l4, l5, l6, l7⟩) (fun hHeld => ?_)
            refine wpAnyH_take (i := 0) (v := ?_) (by simp only [List.getElem?_toArray, List.getElem?_cons_succ, List.getElem?_cons_zero]; rfl) (by kernel_rfl) (by kernel_rfl) (by kernel_rfl) (by intro _ _ _ h; exact h) (Or.inl ⟨by rfl, ?_⟩) (by assumption) ?_
            rotate_left
            focus (intro wT hT; (try dsimp only at hT); go_simp; try with_reducible rfl)
            try simp only [Act.put, List.setIfInBounds_toArray, List.set_cons_zero, List.set_cons_succ]
            refine wpAnyH_take (i := 1) (v := ?_) (by simp only [List.getElem?_toArray, List.getElem?_cons_succ, List.getElem?_cons_zero]; rfl) (by kernel_rfl) (by kernel_rfl) (by kernel_rfl) (by intro _ _ _ h; exact h) (Or.inl ⟨by rfl, ?_⟩) (by assumption) ?_
            rotate_left
            focus (intro wT hT; (try dsimp only at hT); go_simp; try with_reducible rfl)
            try simp only [Act.put, List.setIfInBounds_toArray, List.set_cons_zero, List.set_cons_succ]
            refine wpAnyH_take (i := 2) (v := ?_) (by simp only [List.getElem?_toArray, List.getElem?_cons_succ, List.getElem?_cons_zero]; rfl) (by kernel_rfl) (by kernel_rfl) (by kernel_rfl) (by intro _ _ _ h; exact h) (Or.inl ⟨by rfl, ?_⟩) (by assumption) ?_
            rotate_left
            focus (intro wT hT; (try dsimp only at hT); go_simp; try with_reducible rfl)
            try simp only [Act.put, List.setIfInBounds_toArray, List.set_cons_zero, List.set_cons_succ]
            refine wpAnyH_take (i := 3) (v := undef) (by simp only [List.getElem?_toArray, List.getElem?_cons_succ, List.getElem?_cons_zero]; rfl) (by kernel_rfl) (by kernel_rfl) (by kernel_rfl) (by intro _ _ _ h; exact h) (Or.inr ⟨by rfl, rfl⟩) (by assumption) ?_
            try simp only [Act.put, List.setIfInBounds_toArray, List.set_cons_zero, List.set_cons_succ]
            refine wpAnyH_take (i := 4) (v := undef) (by simp only [List.getElem?_toArray, List.getElem?_cons_succ, List.getElem?_cons_zero]; rfl) (by kernel_rfl) (by kernel_rfl) (by kernel_rfl) (by intro _ _ _ h; exact h) (Or.inr ⟨by rfl, rfl⟩) (by assumption) ?_
            try simp only [Act.put, List.setIfInBounds_toArray, List.set_cons_zero, List.set_cons_succ]
            refine wpAnyH_take (i := 5) (v := undef) (by simp only [List.getElem?_toArray, List.getElem?_cons_succ, List.getElem?_cons_zero]; rfl) (by kernel_rfl) (by kernel_rfl) (by kernel_rfl) (by intro _ _ _ h; exact h) (Or.inr ⟨by rfl, rfl⟩) (by assumption) ?_
            try simp only [Act.put, List.setIfInBounds_toArray, List.set_cons_zero, List.set_cons_succ]
            refine wpAnyH_take (i := 6) (v := undef) (by simp only [List.getElem?_toArray, List.getElem?_cons_succ, List.getElem?_cons_zero]; rfl) (by kernel_rfl) (by kernel_rfl) (by kernel_rfl) (by intro _ _ _ h; exact h) (Or.inr ⟨by rfl, rfl⟩) (by assumption) ?_
            try simp only [Act.put, List.setIfInBounds_toArray, List.set_cons_zero, List.set_cons_succ]
            refine wpAnyH_take (i := 7) (v := undef) (by simp only [List.getElem?_toArray, List.getElem?_cons_succ, List.getElem?_cons_zero]; rfl) (by kernel_rfl) (by kernel_rfl) (by kernel_rfl) (by intro _ _ _ h; exact h) (Or.inr ⟨by rfl, rfl⟩) (by assumption) ?_
            try simp only [Act.put, List.setIfInBounds_toArray, List.set_cons_zero, List.set_cons_succ]
            refine wpAnyH_take (i := 8) (v := ?_) (by simp only [List.getElem?_toArray, List.getElem?_cons_succ, List.getElem?_cons_zero]; rfl) (by kernel_rfl) (by kernel_rfl) (by kernel_rfl) (by intro _ _ _ h; exact h) (Or.inl ⟨by rfl, ?_⟩) (by assumption) ?_
            rotate_left
            focus (intro wT hT; (try dsimp only at hT); go_simp; try with_reducible rfl)
            try simp only [Act.put, List.setIfInBounds_toArray, List.set_cons_zero, List.set_cons_succ]
            refine wpAnyH_done (by kernel_rfl) ?_ _
            obtain ⟨w7, hw7⟩ : ∃ w7, wr.drew = w7 := ⟨_, rfl⟩
            have hb7 : Below wr.heap.size wr w7 := by rw [← hw7]; exact (Below.refl _ _).drew
            rw [hw7]
            have HT7 := Lib.hid (HT.out.older hb7)
            have HXA7 := Lib.hid (HXA.out.older hb7)
            have HXL7 := Lib.hid (HXL.out.older hb7)
            have HXS7 := Lib.hid (HXS.out.older hb7)
            clear hw7 hb7 c0 c1 c2 c3 c4 c5 c6 c7 l0 l1 l2 l3 l4 l5 l6 l7 p0 p1
            have hbx := HBX.out (tenB tn)
            have htl : (tlK Ea (tenB tn)).length ≤ k := by have h9 := hbx.1; unfold keysOf at h9; rw [List.length_map] at h9; exact h9
            clear hbx
            obtain ⟨c0, c1, c2, c3, c4, c5, c6, c7⟩ := actB (HXA7.out)
            by_cases h2 : m6 = 2
            · have e2 : ((kd : Int) % 6 == 2) = true := beq_iff_eq.2 (by rw [HMOD.out, h2]; rfl)
              go_wp2_with fail
              refine wp_region_held_drew (S := fun w' => w'.cell? ⟨qa, 0, none⟩ = some (.int .u8 (kd : Int)) ∧ w'.cell? ⟨qa, 1, none⟩ = some (.int .u8 (tn : Int)) ∧ w'.cell? ⟨qa, 2, none⟩ = some (.int .u8 (s : Int)) ∧ w'.cell? ⟨qa, 3, none⟩ = some (.string ⟨id.toArray⟩) ∧ w'.cell? ⟨qa, 4, none⟩ = some (.int .i64 x) ∧ w'.cell? ⟨qa, 5, none⟩ = some (.int .i64 y) ∧ w'.cell? ⟨qa, 6, none⟩ = some (.int .i64 z) ∧ w'.cell? ⟨qa, 7, none⟩ = some (.int .i64 at_)) (by kernel_rfl) (by exact ⟨c0, c1, c2, c3, c4, c5, c6, c7⟩) (fun hHeld => ?_)
              refine wpAnyH_take (i := 0) (v := ?_) (by simp only [List.getElem?_toArray, List.getElem?_cons_succ, List.getElem?_cons_zero]; rfl) (by kernel_rfl) (by kernel_rfl) (by kernel_rfl) (by intro _ _ _ h; exact h) (Or.inl ⟨by rfl, ?_⟩) (by assumption) ?_
              rotate_left
              focus (intro wT hT; (try dsimp only at hT); go_simp; try with_reducible rfl)
              try simp only [Act.put, List.setIfInBounds_toArray, List.set_cons_zero, List.set_cons_succ]
              refine wpAnyH_take (i := 1) (v := ?_) (by simp only [List.getElem?_toArray, List.getElem?_cons_succ, List.getElem?_cons_zero]; rfl) (by kernel_rfl) (by kernel_rfl) (by kernel_rfl) (by intro _ _ _ h; exact h) (Or.inl ⟨by rfl, ?_⟩) (by assumption) ?_
              rotate_left
              focus (intro wT hT; (try dsimp only at hT); go_simp; try with_reducible rfl)
              try simp only [Act.put, List.setIfInBounds_toArray, List.set_cons_zero, List.set_cons_succ]
              refine wpAnyH_take (i := 3) (v := ?_) (by simp only [List.getElem?_toArray, List.getElem?_cons_succ, List.getElem?_cons_zero]; rfl) (by kernel_rfl) (by kernel_rfl) (by kernel_rfl) (by intro _ _ _ h; exact h) (Or.inl ⟨by rfl, ?_⟩) (by assumption) ?_
              rotate_left
              focus (intro wT hT; (try dsimp only at hT); go_simp; try with_reducible rfl)
              try simp only [Act.put, List.setIfInBounds_toArray, List.set_cons_zero, List.set_cons_succ]
              refine wpAnyH_take (i := 4) (v := ?_) (by simp only [List.getElem?_toArray, List.getElem?_cons_succ, List.getElem?_cons_zero]; rfl) (by kernel_rfl) (by kernel_rfl) (by kernel_rfl) (by intro _ _ _ h; exact h) (Or.inl ⟨by rfl, ?_⟩) (by assumption) ?_
              rotate_left
              focus (intro wT hT; (try dsimp only at hT); go_simp; try with_reducible rfl)
              try simp only [Act.put, List.setIfInBounds_toArray, List.set_cons_zero, List.set_cons_succ]
              refine wpAnyH_take (i := 5) (v := ?_) (by simp only [List.getElem?_toArray, List.getElem?_cons_succ, List.getElem?_cons_zero]; rfl) (by kernel_rfl) (by kernel_rfl) (by kernel_rfl) (by intro _ _ _ h; exact h) (Or.inl ⟨by rfl, ?_⟩) (by assumption) ?_
              rotate_left
              focus (intro wT hT; (try dsimp only at hT); go_simp; try with_reducible rfl)
              try simp only [Act.put, List.setIfInBounds_toArray, List.set_cons_zero, List.set_cons_succ]
              refine wpAnyH_take (i := 6) (v := ?_) (by simp only [List.getElem?_toArray, List.getElem?_cons_succ, List.getElem?_cons_zero]; rfl) (by kernel_rfl) (by kernel_rfl) (by kernel_rfl) (by intro _ _ _ h; exact h) (Or.inl ⟨by rfl, ?_⟩) (by assumption) ?_
              rotate_left
              focus (intro wT hT; (try dsimp only at hT); go_simp; try with_reducible rfl)
              try simp only [Act.put, List.setIfInBounds_toArray, List.set_cons_zero, List.set_cons_succ]
              refine wpAnyH_ready (rs := [2]) (by kernel_rfl) (by simp) (AllReadyH.cons (by simp only [List.getElem?_toArray, List.getElem?_cons_succ, List.getElem?_cons_zero]; rfl) (fun K hK => ?_) AllReadyH.nil)
              go_simp
              go_at_call 15; refine (tenant_any kd tn s id x y z at_ _ htn).mono ?_; rintro e wT ⟨rfl, hbT⟩; have hbwT : Below w7.heap.size w7 wT := ((Below.refl w7.heap.size w7).drew).trans hbT; clear c0 c1 c2 c3 c4 c5 c6 c7; obtain ⟨c0, c1, c2, c3, c4, c5, c6, c7⟩ := actB (HXA7.out.older hbwT)
              go_wp2_with fail
              refine hK.out _ _ (by exact ⟨c0, c1, c2, c3, c4, c5, c6, c7⟩) (fun hHe2 => ?_)
              clear hK K
              try simp only [Act.put, List.setIfInBounds_toArray, List.set_cons_zero, List.set_cons_succ]
              refine wpAnyH_ready (rs := [7]) (by kernel_rfl) (by simp) (AllReadyH.cons (by simp only [List.getElem?_toArray, List.getElem?_cons_succ, List.getElem?_cons_zero]; rfl) (fun K hK => ?_) AllReadyH.nil)
              go_simp
              have HTS := Lib.hid (HT7.out.older hbwT); have HXAS := Lib.hid (HXA7.out.older hbwT); have HXLS := Lib.hid (HXL7.out.older hbwT); have HXSS := Lib.hid (HXS7.out.older hbwT); go_at_call 18; refine (revoke_any w.heap.size (w1.heap.size + 1) (tenB tn) id x Va Ea _ HTS.out.ra (by omega)).mono ?_; rintro e w8 ⟨E8, rfl, hd8, hst8⟩; have HT8 := Lib.hid (Two.step HTS.out hd8); have HXA8 := Lib.hid (hd8.goes.bx HTS.out.ra HXAS.out (by decide) (by decide) (by decide)); have HXL8 := Lib.hid (hd8.goes.bx HTS.out.ra HXLS.out (by decide) (by decide) (by decide)); have HXS8 := Lib.hid (hd8.goes.bx HTS.out.ra HXSS.out (by decide) (by decide) (by decide)); have HST8 := Lib.hid hst8; clear hd8 hst8; clear c0 c1 c2 c3 c4 c5 c6 c7; obtain ⟨c0, c1, c2, c3, c4, c5, c6, c7⟩ := actB (HXA8.out)
              go_wp2_with fail
              refine hK.out _ _ (by exact ⟨c0, c1, c2, c3, c4, c5, c6, c7⟩) (fun hHe3 => ?_)
              clear hK K
              try simp only [Act.put, List.setIfInBounds_toArray, List.set_cons_zero, List.set_cons_succ]
              refine wpAnyH_done (by kernel_rfl) ?_ _
              go_wp2_with fail
              go_roundg (gk - 1)
              case rel => exact ⟨1, by go_num, .inr (.inl rfl), Lib.hid (by have := HQ2.out; omega), ⟨Va, E8, Vo, Eo, HT8.out, bnd_step HBX.out (stepK_rev (sec := secN s) (y := y) (z := z) h2 HST8.out) hsl6, HBO.out, keys_step HKX.out (stepK_rev (sec := secN s) (y := y) (z := z) h2 HST8.out), HKO.out⟩, HXL8.out, HXA8.out, HXS8.out⟩
              case measure => have := HQ2.out; omega
            · have e2 : ((kd : Int) % 6 == 2) = false := beq_eq_false_iff_ne.2 (by rw [HMOD.out]; omega)
              by_cases h34 : m6 = 3 ∨ m6 = 4
              · by_cases h3 : m6 = 3
                · have e3 : ((kd : Int) % 6 == 3) = true := beq_iff_eq.2 (by rw [HMOD.out, h3]; rfl)
                  clear h2 h3
                  go_wp2_with fail
                  refine wp_region_held_drew (S := fun w' => w'.cell? ⟨qa, 0, none⟩ = some (.int .u8 (kd : Int)) ∧ w'.cell? ⟨qa, 1, none⟩ = some (.int .u8 (tn : Int)) ∧ w'.cell? ⟨qa, 2, none⟩ = some (.int .u8 (s : Int)) ∧ w'.cell? ⟨qa, 3, none⟩ = some (.string ⟨id.toArray⟩) ∧ w'.cell? ⟨qa, 4, none⟩ = some (.int .i64 x) ∧ w'.cell? ⟨qa, 5, none⟩ = some (.int .i64 y) ∧ w'.cell? ⟨qa, 6, none⟩ = some (.int .i64 z) ∧ w'.cell? ⟨qa, 7, none⟩ = some (.int .i64 at_)) (by kernel_rfl) (by exact ⟨c0, c1, c2, c3, c4, c5, c6, c7⟩) (fun hHeld => ?_)
                  refine wpAnyH_take (i := 0) (v := ?_) (by simp only [List.getElem?_toArray, List.getElem?_cons_succ, List.getElem?_cons_zero]; rfl) (by kernel_rfl) (by kernel_rfl) (by kernel_rfl) (by intro _ _ _ h; exact h) (Or.inl ⟨by rfl, ?_⟩) (by assumption) ?_
                  rotate_left
                  focus (intro wT hT; (try dsimp only at hT); go_simp; try with_reducible rfl)
                  try simp only [Act.put, List.setIfInBounds_toArray, List.set_cons_zero, List.set_cons_succ]
                  refine wpAnyH_take (i := 1) (v := ?_) (by simp only [List.getElem?_toArray, List.getElem?_cons_succ, List.getElem?_cons_zero]; rfl) (by kernel_rfl) (by kernel_rfl) (by kernel_rfl) (by intro _ _ _ h; exact h) (Or.inl ⟨by rfl, ?_⟩) (by assumption) ?_
                  rotate_left
                  focus (intro wT hT; (try dsimp only at hT); go_simp; try with_reducible rfl)
                  try simp only [Act.put, List.setIfInBounds_toArray, List.set_cons_zero, List.set_cons_succ]
                  refine wpAnyH_take (i := 3) (v := ?_) (by simp only [List.getElem?_toArray, List.getElem?_cons_succ, List.getElem?_cons_zero]; rfl) (by kernel_rfl) (by kernel_rfl) (by kernel_rfl) (by intro _ _ _ h; exact h) (Or.inl ⟨by rfl, ?_⟩) (by assumption) ?_
                  rotate_left
                  focus (intro wT hT; (try dsimp only at hT); go_simp; try with_reducible rfl)
                  try simp only [Act.put, List.setIfInBounds_toArray, List.set_cons_zero, List.set_cons_succ]
                  refine wpAnyH_take (i := 4) (v := ?_) (by simp only [List.getElem?_toArray, List.getElem?_cons_succ, List.getElem?_cons_zero]; rfl) (by kernel_rfl) (by kernel_rfl) (by kernel_rfl) (by intro _ _ _ h; exact h) (Or.inl ⟨by rfl, ?_⟩) (by assumption) ?_
                  rotate_left
                  focus (intro wT hT; (try dsimp only at hT); go_simp; try with_reducible rfl)
                  try simp only [Act.put, List.setIfInBounds_toArray, List.set_cons_zero, List.set_cons_succ]
                  refine wpAnyH_take (i := 5) (v := ?_) (by simp only [List.getElem?_toArray, List.getElem?_cons_succ, List.getElem?_cons_zero]; rfl) (by kernel_rfl) (by kernel_rfl) (by kernel_rfl) (by intro _ _ _ h; exact h) (Or.inl ⟨by rfl, ?_⟩) (by assumption) ?_
                  rotate_left
                  focus (intro wT hT; (try dsimp only at hT); go_simp; try with_reducible rfl)
                  try simp only [Act.put, List.setIfInBounds_toArray, List.set_cons_zero, List.set_cons_succ]
                  refine wpAnyH_take (i := 6) (v := ?_) (by simp only [List.getElem?_toArray, List.getElem?_cons_succ, List.getElem?_cons_zero]; rfl) (by kernel_rfl) (by kernel_rfl) (by kernel_rfl) (by intro _ _ _ h; exact h) (Or.inl ⟨by rfl, ?_⟩) (by assumption) ?_
                  rotate_left
                  focus (intro wT hT; (try dsimp only at hT); go_simp; try with_reducible rfl)
                  try simp only [Act.put, List.setIfInBounds_toArray, List.set_cons_zero, List.set_cons_succ]
                  refine wpAnyH_take (i := 7) (v := ?_) (by simp only [List.getElem?_toArray, List.getElem?_cons_succ, List.getElem?_cons_zero]; rfl) (by kernel_rfl) (by kernel_rfl) (by kernel_rfl) (by intro _ _ _ h; exact h) (Or.inl ⟨by rfl, ?_⟩) (by assumption) ?_
                  rotate_left
                  focus (intro wT hT; (try dsimp only at hT); go_simp; try with_reducible rfl)
                  try simp only [Act.put, List.setIfInBounds_toArray, List.set_cons_zero, List.set_cons_succ]
                  refine wpAnyH_take (i := 8) (v := ?_) (by simp only [List.getElem?_toArray, List.getElem?_cons_succ, List.getElem?_cons_zero]; rfl) (by kernel_rfl) (by kernel_rfl) (by kernel_rfl) (by intro _ _ _ h; exact h) (Or.inl ⟨by rfl, ?_⟩) (by assumption) ?_
                  rotate_left
                  focus (intro wT hT; (try dsimp only at hT); go_simp; try with_reducible rfl)
                  try simp only [Act.put, List.setIfInBounds_toArray, List.set_cons_zero, List.set_cons_succ]
                  refine wpAnyH_take (i := 9) (v := ?_) (by simp only [List.getElem?_toArray, List.getElem?_cons_succ, List.getElem?_cons_zero]; rfl) (by kernel_rfl) (by kernel_rfl) (by kernel_rfl) (by intro _ _ _ h; exact h) (Or.inl ⟨by rfl, ?_⟩) (by assumption) ?_
                  rotate_left
                  focus (intro wT hT; (try dsimp only at hT); go_simp; try with_reducible rfl)
                  try simp only [Act.put, List.setIfInBounds_toArray, List.set_cons_zero, List.set_cons_succ]
                  refine wpAnyH_take (i := 10) (v := ?_) (by simp only [List.getElem?_toArray, List.getElem?_cons_succ, List.getElem?_cons_zero]; rfl) (by kernel_rfl) (by kernel_rfl) (by kernel_rfl) (by intro _ _ _ h; exact h) (Or.inl ⟨by rfl, ?_⟩) (by assumption) ?_
                  rotate_left
                  focus (intro wT hT; (try dsimp only at hT); go_simp; try with_reducible rfl)
                  try simp only [Act.put, List.setIfInBounds_toArray, List.set_cons_zero, List.set_cons_succ]
                  refine wpAnyH_ready (rs := [2]) (by kernel_rfl) (by simp) (AllReadyH.cons (by simp only [List.getElem?_toArray, List.getElem?_cons_succ, List.getElem?_cons_zero]; rfl) (fun K hK => ?_) AllReadyH.nil)
                  go_simp
                  go_at_call 15; refine (tenant_any kd tn s id x y z at_ _ htn).mono ?_; rintro e wT ⟨rfl, hbT⟩; have hbwT : Below w7.heap.size w7 wT := ((Below.refl w7.heap.size w7).drew).trans hbT; clear c0 c1 c2 c3 c4 c5 c6 c7; obtain ⟨c0, c1, c2, c3, c4, c5, c6, c7⟩ := actB (HXA7.out.older hbwT)
                  go_wp2_with fail
                  refine hK.out _ _ (by exact ⟨c0, c1, c2, c3, c4, c5, c6, c7⟩) (fun hHe2 => ?_)
                  clear hK K
                  try simp only [Act.put, List.setIfInBounds_toArray, List.set_cons_zero, List.set_cons_succ]
                  refine wpAnyH_ready (rs := [11]) (by kernel_rfl) (by simp) (AllReadyH.cons (by simp only [List.getElem?_toArray, List.getElem?_cons_succ, List.getElem?_cons_zero]; rfl) (fun K hK => ?_) AllReadyH.nil)
                  go_simp
                  go_at_call 9; refine (secret_any s _ hsn).mono ?_; rintro e wS ⟨rfl, hbS⟩; have hbwS : Below w7.heap.size w7 wS := hbwT.trans (hbS.mono hbwT.size); clear c0 c1 c2 c3 c4 c5 c6 c7; obtain ⟨c0, c1, c2, c3, c4, c5, c6, c7⟩ := actB (HXA7.out.older hbwS)
                  go_wp2_with fail
                  refine hK.out _ _ (by exact ⟨c0, c1, c2, c3, c4, c5, c6, c7⟩) (fun hHe3 => ?_)
                  clear hK K
                  try simp only [Act.put, List.setIfInBounds_toArray, List.set_cons_zero, List.set_cons_succ]
                  refine wpAnyH_ready (rs := [12]) (by kernel_rfl) (by simp) (AllReadyH.cons (by simp only [List.getElem?_toArray, List.getElem?_cons_succ, List.getElem?_cons_zero]; rfl) (fun K hK => ?_) AllReadyH.nil)
                  go_simp
                  refine hK.out _ _ (by exact ⟨keepC (A1.bworld_below _ _) c0, keepC (A1.bworld_below _ _) c1, keepC (A1.bworld_below _ _) c2, keepC (A1.bworld_below _ _) c3, keepC (A1.bworld_below _ _) c4, keepC (A1.bworld_below _ _) c5, keepC (A1.bworld_below _ _) c6, keepC (A1.bworld_below _ _) c7⟩) (fun hHe4 => ?_)
                  clear hK K
                  try simp only [Act.put, List.setIfInBounds_toArray, List.set_cons_zero, List.set_cons_succ]
                  refine wpAnyH_ready (rs := [13]) (by kernel_rfl) (by simp) (AllReadyH.cons (by simp only [List.getElem?_toArray, List.getElem?_cons_succ, List.getElem?_cons_zero]; rfl) (fun K hK => ?_) AllReadyH.nil)
                  go_simp
                  have hbwB : Below w7.heap.size w7 (A1.bworld wS (secN s)) := hbwS.trans ((A1.bworld_below wS (secN s)).mono hbwS.size); have HTS := Lib.hid (HT7.out.older hbwB); have HXAS := Lib.hid (HXA7.out.older hbwB); have HXLS := Lib.hid (HXL7.out.older hbwB); have HXSS := Lib.hid (HXS7.out.older hbwB); go_at_call 10; refine (rotate_any w.heap.size (w1.heap.size + 1) (tenB tn) x y z (secN s) (some ⟨wS.heap.size, 0, none⟩) (A1.bcap wS (secN s)) Va Ea _ HTS.out.ra HTS.out.bel.size (by omega) (bytesAt_src (A1.bytesAt_new wS (secN s)))).mono ?_; rintro e w8 ⟨V8, E8, rfl, hd8, hst8⟩; have HT8 := Lib.hid (Two.step HTS.out hd8); have HXA8 := Lib.hid (hd8.goes.bx HTS.out.ra HXAS.out (by decide) (by decide) (by decide)); have HXL8 := Lib.hid (hd8.goes.bx HTS.out.ra HXLS.out (by decide) (by decide) (by decide)); have HXS8 := Lib.hid (hd8.goes.bx HTS.out.ra HXSS.out (by decide) (by decide) (by decide)); have HST8 := Lib.hid hst8; clear hd8 hst8; clear c0 c1 c2 c3 c4 c5 c6 c7; obtain ⟨c0, c1, c2, c3, c4, c5, c6, c7⟩ := actB (HXA8.out)
                  go_wp2_with fail
                  refine hK.out _ _ (by exact ⟨c0, c1, c2, c3, c4, c5, c6, c7⟩) (fun hHe5 => ?_)
                  clear hK K
                  try simp only [Act.put, List.setIfInBounds_toArray, List.set_cons_zero, List.set_cons_succ]
                  refine wpAnyH_done (by kernel_rfl) ?_ _
                  go_wp2_with fail
                  go_roundg (gk - 1)
                  case rel => exact ⟨1, by go_num, .inr (.inl rfl), Lib.hid (by have := HQ2.out; omega), ⟨V8, E8, Vo, Eo, HT8.out, bnd_step HBX.out (stepK_rot (id := id) h34 HST8.out) hsl6, HBO.out, keys_step HKX.out (stepK_rot (id := id) h34 HST8.out), HKO.out⟩, HXL8.out, HXA8.out, HXS8.out⟩
                  case measure => have := HQ2.out; omega
                · have e3 : ((kd : Int) % 6 == 3) = false := beq_eq_false_iff_ne.2 (by rw [HMOD.out]; omega)
                  have e4 : ((kd : Int) % 6 == 4) = true := beq_iff_eq.2 (by rw [HMOD.out]; omega)
                  clear h2 h3
                  go_wp2_with fail
                  refine wp_region_held_drew (S := fun w' => w'.cell? ⟨qa, 0, none⟩ = some (.int .u8 (kd : Int)) ∧ w'.cell? ⟨qa, 1, none⟩ = some (.int .u8 (tn : Int)) ∧ w'.cell? ⟨qa, 2, none⟩ = some (.int .u8 (s : Int)) ∧ w'.cell? ⟨qa, 3, none⟩ = some (.string ⟨id.toArray⟩) ∧ w'.cell? ⟨qa, 4, none⟩ = some (.int .i64 x) ∧ w'.cell? ⟨qa, 5, none⟩ = some (.int .i64 y) ∧ w'.cell? ⟨qa, 6, none⟩ = some (.int .i64 z) ∧ w'.cell? ⟨qa, 7, none⟩ = some (.int .i64 at_)) (by kernel_rfl) (by exact ⟨c0, c1, c2, c3, c4, c5, c6, c7⟩) (fun hHeld => ?_)
                  refine wpAnyH_take (i := 0) (v := ?_) (by simp only [List.getElem?_toArray, List.getElem?_cons_succ, List.getElem?_cons_zero]; rfl) (by kernel_rfl) (by kernel_rfl) (by kernel_rfl) (by intro _ _ _ h; exact h) (Or.inl ⟨by rfl, ?_⟩) (by assumption) ?_
                  rotate_left
                  focus (intro wT hT; (try dsimp only at hT); go_simp; try with_reducible rfl)
                  try simp only [Act.put, List.setIfInBounds_toArray, List.set_cons_zero, List.set_cons_succ]
                  refine wpAnyH_take (i := 1) (v := ?_) (by simp only [List.getElem?_toArray, List.getElem?_cons_succ, List.getElem?_cons_zero]; rfl) (by kernel_rfl) (by kernel_rfl) (by kernel_rfl) (by intro _ _ _ h; exact h) (Or.inl ⟨by rfl, ?_⟩) (by assumption) ?_
                  rotate_left
                  focus (intro wT hT; (try dsimp only at hT); go_simp; try with_reducible rfl)
                  try simp only [Act.put, List.setIfInBounds_toArray, List.set_cons_zero, List.set_cons_succ]
                  refine wpAnyH_take (i := 3) (v := ?_) (by simp only [List.getElem?_toArray, List.getElem?_cons_succ, List.getElem?_cons_zero]; rfl) (by kernel_rfl) (by kernel_rfl) (by kernel_rfl) (by intro _ _ _ h; exact h) (Or.inl ⟨by rfl, ?_⟩) (by assumption) ?_
                  rotate_left
                  focus (intro wT hT; (try dsimp only at hT); go_simp; try with_reducible rfl)
                  try simp only [Act.put, List.setIfInBounds_toArray, List.set_cons_zero, List.set_cons_succ]
                  refine wpAnyH_take (i := 4) (v := ?_) (by simp only [List.getElem?_toArray, List.getElem?_cons_succ, List.getElem?_cons_zero]; rfl) (by kernel_rfl) (by kernel_rfl) (by kernel_rfl) (by intro _ _ _ h; exact h) (Or.inl ⟨by rfl, ?_⟩) (by assumption) ?_
                  rotate_left
                  focus (intro wT hT; (try dsimp only at hT); go_simp; try with_reducible rfl)
                  try simp only [Act.put, List.setIfInBounds_toArray, List.set_cons_zero, List.set_cons_succ]
                  refine wpAnyH_take (i := 5) (v := ?_) (by simp only [List.getElem?_toArray, List.getElem?_cons_succ, List.getElem?_cons_zero]; rfl) (by kernel_rfl) (by kernel_rfl) (by kernel_rfl) (by intro _ _ _ h; exact h) (Or.inl ⟨by rfl, ?_⟩) (by assumption) ?_
                  rotate_left
                  focus (intro wT hT; (try dsimp only at hT); go_simp; try with_reducible rfl)
                  try simp only [Act.put, List.setIfInBounds_toArray, List.set_cons_zero, List.set_cons_succ]
                  refine wpAnyH_take (i := 6) (v := ?_) (by simp only [List.getElem?_toArray, List.getElem?_cons_succ, List.getElem?_cons_zero]; rfl) (by kernel_rfl) (by kernel_rfl) (by kernel_rfl) (by intro _ _ _ h; exact h) (Or.inl ⟨by rfl, ?_⟩) (by assumption) ?_
                  rotate_left
                  focus (intro wT hT; (try dsimp only at hT); go_simp; try with_reducible rfl)
                  try simp only [Act.put, List.setIfInBounds_toArray, List.set_cons_zero, List.set_cons_succ]
                  refine wpAnyH_take (i := 7) (v := ?_) (by simp only [List.getElem?_toArray, List.getElem?_cons_succ, List.getElem?_cons_zero]; rfl) (by kernel_rfl) (by kernel_rfl) (by kernel_rfl) (by intro _ _ _ h; exact h) (Or.inl ⟨by rfl, ?_⟩) (by assumption) ?_
                  rotate_left
                  focus (intro wT hT; (try dsimp only at hT); go_simp; try with_reducible rfl)
                  try simp only [Act.put, List.setIfInBounds_toArray, List.set_cons_zero, List.set_cons_succ]
                  refine wpAnyH_take (i := 8) (v := ?_) (by simp only [List.getElem?_toArray, List.getElem?_cons_succ, List.getElem?_cons_zero]; rfl) (by kernel_rfl) (by kernel_rfl) (by kernel_rfl) (by intro _ _ _ h; exact h) (Or.inl ⟨by rfl, ?_⟩) (by assumption) ?_
                  rotate_left
                  focus (intro wT hT; (try dsimp only at hT); go_simp; try with_reducible rfl)
                  try simp only [Act.put, List.setIfInBounds_toArray, List.set_cons_zero, List.set_cons_succ]
                  refine wpAnyH_take (i := 9) (v := ?_) (by simp only [List.getElem?_toArray, List.getElem?_cons_succ, List.getElem?_cons_zero]; rfl) (by kernel_rfl) (by kernel_rfl) (by kernel_rfl) (by intro _ _ _ h; exact h) (Or.inl ⟨by rfl, ?_⟩) (by assumption) ?_
                  rotate_left
                  focus (intro wT hT; (try dsimp only at hT); go_simp; try with_reducible rfl)
                  try simp only [Act.put, List.setIfInBounds_toArray, List.set_cons_zero, List.set_cons_succ]
                  refine wpAnyH_take (i := 10) (v := ?_) (by simp only [List.getElem?_toArray, List.getElem?_cons_succ, List.getElem?_cons_zero]; rfl) (by kernel_rfl) (by kernel_rfl) (by kernel_rfl) (by intro _ _ _ h; exact h) (Or.inl ⟨by rfl, ?_⟩) (by assumption) ?_
                  rotate_left
                  focus (intro wT hT; (try dsimp only at hT); go_simp; try with_reducible rfl)
                  try simp only [Act.put, List.setIfInBounds_toArray, List.set_cons_zero, List.set_cons_succ]
                  refine wpAnyH_ready (rs := [2]) (by kernel_rfl) (by simp) (AllReadyH.cons (by simp only [List.getElem?_toArray, List.getElem?_cons_succ, List.getElem?_cons_zero]; rfl) (fun K hK => ?_) AllReadyH.nil)
                  go_simp
                  go_at_call 15; refine (tenant_any kd tn s id x y z at_ _ htn).mono ?_; rintro e wT ⟨rfl, hbT⟩; have hbwT : Below w7.heap.size w7 wT := ((Below.refl w7.heap.size w7).drew).trans hbT; clear c0 c1 c2 c3 c4 c5 c6 c7; obtain ⟨c0, c1, c2, c3, c4, c5, c6, c7⟩ := actB (HXA7.out.older hbwT)
                  go_wp2_with fail
                  refine hK.out _ _ (by exact ⟨c0, c1, c2, c3, c4, c5, c6, c7⟩) (fun hHe2 => ?_)
                  clear hK K
                  try simp only [Act.put, List.setIfInBounds_toArray, List.set_cons_zero, List.set_cons_succ]
                  refine wpAnyH_ready (rs := [11]) (by kernel_rfl) (by simp) (AllReadyH.cons (by simp only [List.getElem?_toArray, List.getElem?_cons_succ, List.getElem?_cons_zero]; rfl) (fun K hK => ?_) AllReadyH.nil)
                  go_simp
                  go_at_call 9; refine (secret_any s _ hsn).mono ?_; rintro e wS ⟨rfl, hbS⟩; have hbwS : Below w7.heap.size w7 wS := hbwT.trans (hbS.mono hbwT.size); clear c0 c1 c2 c3 c4 c5 c6 c7; obtain ⟨c0, c1, c2, c3, c4, c5, c6, c7⟩ := actB (HXA7.out.older hbwS)
                  go_wp2_with fail
                  refine hK.out _ _ (by exact ⟨c0, c1, c2, c3, c4, c5, c6, c7⟩) (fun hHe3 => ?_)
                  clear hK K
                  try simp only [Act.put, List.setIfInBounds_toArray, List.set_cons_zero, List.set_cons_succ]
                  refine wpAnyH_ready (rs := [12]) (by kernel_rfl) (by simp) (AllReadyH.cons (by simp only [List.getElem?_toArray, List.getElem?_cons_succ, List.getElem?_cons_zero]; rfl) (fun K hK => ?_) AllReadyH.nil)
                  go_simp
                  refine hK.out _ _ (by exact ⟨keepC (A1.bworld_below _ _) c0, keepC (A1.bworld_below _ _) c1, keepC (A1.bworld_below _ _) c2, keepC (A1.bworld_below _ _) c3, keepC (A1.bworld_below _ _) c4, keepC (A1.bworld_below _ _) c5, keepC (A1.bworld_below _ _) c6, keepC (A1.bworld_below _ _) c7⟩) (fun hHe4 => ?_)
                  clear hK K
                  try simp only [Act.put, List.setIfInBounds_toArray, List.set_cons_zero, List.set_cons_succ]
                  refine wpAnyH_ready (rs := [13]) (by kernel_rfl) (by simp) (AllReadyH.cons (by simp only [List.getElem?_toArray, List.getElem?_cons_succ, List.getElem?_cons_zero]; rfl) (fun K hK => ?_) AllReadyH.nil)
                  go_simp
                  have hbwB : Below w7.heap.size w7 (A1.bworld wS (secN s)) := hbwS.trans ((A1.bworld_below wS (secN s)).mono hbwS.size); have HTS := Lib.hid (HT7.out.older hbwB); have HXAS := Lib.hid (HXA7.out.older hbwB); have HXLS := Lib.hid (HXL7.out.older hbwB); have HXSS := Lib.hid (HXS7.out.older hbwB); go_at_call 10; refine (rotate_any w.heap.size (w1.heap.size + 1) (tenB tn) x y z (secN s) (some ⟨wS.heap.size, 0, none⟩) (A1.bcap wS (secN s)) Va Ea _ HTS.out.ra HTS.out.bel.size (by omega) (bytesAt_src (A1.bytesAt_new wS (secN s)))).mono ?_; rintro e w8 ⟨V8, E8, rfl, hd8, hst8⟩; have HT8 := Lib.hid (Two.step HTS.out hd8); have HXA8 := Lib.hid (hd8.goes.bx HTS.out.ra HXAS.out (by decide) (by decide) (by decide)); have HXL8 := Lib.hid (hd8.goes.bx HTS.out.ra HXLS.out (by decide) (by decide) (by decide)); have HXS8 := Lib.hid (hd8.goes.bx HTS.out.ra HXSS.out (by decide) (by decide) (by decide)); have HST8 := Lib.hid hst8; clear hd8 hst8; clear c0 c1 c2 c3 c4 c5 c6 c7; obtain ⟨c0, c1, c2, c3, c4, c5, c6, c7⟩ := actB (HXA8.out)
                  go_wp2_with fail
                  refine hK.out _ _ (by exact ⟨c0, c1, c2, c3, c4, c5, c6, c7⟩) (fun hHe5 => ?_)
                  clear hK K
                  try simp only [Act.put, List.setIfInBounds_toArray, List.set_cons_zero, List.set_cons_succ]
                  refine wpAnyH_done (by kernel_rfl) ?_ _
                  go_wp2_with fail
                  go_roundg (gk - 1)
                  case rel => exact ⟨1, by go_num, .inr (.inl rfl), Lib.hid (by have := HQ2.out; omega), ⟨V8, E8, Vo, Eo, HT8.out, bnd_step HBX.out (stepK_rot (id := id) h34 HST8.out) hsl6, HBO.out, keys_step HKX.out (stepK_rot (id := id) h34 HST8.out), HKO.out⟩, HXL8.out, HXA8.out, HXS8.out⟩
                  case measure => have := HQ2.out; omega
              · have e3 : ((kd : Int) % 6 == 3) = false := beq_eq_false_iff_ne.2 (by rw [HMOD.out]; omega)
                have e4 : ((kd : Int) % 6 == 4) = false := beq_eq_false_iff_ne.2 (by rw [HMOD.out]; omega)
                have H2 := Lib.hid h2
                have H34 := Lib.hid h34
                clear h2 h34
                go_wp2_with fail
                refine wp_region_held_drew (S := fun w' => w'.cell? ⟨qa, 0, none⟩ = some (.int .u8 (kd : Int)) ∧ w'.cell? ⟨qa, 1, none⟩ = some (.int .u8 (tn : Int)) ∧ w'.cell? ⟨qa, 2, none⟩ = some (.int .u8 (s : Int)) ∧ w'.cell? ⟨qa, 3, none⟩ = some (.string ⟨id.toArray⟩) ∧ w'.cell? ⟨qa, 4, none⟩ = some (.int .i64 x) ∧ w'.cell? ⟨qa, 5, none⟩ = some (.int .i64 y) ∧ w'.cell? ⟨qa, 6, none⟩ = some (.int .i64 z) ∧ w'.cell? ⟨qa, 7, none⟩ = some (.int .i64 at_)) (by kernel_rfl) (by exact ⟨c0, c1, c2, c3, c4, c5, c6, c7⟩) (fun hHeld => ?_)
                refine wpAnyH_take (i := 0) (v := ?_) (by simp only [List.getElem?_toArray, List.getElem?_cons_succ, List.getElem?_cons_zero]; rfl) (by kernel_rfl) (by kernel_rfl) (by kernel_rfl) (by intro _ _ _ h; exact h) (Or.inl ⟨by rfl, ?_⟩) (by assumption) ?_
                rotate_left
                focus (intro wT hT; (try dsimp only at hT); go_simp; try with_reducible rfl)
                try simp only [Act.put, List.setIfInBounds_toArray, List.set_cons_zero, List.set_cons_succ]
                refine wpAnyH_take (i := 1) (v := ?_) (by simp only [List.getElem?_toArray, List.getElem?_cons_succ, List.getElem?_cons_zero]; rfl) (by kernel_rfl) (by kernel_rfl) (by kernel_rfl) (by intro _ _ _ h; exact h) (Or.inl ⟨by rfl, ?_⟩) (by assumption) ?_
                rotate_left
                focus (intro wT hT; (try dsimp only at hT); go_simp; try with_reducible rfl)
                try simp only [Act.put, List.setIfInBounds_toArray, List.set_cons_zero, List.set_cons_succ]
                refine wpAnyH_take (i := 3) (v := ?_) (by simp only [List.getElem?_toArray, List.getElem?_cons_succ, List.getElem?_cons_zero]; rfl) (by kernel_rfl) (by kernel_rfl) (by kernel_rfl) (by intro _ _ _ h; exact h) (Or.inl ⟨by rfl, ?_⟩) (by assumption) ?_
                rotate_left
                focus (intro wT hT; (try dsimp only at hT); go_simp; try with_reducible rfl)
                try simp only [Act.put, List.setIfInBounds_toArray, List.set_cons_zero, List.set_cons_succ]
                refine wpAnyH_take (i := 4) (v := ?_) (by simp only [List.getElem?_toArray, List.getElem?_cons_succ, List.getElem?_cons_zero]; rfl) (by kernel_rfl) (by kernel_rfl) (by kernel_rfl) (by intro _ _ _ h; exact h) (Or.inl ⟨by rfl, ?_⟩) (by assumption) ?_
                rotate_left
                focus (intro wT hT; (try dsimp only at hT); go_simp; try with_reducible rfl)
                try simp only [Act.put, List.setIfInBounds_toArray, List.set_cons_zero, List.set_cons_succ]
                refine wpAnyH_take (i := 5) (v := ?_) (by simp only [List.getElem?_toArray, List.getElem?_cons_succ, List.getElem?_cons_zero]; rfl) (by kernel_rfl) (by kernel_rfl) (by kernel_rfl) (by intro _ _ _ h; exact h) (Or.inl ⟨by rfl, ?_⟩) (by assumption) ?_
                rotate_left
                focus (intro wT hT; (try dsimp only at hT); go_simp; try with_reducible rfl)
                try simp only [Act.put, List.setIfInBounds_toArray, List.set_cons_zero, List.set_cons_succ]
                refine wpAnyH_take (i := 6) (v := ?_) (by simp only [List.getElem?_toArray, List.getElem?_cons_succ, List.getElem?_cons_zero]; rfl) (by kernel_rfl) (by kernel_rfl) (by kernel_rfl) (by intro _ _ _ h; exact h) (Or.inl ⟨by rfl, ?_⟩) (by assumption) ?_
                rotate_left
                focus (intro wT hT; (try dsimp only at hT); go_simp; try with_reducible rfl)
                try simp only [Act.put, List.setIfInBounds_toArray, List.set_cons_zero, List.set_cons_succ]
                refine wpAnyH_take (i := 9) (v := ?_) (by simp only [List.getElem?_toArray, List.getElem?_cons_succ, List.getElem?_cons_zero]; rfl) (by kernel_rfl) (by kernel_rfl) (by kernel_rfl) (by intro _ _ _ h; exact h) (Or.inl ⟨by rfl, ?_⟩) (by assumption) ?_
                rotate_left
                focus (intro wT hT; (try dsimp only at hT); go_simp; try with_reducible rfl)
                try simp only [Act.put, List.setIfInBounds_toArray, List.set_cons_zero, List.set_cons_succ]
                refine wpAnyH_take (i := 10) (v := ?_) (by simp only [List.getElem?_toArray, List.getElem?_cons_succ, List.getElem?_cons_zero]; rfl) (by kernel_rfl) (by kernel_rfl) (by kernel_rfl) (by intro _ _ _ h; exact h) (Or.inl ⟨by rfl, ?_⟩) (by assumption) ?_
                rotate_left
                focus (intro wT hT; (try dsimp only at hT); go_simp; try with_reducible rfl)
                try simp only [Act.put, List.setIfInBounds_toArray, List.set_cons_zero, List.set_cons_succ]
                refine wpAnyH_take (i := 11) (v := ?_) (by simp only [List.getElem?_toArray, List.getElem?_cons_succ, List.getElem?_cons_zero]; rfl) (by kernel_rfl) (by kernel_rfl) (by kernel_rfl) (by intro _ _ _ h; exact h) (Or.inl ⟨by rfl, ?_⟩) (by assumption) ?_
                rotate_left
                focus (intro wT hT; (try dsimp only at hT); go_simp; try with_reducible rfl)
                try simp only [Act.put, List.setIfInBounds_toArray, List.set_cons_zero, List.set_cons_succ]
                refine wpAnyH_take (i := 12) (v := ?_) (by simp only [List.getElem?_toArray, List.getElem?_cons_succ, List.getElem?_cons_zero]; rfl) (by kernel_rfl) (by kernel_rfl) (by kernel_rfl) (by intro _ _ _ h; exact h) (Or.inl ⟨by rfl, ?_⟩) (by assumption) ?_
                rotate_left
                focus (intro wT hT; (try dsimp only at hT); go_simp; try with_reducible rfl)
                try simp only [Act.put, List.setIfInBounds_toArray, List.set_cons_zero, List.set_cons_succ]
                refine wpAnyH_ready (rs := [2]) (by kernel_rfl) (by simp) (AllReadyH.cons (by simp only [List.getElem?_toArray, List.getElem?_cons_succ, List.getElem?_cons_zero]; rfl) (fun K hK => ?_) AllReadyH.nil)
                go_simp
                go_at_call 15; refine (tenant_any kd tn s id x y z at_ _ htn).mono ?_; rintro e wT ⟨rfl, hbT⟩; have hbwT : Below w7.heap.size w7 wT := ((Below.refl w7.heap.size w7).drew).trans hbT; clear c0 c1 c2 c3 c4 c5 c6 c7; obtain ⟨c0, c1, c2, c3, c4, c5, c6, c7⟩ := actB (HXA7.out.older hbwT)
                go_wp2_with fail
                refine hK.out _ _ (by exact ⟨c0, c1, c2, c3, c4, c5, c6, c7⟩) (fun hHe2 => ?_)
                clear hK K
                try simp only [Act.put, List.setIfInBounds_toArray, List.set_cons_zero, List.set_cons_succ]
                refine wpAnyH_ready (rs := [7]) (by kernel_rfl) (by simp) (AllReadyH.cons (by simp only [List.getElem?_toArray, List.getElem?_cons_succ, List.getElem?_cons_zero]; rfl) (fun K hK => ?_) AllReadyH.nil)
                go_simp
                go_at_call 9; refine (secret_any s _ hsn).mono ?_; rintro e wS ⟨rfl, hbS⟩; have hbwS : Below w7.heap.size w7 wS := hbwT.trans (hbS.mono hbwT.size); clear c0 c1 c2 c3 c4 c5 c6 c7; obtain ⟨c0, c1, c2, c3, c4, c5, c6, c7⟩ := actB (HXA7.out.older hbwS)
                go_wp2_with fail
                refine hK.out _ _ (by exact ⟨c0, c1, c2, c3, c4, c5, c6, c7⟩) (fun hHe3 => ?_)
                clear hK K
                try simp only [Act.put, List.setIfInBounds_toArray, List.set_cons_zero, List.set_cons_succ]
                refine wpAnyH_ready (rs := [8]) (by kernel_rfl) (by simp) (AllReadyH.cons (by simp only [List.getElem?_toArray, List.getElem?_cons_succ, List.getElem?_cons_zero]; rfl) (fun K hK => ?_) AllReadyH.nil)
                go_simp
                refine hK.out _ _ (by exact ⟨keepC (A1.bworld_below _ _) c0, keepC (A1.bworld_below _ _) c1, keepC (A1.bworld_below _ _) c2, keepC (A1.bworld_below _ _) c3, keepC (A1.bworld_below _ _) c4, keepC (A1.bworld_below _ _) c5, keepC (A1.bworld_below _ _) c6, keepC (A1.bworld_below _ _) c7⟩) (fun hHe4 => ?_)
                clear hK K
                try simp only [Act.put, List.setIfInBounds_toArray, List.set_cons_zero, List.set_cons_succ]
                refine wpAnyH_take (i := 13) (v := ?_) (by simp only [List.getElem?_toArray, List.getElem?_cons_succ, List.getElem?_cons_zero]; rfl) (by kernel_rfl) (by kernel_rfl) (by kernel_rfl) (by intro _ _ _ h; exact h) (Or.inl ⟨by rfl, ?_⟩) (by assumption) ?_
                rotate_left
                focus (intro wT hT; (try dsimp only at hT); go_simp; try with_reducible rfl)
                try simp only [Act.put, List.setIfInBounds_toArray, List.set_cons_zero, List.set_cons_succ]
                refine wpAnyH_ready (rs := [14]) (by kernel_rfl) (by simp) (AllReadyH.cons (by simp only [List.getElem?_toArray, List.getElem?_cons_succ, List.getElem?_cons_zero]; rfl) (fun K hK => ?_) AllReadyH.nil)
                go_simp
                have hbwB : Below w7.heap.size w7 (A1.bworld wS (secN s)) := hbwS.trans ((A1.bworld_below wS (secN s)).mono hbwS.size); have HTS := Lib.hid (HT7.out.older hbwB); have HXAS := Lib.hid (HXA7.out.older hbwB); have HXLS := Lib.hid (HXL7.out.older hbwB); have HXSS := Lib.hid (HXS7.out.older hbwB); go_at_call 8; refine (add_any w.heap.size (w1.heap.size + 1) (tenB tn) id (secN s) x y (some ⟨wS.heap.size, 0, none⟩) (A1.bcap wS (secN s)) Va Ea _ HTS.out.ra HTS.out.bel.size (by omega) (by omega) (bytesAt_src (A1.bytesAt_new wS (secN s)))).mono ?_; rintro e w8 ⟨V8, E8, rfl, hd8, hst8, _⟩; have HT8 := Lib.hid (Two.step HTS.out hd8); have HXA8 := Lib.hid (hd8.goes.bx HTS.out.ra HXAS.out (by decide) (by decide) (by decide)); have HXL8 := Lib.hid (hd8.goes.bx HTS.out.ra HXLS.out (by decide) (by decide) (by decide)); have HXS8 := Lib.hid (hd8.goes.bx HTS.out.ra HXSS.out (by decide) (by decide) (by decide)); have HST8 := Lib.hid hst8; clear hd8 hst8; clear c0 c1 c2 c3 c4 c5 c6 c7; obtain ⟨c0, c1, c2, c3, c4, c5, c6, c7⟩ := actB (HXA8.out)
                go_wp2_with fail
                refine hK.out _ _ (by exact ⟨c0, c1, c2, c3, c4, c5, c6, c7⟩) (fun hHe5 => ?_)
                clear hK K
                try simp only [Act.put, List.setIfInBounds_toArray, List.set_cons_zero, List.set_cons_succ]
                refine wpAnyH_done (by kernel_rfl) ?_ _
                go_wp2_with fail
                go_roundg (gk - 1)
                case rel => exact ⟨1, by go_num, .inr (.inl rfl), Lib.hid (by have := HQ2.out; omega), ⟨V8, E8, Vo, Eo, HT8.out, bnd_step HBX.out (stepK_add (z := z) H2.out H34.out HST8.out) hsl6, HBO.out, keys_step HKX.out (stepK_add (z := z) H2.out H34.out HST8.out), HKO.out⟩, HXL8.out, HXA8.out, HXS8.out⟩
                case measure => have := HQ2.out; omega
          · have HBO := Lib.hid (show BndE (k + 1) Ea from hba)
            have HBX := Lib.hid (show BndE k Eo from hbo)
            have HKO := Lib.hid (show keysOf Ea (tenB ltn) = _ from hka)
            have HKX := Lib.hid (show keysOf Eo (tenB ltn) = L0 from hko)
            clear hba hbo hka hko
            by_cases htt : tenB tn = tenB ltn
            · have htb : (tenB tn != tenB ltn) = false := by rw [htt]; simp
              have HTT := Lib.hid htt
              clear htt
              go_wp2_with fail
              refine wp_region_held_drew (S := fun w' => (w'.cell? ⟨qa, 0, none⟩ = some (.int .u8 (kd : Int)) ∧ w'.cell? ⟨qa, 1, none⟩ = some (.int .u8 (tn : Int)) ∧ w'.cell? ⟨qa, 2, none⟩ = some (.int .u8 (s : Int)) ∧ w'.cell? ⟨qa, 3, none⟩ = some (.string ⟨id.toArray⟩) ∧ w'.cell? ⟨qa, 4, none⟩ = some (.int .i64 x) ∧ w'.cell? ⟨qa, 5, none⟩ = some (.int .i64 y) ∧ w'.cell? ⟨qa, 6, none⟩ = some (.int .i64 z) ∧ w'.cell? ⟨qa, 7, none⟩ = some (.int .i64 at_)) ∧ w'.cell? ⟨w.heap.size, 0, none⟩ = some (.int .u8 (lkd : Int)) ∧ w'.cell? ⟨w.heap.size, 1, none⟩ = some (.int .u8 (ltn : Int)) ∧ w'.cell? ⟨w.heap.size, 2, none⟩ = some (.int .u8 (ls : Int)) ∧ w'.cell? ⟨w.heap.size, 3, none⟩ = some (.string ⟨lid.toArray⟩) ∧ w'.cell? ⟨w.heap.size, 4, none⟩ = some (.int .i64 lx) ∧ w'.cell? ⟨w.heap.size, 5, none⟩ = some (.int .i64 ly) ∧ w'.cell? ⟨w.heap.size, 6, none⟩ = some (.int .i64 lz) ∧ w'.cell? ⟨w.heap.size, 7, none⟩ = some (.int .i64 lat)) (by kernel_rfl) (by exact ⟨⟨c0, c1, c2, c3, c4, c5, c6, c7⟩, l0, l1, l2, l3, l4, l5, l6, l7⟩) (fun hHeld => ?_)
              refine wpAnyH_take (i := 0) (v := ?_) (by simp only [List.getElem?_toArray, List.getElem?_cons_succ, List.getElem?_cons_zero]; rfl) (by kernel_rfl) (by kernel_rfl) (by kernel_rfl) (by intro _ _ _ h; exact h) (Or.inl ⟨by rfl, ?_⟩) (by assumption) ?_
              rotate_left
              focus (intro wT hT; (try dsimp only at hT); go_simp; try with_reducible rfl)
              try simp only [Act.put, List.setIfInBounds_toArray, List.set_cons_zero, List.set_cons_succ]
              refine wpAnyH_take (i := 1) (v := ?_) (by simp only [List.getElem?_toArray, List.getElem?_cons_succ, List.getElem?_cons_zero]; rfl) (by kernel_rfl) (by kernel_rfl) (by kernel_rfl) (by intro _ _ _ h; exact h) (Or.inl ⟨by rfl, ?_⟩) (by assumption) ?_
              rotate_left
              focus (intro wT hT; (try dsimp only at hT); go_simp; try with_reducible rfl)
              try simp only [Act.put, List.setIfInBounds_toArray, List.set_cons_zero, List.set_cons_succ]
              refine wpAnyH_take (i := 2) (v := ?_) (by simp only [List.getElem?_toArray, List.getElem?_cons_succ, List.getElem?_cons_zero]; rfl) (by kernel_rfl) (by kernel_rfl) (by kernel_rfl) (by intro _ _ _ h; exact h) (Or.inl ⟨by rfl, ?_⟩) (by assumption) ?_
              rotate_left
              focus (intro wT hT; (try dsimp only at hT); go_simp; try with_reducible rfl)
              try simp only [Act.put, List.setIfInBounds_toArray, List.set_cons_zero, List.set_cons_succ]
              refine wpAnyH_take (i := 3) (v := ?_) (by simp only [List.getElem?_toArray, List.getElem?_cons_succ, List.getElem?_cons_zero]; rfl) (by kernel_rfl) (by kernel_rfl) (by kernel_rfl) (by intro _ _ _ h; exact h) (Or.inl ⟨by rfl, ?_⟩) (by assumption) ?_
              rotate_left
              focus (intro wT hT; (try dsimp only at hT); go_simp; try with_reducible rfl)
              try simp only [Act.put, List.setIfInBounds_toArray, List.set_cons_zero, List.set_cons_succ]
              refine wpAnyH_take (i := 5) (v := ?_) (by simp only [List.getElem?_toArray, List.getElem?_cons_succ, List.getElem?_cons_zero]; rfl) (by kernel_rfl) (by kernel_rfl) (by kernel_rfl) (by intro _ _ _ h; exact h) (Or.inl ⟨by rfl, ?_⟩) (by assumption) ?_
              rotate_left
              focus (intro wT hT; (try dsimp only at hT); go_simp; try with_reducible rfl)
              try simp only [Act.put, List.setIfInBounds_toArray, List.set_cons_zero, List.set_cons_succ]
              refine wpAnyH_ready (rs := [4]) (by kernel_rfl) (by simp) (AllReadyH.cons (by simp only [List.getElem?_toArray, List.getElem?_cons_succ, List.getElem?_cons_zero]; rfl) (fun K hK => ?_) AllReadyH.nil)
              go_simp
              go_at_call 15; refine (tenant_any kd tn s id x y z at_ _ htn).mono ?_; rintro e wT ⟨rfl, hbT⟩; have hbwT : Below wr.heap.size wr wT := ((Below.refl wr.heap.size wr).drew).trans hbT; clear c0 c1 c2 c3 c4 c5 c6 c7; clear l0 l1 l2 l3 l4 l5 l6 l7; obtain ⟨c0, c1, c2, c3, c4, c5, c6, c7⟩ := actB (HXA.out.older hbwT); obtain ⟨l0, l1, l2, l3, l4, l5, l6, l7⟩ := actB (HXL.out.older hbwT)
              go_wp2_with fail
              refine hK.out _ _ (by exact ⟨⟨c0, c1, c2, c3, c4, c5, c6, c7⟩, l0, l1, l2, l3, l4, l5, l6, l7⟩) (fun hHe2 => ?_)
              clear hK K
              try simp only [Act.put, List.setIfInBounds_toArray, List.set_cons_zero, List.set_cons_succ]
              refine wpAnyH_ready (rs := [6]) (by kernel_rfl) (by simp) (AllReadyH.cons (by simp only [List.getElem?_toArray, List.getElem?_cons_succ, List.getElem?_cons_zero]; rfl) (fun K hK => ?_) AllReadyH.nil)
              go_simp
              go_at_call 15; refine (tenant_any lkd ltn ls lid lx ly lz lat _ hltn).mono ?_; rintro e wL ⟨rfl, hbL⟩; have hbwL : Below wr.heap.size wr wL := hbwT.trans (hbL.mono hbwT.size); clear c0 c1 c2 c3 c4 c5 c6 c7; clear l0 l1 l2 l3 l4 l5 l6 l7; obtain ⟨c0, c1, c2, c3, c4, c5, c6, c7⟩ := actB (HXA.out.older hbwL); obtain ⟨l0, l1, l2, l3, l4, l5, l6, l7⟩ := actB (HXL.out.older hbwL)
              go_wp2_with fail
              refine hK.out _ _ (by exact ⟨⟨c0, c1, c2, c3, c4, c5, c6, c7⟩, l0, l1, l2, l3, l4, l5, l6, l7⟩) (fun hHe3 => ?_)
              clear hK K
              try simp only [Act.put, List.setIfInBounds_toArray, List.set_cons_zero, List.set_cons_succ]
              refine wpAnyH_take (i := 7) (v := ?_) (by simp only [List.getElem?_toArray, List.getElem?_cons_succ, List.getElem?_cons_zero]; rfl) (by kernel_rfl) (by kernel_rfl) (by kernel_rfl) (by intro _ _ _ h; exact h) (Or.inl ⟨by rfl, ?_⟩) (by assumption) ?_
              rotate_left
              focus (intro wT hT; (try dsimp only at hT); go_simp; try with_reducible rfl)
              try simp only [Act.put, List.setIfInBounds_toArray, List.set_cons_zero, List.set_cons_succ]
              refine wpAnyH_take (i := 8) (v := ?_) (by simp only [List.getElem?_toArray, List.getElem?_cons_succ, List.getElem?_cons_zero]; rfl) (by kernel_rfl) (by kernel_rfl) (by kernel_rfl) (by intro _ _ _ h; exact h) (Or.inl ⟨by rfl, ?_⟩) (by assumption) ?_
              rotate_left
              focus (intro wT hT; (try dsimp only at hT); go_simp; try with_reducible rfl)
              try simp only [Act.put, List.setIfInBounds_toArray, List.set_cons_zero, List.set_cons_succ]
              refine wpAnyH_done (by kernel_rfl) ?_ _
              have HT7 := Lib.hid (HT.out.older hbwL).symm
              have HXA7 := Lib.hid (HXA.out.older hbwL)
              have HXL7 := Lib.hid (HXL.out.older hbwL)
              have HXS7 := Lib.hid (HXS.out.older hbwL)
              obtain ⟨w7, hw7⟩ : ∃ w7, wL = w7 := ⟨_, rfl⟩
              rw [hw7] at HT7 HXA7 HXL7 HXS7 ⊢
              clear hw7 hbwL hbwT hbT hbL c0 c1 c2 c3 c4 c5 c6 c7 l0 l1 l2 l3 l4 l5 l6 l7 p0 p1
              have hbx := HBX.out (tenB tn)
              have htl : (tlK Eo (tenB tn)).length ≤ k := by have h9 := hbx.1; unfold keysOf at h9; rw [List.length_map] at h9; exact h9
              clear hbx
              obtain ⟨c0, c1, c2, c3, c4, c5, c6, c7⟩ := actB (HXA7.out)
              by_cases h2 : m6 = 2
              · have e2 : ((kd : Int) % 6 == 2) = true := beq_iff_eq.2 (by rw [HMOD.out, h2]; rfl)
                go_wp2_with fail
                refine wp_region_held_drew (S := fun w' => w'.cell? ⟨qa, 0, none⟩ = some (.int .u8 (kd : Int)) ∧ w'.cell? ⟨qa, 1, none⟩ = some (.int .u8 (tn : Int)) ∧ w'.cell? ⟨qa, 2, none⟩ = some (.int .u8 (s : Int)) ∧ w'.cell? ⟨qa, 3, none⟩ = some (.string ⟨id.toArray⟩) ∧ w'.cell? ⟨qa, 4, none⟩ = some (.int .i64 x) ∧ w'.cell? ⟨qa, 5, none⟩ = some (.int .i64 y) ∧ w'.cell? ⟨qa, 6, none⟩ = some (.int .i64 z) ∧ w'.cell? ⟨qa, 7, none⟩ = some (.int .i64 at_)) (by kernel_rfl) (by exact ⟨c0, c1, c2, c3, c4, c5, c6, c7⟩) (fun hHeld => ?_)
                refine wpAnyH_take (i := 0) (v := ?_) (by simp only [List.getElem?_toArray, List.getElem?_cons_succ, List.getElem?_cons_zero]; rfl) (by kernel_rfl) (by kernel_rfl) (by kernel_rfl) (by intro _ _ _ h; exact h) (Or.inl ⟨by rfl, ?_⟩) (by assumption) ?_
                rotate_left
                focus (intro wT hT; (try dsimp only at hT); go_simp; try with_reducible rfl)
                try simp only [Act.put, List.setIfInBounds_toArray, List.set_cons_zero, List.set_cons_succ]
                refine wpAnyH_take (i := 1) (v := ?_) (by simp only [List.getElem?_toArray, List.getElem?_cons_succ, List.getElem?_cons_zero]; rfl) (by kernel_rfl) (by kernel_rfl) (by kernel_rfl) (by intro _ _ _ h; exact h) (Or.inl ⟨by rfl, ?_⟩) (by assumption) ?_
                rotate_left
                focus (intro wT hT; (try dsimp only at hT); go_simp; try with_reducible rfl)
                try simp only [Act.put, List.setIfInBounds_toArray, List.set_cons_zero, List.set_cons_succ]
                refine wpAnyH_take (i := 3) (v := ?_) (by simp only [List.getElem?_toArray, List.getElem?_cons_succ, List.getElem?_cons_zero]; rfl) (by kernel_rfl) (by kernel_rfl) (by kernel_rfl) (by intro _ _ _ h; exact h) (Or.inl ⟨by rfl, ?_⟩) (by assumption) ?_
                rotate_left
                focus (intro wT hT; (try dsimp only at hT); go_simp; try with_reducible rfl)
                try simp only [Act.put, List.setIfInBounds_toArray, List.set_cons_zero, List.set_cons_succ]
                refine wpAnyH_take (i := 4) (v := ?_) (by simp only [List.getElem?_toArray, List.getElem?_cons_succ, List.getElem?_cons_zero]; rfl) (by kernel_rfl) (by kernel_rfl) (by kernel_rfl) (by intro _ _ _ h; exact h) (Or.inl ⟨by rfl, ?_⟩) (by assumption) ?_
                rotate_left
                focus (intro wT hT; (try dsimp only at hT); go_simp; try with_reducible rfl)
                try simp only [Act.put, List.setIfInBounds_toArray, List.set_cons_zero, List.set_cons_succ]
                refine wpAnyH_take (i := 5) (v := ?_) (by simp only [List.getElem?_toArray, List.getElem?_cons_succ, List.getElem?_cons_zero]; rfl) (by kernel_rfl) (by kernel_rfl) (by kernel_rfl) (by intro _ _ _ h; exact h) (Or.inl ⟨by rfl, ?_⟩) (by assumption) ?_
                rotate_left
                focus (intro wT hT; (try dsimp only at hT); go_simp; try with_reducible rfl)
                try simp only [Act.put, List.setIfInBounds_toArray, List.set_cons_zero, List.set_cons_succ]
                refine wpAnyH_take (i := 6) (v := ?_) (by simp only [List.getElem?_toArray, List.getElem?_cons_succ, List.getElem?_cons_zero]; rfl) (by kernel_rfl) (by kernel_rfl) (by kernel_rfl) (by intro _ _ _ h; exact h) (Or.inl ⟨by rfl, ?_⟩) (by assumption) ?_
                rotate_left
                focus (intro wT hT; (try dsimp only at hT); go_simp; try with_reducible rfl)
                try simp only [Act.put, List.setIfInBounds_toArray, List.set_cons_zero, List.set_cons_succ]
                refine wpAnyH_ready (rs := [2]) (by kernel_rfl) (by simp) (AllReadyH.cons (by simp only [List.getElem?_toArray, List.getElem?_cons_succ, List.getElem?_cons_zero]; rfl) (fun K hK => ?_) AllReadyH.nil)
                go_simp
                go_at_call 15; refine (tenant_any kd tn s id x y z at_ _ htn).mono ?_; rintro e wT ⟨rfl, hbT⟩; have hbwT : Below w7.heap.size w7 wT := ((Below.refl w7.heap.size w7).drew).trans hbT; clear c0 c1 c2 c3 c4 c5 c6 c7; obtain ⟨c0, c1, c2, c3, c4, c5, c6, c7⟩ := actB (HXA7.out.older hbwT)
                go_wp2_with fail
                refine hK.out _ _ (by exact ⟨c0, c1, c2, c3, c4, c5, c6, c7⟩) (fun hHe2 => ?_)
                clear hK K
                try simp only [Act.put, List.setIfInBounds_toArray, List.set_cons_zero, List.set_cons_succ]
                refine wpAnyH_ready (rs := [7]) (by kernel_rfl) (by simp) (AllReadyH.cons (by simp only [List.getElem?_toArray, List.getElem?_cons_succ, List.getElem?_cons_zero]; rfl) (fun K hK => ?_) AllReadyH.nil)
                go_simp
                have HTS := Lib.hid (HT7.out.older hbwT); have HXAS := Lib.hid (HXA7.out.older hbwT); have HXLS := Lib.hid (HXL7.out.older hbwT); have HXSS := Lib.hid (HXS7.out.older hbwT); go_at_call 18; refine (revoke_any w.heap.size w1.heap.size (tenB tn) id x Vo Eo _ HTS.out.ra (by omega)).mono ?_; rintro e w8 ⟨E8, rfl, hd8, hst8⟩; have HT8 := Lib.hid (Two.step HTS.out hd8); have HXA8 := Lib.hid (hd8.goes.bx HTS.out.ra HXAS.out (by decide) (by decide) (by decide)); have HXL8 := Lib.hid (hd8.goes.bx HTS.out.ra HXLS.out (by decide) (by decide) (by decide)); have HXS8 := Lib.hid (hd8.goes.bx HTS.out.ra HXSS.out (by decide) (by decide) (by decide)); have HST8 := Lib.hid hst8; clear hd8 hst8; clear c0 c1 c2 c3 c4 c5 c6 c7; obtain ⟨c0, c1, c2, c3, c4, c5, c6, c7⟩ := actB (HXA8.out)
                go_wp2_with fail
                refine hK.out _ _ (by exact ⟨c0, c1, c2, c3, c4, c5, c6, c7⟩) (fun hHe3 => ?_)
                clear hK K
                try simp only [Act.put, List.setIfInBounds_toArray, List.set_cons_zero, List.set_cons_succ]
                refine wpAnyH_done (by kernel_rfl) ?_ _
                go_wp2_with fail
                go_roundg (gk - 1)
                case rel => exact ⟨2, by go_num, .inr (.inr rfl), Lib.hid (by have := HQ2.out; omega), ⟨Va, Ea, Vo, E8, HT8.out.symm, HBO.out, bnd_step HBX.out (stepK_rev (sec := secN s) (y := y) (z := z) h2 HST8.out) hsl6, HKO.out, keys_step HKX.out (stepK_rev (sec := secN s) (y := y) (z := z) h2 HST8.out)⟩, HXL8.out, HXA8.out, HXS8.out⟩
                case measure => have := HQ2.out; omega
              · have e2 : ((kd : Int) % 6 == 2) = false := beq_eq_false_iff_ne.2 (by rw [HMOD.out]; omega)
                by_cases h34 : m6 = 3 ∨ m6 = 4
                · by_cases h3 : m6 = 3
                  · have e3 : ((kd : Int) % 6 == 3) = true := beq_iff_eq.2 (by rw [HMOD.out, h3]; rfl)
                    clear h2 h3
                    go_wp2_with fail
                    refine wp_region_held_drew (S := fun w' => w'.cell? ⟨qa, 0, none⟩ = some (.int .u8 (kd : Int)) ∧ w'.cell? ⟨qa, 1, none⟩ = some (.int .u8 (tn : Int)) ∧ w'.cell? ⟨qa, 2, none⟩ = some (.int .u8 (s : Int)) ∧ w'.cell? ⟨qa, 3, none⟩ = some (.string ⟨id.toArray⟩) ∧ w'.cell? ⟨qa, 4, none⟩ = some (.int .i64 x) ∧ w'.cell? ⟨qa, 5, none⟩ = some (.int .i64 y) ∧ w'.cell? ⟨qa, 6, none⟩ = some (.int .i64 z) ∧ w'.cell? ⟨qa, 7, none⟩ = some (.int .i64 at_)) (by kernel_rfl) (by exact ⟨c0, c1, c2, c3, c4, c5, c6, c7⟩) (fun hHeld => ?_)
                    refine wpAnyH_take (i := 0) (v := ?_) (by simp only [List.getElem?_toArray, List.getElem?_cons_succ, List.getElem?_cons_zero]; rfl) (by kernel_rfl) (by kernel_rfl) (by kernel_rfl) (by intro _ _ _ h; exact h) (Or.inl ⟨by rfl, ?_⟩) (by assumption) ?_
                    rotate_left
                    focus (intro wT hT; (try dsimp only at hT); go_simp; try with_reducible rfl)
                    try simp only [Act.put, List.setIfInBounds_toArray, List.set_cons_zero, List.set_cons_succ]
                    refine wpAnyH_take (i := 1) (v := ?_) (by simp only [List.getElem?_toArray, List.getElem?_cons_succ, List.getElem?_cons_zero]; rfl) (by kernel_rfl) (by kernel_rfl) (by kernel_rfl) (by intro _ _ _ h; exact h) (Or.inl ⟨by rfl, ?_⟩) (by assumption) ?_
                    rotate_left
                    focus (intro wT hT; (try dsimp only at hT); go_simp; try with_reducible rfl)
                    try simp only [Act.put, List.setIfInBounds_toArray, List.set_cons_zero, List.set_cons_succ]
                    refine wpAnyH_take (i := 3) (v := ?_) (by simp only [List.getElem?_toArray, List.getElem?_cons_succ, List.getElem?_cons_zero]; rfl) (by kernel_rfl) (by kernel_rfl) (by kernel_rfl) (by intro _ _ _ h; exact h) (Or.inl ⟨by rfl, ?_⟩) (by assumption) ?_
                    rotate_left
                    focus (intro wT hT; (try dsimp only at hT); go_simp; try with_reducible rfl)
                    try simp only [Act.put, List.setIfInBounds_toArray, List.set_cons_zero, List.set_cons_succ]
                    refine wpAnyH_take (i := 4) (v := ?_) (by simp only [List.getElem?_toArray, List.getElem?_cons_succ, List.getElem?_cons_zero]; rfl) (by kernel_rfl) (by kernel_rfl) (by kernel_rfl) (by intro _ _ _ h; exact h) (Or.inl ⟨by rfl, ?_⟩) (by assumption) ?_
                    rotate_left
                    focus (intro wT hT; (try dsimp only at hT); go_simp; try with_reducible rfl)
                    try simp only [Act.put, List.setIfInBounds_toArray, List.set_cons_zero, List.set_cons_succ]
                    refine wpAnyH_take (i := 5) (v := ?_) (by simp only [List.getElem?_toArray, List.getElem?_cons_succ, List.getElem?_cons_zero]; rfl) (by kernel_rfl) (by kernel_rfl) (by kernel_rfl) (by intro _ _ _ h; exact h) (Or.inl ⟨by rfl, ?_⟩) (by assumption) ?_
                    rotate_left
                    focus (intro wT hT; (try dsimp only at hT); go_simp; try with_reducible rfl)
                    try simp only [Act.put, List.setIfInBounds_toArray, List.set_cons_zero, List.set_cons_succ]
                    refine wpAnyH_take (i := 6) (v := ?_) (by simp only [List.getElem?_toArray, List.getElem?_cons_succ, List.getElem?_cons_zero]; rfl) (by kernel_rfl) (by kernel_rfl) (by kernel_rfl) (by intro _ _ _ h; exact h) (Or.inl ⟨by rfl, ?_⟩) (by assumption) ?_
                    rotate_left
                    focus (intro wT hT; (try dsimp only at hT); go_simp; try with_reducible rfl)
                    try simp only [Act.put, List.setIfInBounds_toArray, List.set_cons_zero, List.set_cons_succ]
                    refine wpAnyH_take (i := 7) (v := ?_) (by simp only [List.getElem?_toArray, List.getElem?_cons_succ, List.getElem?_cons_zero]; rfl) (by kernel_rfl) (by kernel_rfl) (by kernel_rfl) (by intro _ _ _ h; exact h) (Or.inl ⟨by rfl, ?_⟩) (by assumption) ?_
                    rotate_left
                    focus (intro wT hT; (try dsimp only at hT); go_simp; try with_reducible rfl)
                    try simp only [Act.put, List.setIfInBounds_toArray, List.set_cons_zero, List.set_cons_succ]
                    refine wpAnyH_take (i := 8) (v := ?_) (by simp only [List.getElem?_toArray, List.getElem?_cons_succ, List.getElem?_cons_zero]; rfl) (by kernel_rfl) (by kernel_rfl) (by kernel_rfl) (by intro _ _ _ h; exact h) (Or.inl ⟨by rfl, ?_⟩) (by assumption) ?_
                    rotate_left
                    focus (intro wT hT; (try dsimp only at hT); go_simp; try with_reducible rfl)
                    try simp only [Act.put, List.setIfInBounds_toArray, List.set_cons_zero, List.set_cons_succ]
                    refine wpAnyH_take (i := 9) (v := ?_) (by simp only [List.getElem?_toArray, List.getElem?_cons_succ, List.getElem?_cons_zero]; rfl) (by kernel_rfl) (by kernel_rfl) (by kernel_rfl) (by intro _ _ _ h; exact h) (Or.inl ⟨by rfl, ?_⟩) (by assumption) ?_
                    rotate_left
                    focus (intro wT hT; (try dsimp only at hT); go_simp; try with_reducible rfl)
                    try simp only [Act.put, List.setIfInBounds_toArray, List.set_cons_zero, List.set_cons_succ]
                    refine wpAnyH_take (i := 10) (v := ?_) (by simp only [List.getElem?_toArray, List.getElem?_cons_succ, List.getElem?_cons_zero]; rfl) (by kernel_rfl) (by kernel_rfl) (by kernel_rfl) (by intro _ _ _ h; exact h) (Or.inl ⟨by rfl, ?_⟩) (by assumption) ?_
                    rotate_left
                    focus (intro wT hT; (try dsimp only at hT); go_simp; try with_reducible rfl)
                    try simp only [Act.put, List.setIfInBounds_toArray, List.set_cons_zero, List.set_cons_succ]
                    refine wpAnyH_ready (rs := [2]) (by kernel_rfl) (by simp) (AllReadyH.cons (by simp only [List.getElem?_toArray, List.getElem?_cons_succ, List.getElem?_cons_zero]; rfl) (fun K hK => ?_) AllReadyH.nil)
                    go_simp
                    go_at_call 15; refine (tenant_any kd tn s id x y z at_ _ htn).mono ?_; rintro e wT ⟨rfl, hbT⟩; have hbwT : Below w7.heap.size w7 wT := ((Below.refl w7.heap.size w7).drew).trans hbT; clear c0 c1 c2 c3 c4 c5 c6 c7; obtain ⟨c0, c1, c2, c3, c4, c5, c6, c7⟩ := actB (HXA7.out.older hbwT)
                    go_wp2_with fail
                    refine hK.out _ _ (by exact ⟨c0, c1, c2, c3, c4, c5, c6, c7⟩) (fun hHe2 => ?_)
                    clear hK K
                    try simp only [Act.put, List.setIfInBounds_toArray, List.set_cons_zero, List.set_cons_succ]
                    refine wpAnyH_ready (rs := [11]) (by kernel_rfl) (by simp) (AllReadyH.cons (by simp only [List.getElem?_toArray, List.getElem?_cons_succ, List.getElem?_cons_zero]; rfl) (fun K hK => ?_) AllReadyH.nil)
                    go_simp
                    go_at_call 9; refine (secret_any s _ hsn).mono ?_; rintro e wS ⟨rfl, hbS⟩; have hbwS : Below w7.heap.size w7 wS := hbwT.trans (hbS.mono hbwT.size); clear c0 c1 c2 c3 c4 c5 c6 c7; obtain ⟨c0, c1, c2, c3, c4, c5, c6, c7⟩ := actB (HXA7.out.older hbwS)
                    go_wp2_with fail
                    refine hK.out _ _ (by exact ⟨c0, c1, c2, c3, c4, c5, c6, c7⟩) (fun hHe3 => ?_)
                    clear hK K
                    try simp only [Act.put, List.setIfInBounds_toArray, List.set_cons_zero, List.set_cons_succ]
                    refine wpAnyH_ready (rs := [12]) (by kernel_rfl) (by simp) (AllReadyH.cons (by simp only [List.getElem?_toArray, List.getElem?_cons_succ, List.getElem?_cons_zero]; rfl) (fun K hK => ?_) AllReadyH.nil)
                    go_simp
                    refine hK.out _ _ (by exact ⟨keepC (A1.bworld_below _ _) c0, keepC (A1.bworld_below _ _) c1, keepC (A1.bworld_below _ _) c2, keepC (A1.bworld_below _ _) c3, keepC (A1.bworld_below _ _) c4, keepC (A1.bworld_below _ _) c5, keepC (A1.bworld_below _ _) c6, keepC (A1.bworld_below _ _) c7⟩) (fun hHe4 => ?_)
                    clear hK K
                    try simp only [Act.put, List.setIfInBounds_toArray, List.set_cons_zero, List.set_cons_succ]
                    refine wpAnyH_ready (rs := [13]) (by kernel_rfl) (by simp) (AllReadyH.cons (by simp only [List.getElem?_toArray, List.getElem?_cons_succ, List.getElem?_cons_zero]; rfl) (fun K hK => ?_) AllReadyH.nil)
                    go_simp
                    have hbwB : Below w7.heap.size w7 (A1.bworld wS (secN s)) := hbwS.trans ((A1.bworld_below wS (secN s)).mono hbwS.size); have HTS := Lib.hid (HT7.out.older hbwB); have HXAS := Lib.hid (HXA7.out.older hbwB); have HXLS := Lib.hid (HXL7.out.older hbwB); have HXSS := Lib.hid (HXS7.out.older hbwB); go_at_call 10; refine (rotate_any w.heap.size w1.heap.size (tenB tn) x y z (secN s) (some ⟨wS.heap.size, 0, none⟩) (A1.bcap wS (secN s)) Vo Eo _ HTS.out.ra HTS.out.bel.size (by omega) (bytesAt_src (A1.bytesAt_new wS (secN s)))).mono ?_; rintro e w8 ⟨V8, E8, rfl, hd8, hst8⟩; have HT8 := Lib.hid (Two.step HTS.out hd8); have HXA8 := Lib.hid (hd8.goes.bx HTS.out.ra HXAS.out (by decide) (by decide) (by decide)); have HXL8 := Lib.hid (hd8.goes.bx HTS.out.ra HXLS.out (by decide) (by decide) (by decide)); have HXS8 := Lib.hid (hd8.goes.bx HTS.out.ra HXSS.out (by decide) (by decide) (by decide)); have HST8 := Lib.hid hst8; clear hd8 hst8; clear c0 c1 c2 c3 c4 c5 c6 c7; obtain ⟨c0, c1, c2, c3, c4, c5, c6, c7⟩ := actB (HXA8.out)
                    go_wp2_with fail
                    refine hK.out _ _ (by exact ⟨c0, c1, c2, c3, c4, c5, c6, c7⟩) (fun hHe5 => ?_)
                    clear hK K
                    try simp only [Act.put, List.setIfInBounds_toArray, List.set_cons_zero, List.set_cons_succ]
                    refine wpAnyH_done (by kernel_rfl) ?_ _
                    go_wp2_with fail
                    go_roundg (gk - 1)
                    case rel => exact ⟨2, by go_num, .inr (.inr rfl), Lib.hid (by have := HQ2.out; omega), ⟨Va, Ea, V8, E8, HT8.out.symm, HBO.out, bnd_step HBX.out (stepK_rot (id := id) h34 HST8.out) hsl6, HKO.out, keys_step HKX.out (stepK_rot (id := id) h34 HST8.out)⟩, HXL8.out, HXA8.out, HXS8.out⟩
                    case measure => have := HQ2.out; omega
                  · have e3 : ((kd : Int) % 6 == 3) = false := beq_eq_false_iff_ne.2 (by rw [HMOD.out]; omega)
                    have e4 : ((kd : Int) % 6 == 4) = true := beq_iff_eq.2 (by rw [HMOD.out]; omega)
                    clear h2 h3
                    go_wp2_with fail
                    refine wp_region_held_drew (S := fun w' => w'.cell? ⟨qa, 0, none⟩ = some (.int .u8 (kd : Int)) ∧ w'.cell? ⟨qa, 1, none⟩ = some (.int .u8 (tn : Int)) ∧ w'.cell? ⟨qa, 2, none⟩ = some (.int .u8 (s : Int)) ∧ w'.cell? ⟨qa, 3, none⟩ = some (.string ⟨id.toArray⟩) ∧ w'.cell? ⟨qa, 4, none⟩ = some (.int .i64 x) ∧ w'.cell? ⟨qa, 5, none⟩ = some (.int .i64 y) ∧ w'.cell? ⟨qa, 6, none⟩ = some (.int .i64 z) ∧ w'.cell? ⟨qa, 7, none⟩ = some (.int .i64 at_)) (by kernel_rfl) (by exact ⟨c0, c1, c2, c3, c4, c5, c6, c7⟩) (fun hHeld => ?_)
                    refine wpAnyH_take (i := 0) (v := ?_) (by simp only [List.getElem?_toArray, List.getElem?_cons_succ, List.getElem?_cons_zero]; rfl) (by kernel_rfl) (by kernel_rfl) (by kernel_rfl) (by intro _ _ _ h; exact h) (Or.inl ⟨by rfl, ?_⟩) (by assumption) ?_
                    rotate_left
                    focus (intro wT hT; (try dsimp only at hT); go_simp; try with_reducible rfl)
                    try simp only [Act.put, List.setIfInBounds_toArray, List.set_cons_zero, List.set_cons_succ]
                    refine wpAnyH_take (i := 1) (v := ?_) (by simp only [List.getElem?_toArray, List.getElem?_cons_succ, List.getElem?_cons_zero]; rfl) (by kernel_rfl) (by kernel_rfl) (by kernel_rfl) (by intro _ _ _ h; exact h) (Or.inl ⟨by rfl, ?_⟩) (by assumption) ?_
                    rotate_left
                    focus (intro wT hT; (try dsimp only at hT); go_simp; try with_reducible rfl)
                    try simp only [Act.put, List.setIfInBounds_toArray, List.set_cons_zero, List.set_cons_succ]
                    refine wpAnyH_take (i := 3) (v := ?_) (by simp only [List.getElem?_toArray, List.getElem?_cons_succ, List.getElem?_cons_zero]; rfl) (by kernel_rfl) (by kernel_rfl) (by kernel_rfl) (by intro _ _ _ h; exact h) (Or.inl ⟨by rfl, ?_⟩) (by assumption) ?_
                    rotate_left
                    focus (intro wT hT; (try dsimp only at hT); go_simp; try with_reducible rfl)
                    try simp only [Act.put, List.setIfInBounds_toArray, List.set_cons_zero, List.set_cons_succ]
                    refine wpAnyH_take (i := 4) (v := ?_) (by simp only [List.getElem?_toArray, List.getElem?_cons_succ, List.getElem?_cons_zero]; rfl) (by kernel_rfl) (by kernel_rfl) (by kernel_rfl) (by intro _ _ _ h; exact h) (Or.inl ⟨by rfl, ?_⟩) (by assumption) ?_
                    rotate_left
                    focus (intro wT hT; (try dsimp only at hT); go_simp; try with_reducible rfl)
                    try simp only [Act.put, List.setIfInBounds_toArray, List.set_cons_zero, List.set_cons_succ]
                    refine wpAnyH_take (i := 5) (v := ?_) (by simp only [List.getElem?_toArray, List.getElem?_cons_succ, List.getElem?_cons_zero]; rfl) (by kernel_rfl) (by kernel_rfl) (by kernel_rfl) (by intro _ _ _ h; exact h) (Or.inl ⟨by rfl, ?_⟩) (by assumption) ?_
                    rotate_left
                    focus (intro wT hT; (try dsimp only at hT); go_simp; try with_reducible rfl)
                    try simp only [Act.put, List.setIfInBounds_toArray, List.set_cons_zero, List.set_cons_succ]
                    refine wpAnyH_take (i := 6) (v := ?_) (by simp only [List.getElem?_toArray, List.getElem?_cons_succ, List.getElem?_cons_zero]; rfl) (by kernel_rfl) (by kernel_rfl) (by kernel_rfl) (by intro _ _ _ h; exact h) (Or.inl ⟨by rfl, ?_⟩) (by assumption) ?_
                    rotate_left
                    focus (intro wT hT; (try dsimp only at hT); go_simp; try with_reducible rfl)
                    try simp only [Act.put, List.setIfInBounds_toArray, List.set_cons_zero, List.set_cons_succ]
                    refine wpAnyH_take (i := 7) (v := ?_) (by simp only [List.getElem?_toArray, List.getElem?_cons_succ, List.getElem?_cons_zero]; rfl) (by kernel_rfl) (by kernel_rfl) (by kernel_rfl) (by intro _ _ _ h; exact h) (Or.inl ⟨by rfl, ?_⟩) (by assumption) ?_
                    rotate_left
                    focus (intro wT hT; (try dsimp only at hT); go_simp; try with_reducible rfl)
                    try simp only [Act.put, List.setIfInBounds_toArray, List.set_cons_zero, List.set_cons_succ]
                    refine wpAnyH_take (i := 8) (v := ?_) (by simp only [List.getElem?_toArray, List.getElem?_cons_succ, List.getElem?_cons_zero]; rfl) (by kernel_rfl) (by kernel_rfl) (by kernel_rfl) (by intro _ _ _ h; exact h) (Or.inl ⟨by rfl, ?_⟩) (by assumption) ?_
                    rotate_left
                    focus (intro wT hT; (try dsimp only at hT); go_simp; try with_reducible rfl)
                    try simp only [Act.put, List.setIfInBounds_toArray, List.set_cons_zero, List.set_cons_succ]
                    refine wpAnyH_take (i := 9) (v := ?_) (by simp only [List.getElem?_toArray, List.getElem?_cons_succ, List.getElem?_cons_zero]; rfl) (by kernel_rfl) (by kernel_rfl) (by kernel_rfl) (by intro _ _ _ h; exact h) (Or.inl ⟨by rfl, ?_⟩) (by assumption) ?_
                    rotate_left
                    focus (intro wT hT; (try dsimp only at hT); go_simp; try with_reducible rfl)
                    try simp only [Act.put, List.setIfInBounds_toArray, List.set_cons_zero, List.set_cons_succ]
                    refine wpAnyH_take (i := 10) (v := ?_) (by simp only [List.getElem?_toArray, List.getElem?_cons_succ, List.getElem?_cons_zero]; rfl) (by kernel_rfl) (by kernel_rfl) (by kernel_rfl) (by intro _ _ _ h; exact h) (Or.inl ⟨by rfl, ?_⟩) (by assumption) ?_
                    rotate_left
                    focus (intro wT hT; (try dsimp only at hT); go_simp; try with_reducible rfl)
                    try simp only [Act.put, List.setIfInBounds_toArray, List.set_cons_zero, List.set_cons_succ]
                    refine wpAnyH_ready (rs := [2]) (by kernel_rfl) (by simp) (AllReadyH.cons (by simp only [List.getElem?_toArray, List.getElem?_cons_succ, List.getElem?_cons_zero]; rfl) (fun K hK => ?_) AllReadyH.nil)
                    go_simp
                    go_at_call 15; refine (tenant_any kd tn s id x y z at_ _ htn).mono ?_; rintro e wT ⟨rfl, hbT⟩; have hbwT : Below w7.heap.size w7 wT := ((Below.refl w7.heap.size w7).drew).trans hbT; clear c0 c1 c2 c3 c4 c5 c6 c7; obtain ⟨c0, c1, c2, c3, c4, c5, c6, c7⟩ := actB (HXA7.out.older hbwT)
                    go_wp2_with fail
                    refine hK.out _ _ (by exact ⟨c0, c1, c2, c3, c4, c5, c6, c7⟩) (fun hHe2 => ?_)
                    clear hK K
                    try simp only [Act.put, List.setIfInBounds_toArray, List.set_cons_zero, List.set_cons_succ]
                    refine wpAnyH_ready (rs := [11]) (by kernel_rfl) (by simp) (AllReadyH.cons (by simp only [List.getElem?_toArray, List.getElem?_cons_succ, List.getElem?_cons_zero]; rfl) (fun K hK => ?_) AllReadyH.nil)
                    go_simp
                    go_at_call 9; refine (secret_any s _ hsn).mono ?_; rintro e wS ⟨rfl, hbS⟩; have hbwS : Below w7.heap.size w7 wS := hbwT.trans (hbS.mono hbwT.size); clear c0 c1 c2 c3 c4 c5 c6 c7; obtain ⟨c0, c1, c2, c3, c4, c5, c6, c7⟩ := actB (HXA7.out.older hbwS)
                    go_wp2_with fail
                    refine hK.out _ _ (by exact ⟨c0, c1, c2, c3, c4, c5, c6, c7⟩) (fun hHe3 => ?_)
                    clear hK K
                    try simp only [Act.put, List.setIfInBounds_toArray, List.set_cons_zero, List.set_cons_succ]
                    refine wpAnyH_ready (rs := [12]) (by kernel_rfl) (by simp) (AllReadyH.cons (by simp only [List.getElem?_toArray, List.getElem?_cons_succ, List.getElem?_cons_zero]; rfl) (fun K hK => ?_) AllReadyH.nil)
                    go_simp
                    refine hK.out _ _ (by exact ⟨keepC (A1.bworld_below _ _) c0, keepC (A1.bworld_below _ _) c1, keepC (A1.bworld_below _ _) c2, keepC (A1.bworld_below _ _) c3, keepC (A1.bworld_below _ _) c4, keepC (A1.bworld_below _ _) c5, keepC (A1.bworld_below _ _) c6, keepC (A1.bworld_below _ _) c7⟩) (fun hHe4 => ?_)
                    clear hK K
                    try simp only [Act.put, List.setIfInBounds_toArray, List.set_cons_zero, List.set_cons_succ]
                    refine wpAnyH_ready (rs := [13]) (by kernel_rfl) (by simp) (AllReadyH.cons (by simp only [List.getElem?_toArray, List.getElem?_cons_succ, List.getElem?_cons_zero]; rfl) (fun K hK => ?_) AllReadyH.nil)
                    go_simp
                    have hbwB : Below w7.heap.size w7 (A1.bworld wS (secN s)) := hbwS.trans ((A1.bworld_below wS (secN s)).mono hbwS.size); have HTS := Lib.hid (HT7.out.older hbwB); have HXAS := Lib.hid (HXA7.out.older hbwB); have HXLS := Lib.hid (HXL7.out.older hbwB); have HXSS := Lib.hid (HXS7.out.older hbwB); go_at_call 10; refine (rotate_any w.heap.size w1.heap.size (tenB tn) x y z (secN s) (some ⟨wS.heap.size, 0, none⟩) (A1.bcap wS (secN s)) Vo Eo _ HTS.out.ra HTS.out.bel.size (by omega) (bytesAt_src (A1.bytesAt_new wS (secN s)))).mono ?_; rintro e w8 ⟨V8, E8, rfl, hd8, hst8⟩; have HT8 := Lib.hid (Two.step HTS.out hd8); have HXA8 := Lib.hid (hd8.goes.bx HTS.out.ra HXAS.out (by decide) (by decide) (by decide)); have HXL8 := Lib.hid (hd8.goes.bx HTS.out.ra HXLS.out (by decide) (by decide) (by decide)); have HXS8 := Lib.hid (hd8.goes.bx HTS.out.ra HXSS.out (by decide) (by decide) (by decide)); have HST8 := Lib.hid hst8; clear hd8 hst8; clear c0 c1 c2 c3 c4 c5 c6 c7; obtain ⟨c0, c1, c2, c3, c4, c5, c6, c7⟩ := actB (HXA8.out)
                    go_wp2_with fail
                    refine hK.out _ _ (by exact ⟨c0, c1, c2, c3, c4, c5, c6, c7⟩) (fun hHe5 => ?_)
                    clear hK K
                    try simp only [Act.put, List.setIfInBounds_toArray, List.set_cons_zero, List.set_cons_succ]
                    refine wpAnyH_done (by kernel_rfl) ?_ _
                    go_wp2_with fail
                    go_roundg (gk - 1)
                    case rel => exact ⟨2, by go_num, .inr (.inr rfl), Lib.hid (by have := HQ2.out; omega), ⟨Va, Ea, V8, E8, HT8.out.symm, HBO.out, bnd_step HBX.out (stepK_rot (id := id) h34 HST8.out) hsl6, HKO.out, keys_step HKX.out (stepK_rot (id := id) h34 HST8.out)⟩, HXL8.out, HXA8.out, HXS8.out⟩
                    case measure => have := HQ2.out; omega
                · have e3 : ((kd : Int) % 6 == 3) = false := beq_eq_false_iff_ne.2 (by rw [HMOD.out]; omega)
                  have e4 : ((kd : Int) % 6 == 4) = false := beq_eq_false_iff_ne.2 (by rw [HMOD.out]; omega)
                  have H2 := Lib.hid h2
                  have H34 := Lib.hid h34
                  clear h2 h34
                  go_wp2_with fail
                  refine wp_region_held_drew (S := fun w' => w'.cell? ⟨qa, 0, none⟩ = some (.int .u8 (kd : Int)) ∧ w'.cell? ⟨qa, 1, none⟩ = some (.int .u8 (tn : Int)) ∧ w'.cell? ⟨qa, 2, none⟩ = some (.int .u8 (s : Int)) ∧ w'.cell? ⟨qa, 3, none⟩ = some (.string ⟨id.toArray⟩) ∧ w'.cell? ⟨qa, 4, none⟩ = some (.int .i64 x) ∧ w'.cell? ⟨qa, 5, none⟩ = some (.int .i64 y) ∧ w'.cell? ⟨qa, 6, none⟩ = some (.int .i64 z) ∧ w'.cell? ⟨qa, 7, none⟩ = some (.int .i64 at_)) (by kernel_rfl) (by exact ⟨c0, c1, c2, c3, c4, c5, c6, c7⟩) (fun hHeld => ?_)
                  refine wpAnyH_take (i := 0) (v := ?_) (by simp only [List.getElem?_toArray, List.getElem?_cons_succ, List.getElem?_cons_zero]; rfl) (by kernel_rfl) (by kernel_rfl) (by kernel_rfl) (by intro _ _ _ h; exact h) (Or.inl ⟨by rfl, ?_⟩) (by assumption) ?_
                  rotate_left
                  focus (intro wT hT; (try dsimp only at hT); go_simp; try with_reducible rfl)
                  try simp only [Act.put, List.setIfInBounds_toArray, List.set_cons_zero, List.set_cons_succ]
                  refine wpAnyH_take (i := 1) (v := ?_) (by simp only [List.getElem?_toArray, List.getElem?_cons_succ, List.getElem?_cons_zero]; rfl) (by kernel_rfl) (by kernel_rfl) (by kernel_rfl) (by intro _ _ _ h; exact h) (Or.inl ⟨by rfl, ?_⟩) (by assumption) ?_
                  rotate_left
                  focus (intro wT hT; (try dsimp only at hT); go_simp; try with_reducible rfl)
                  try simp only [Act.put, List.setIfInBounds_toArray, List.set_cons_zero, List.set_cons_succ]
                  refine wpAnyH_take (i := 3) (v := ?_) (by simp only [List.getElem?_toArray, List.getElem?_cons_succ, List.getElem?_cons_zero]; rfl) (by kernel_rfl) (by kernel_rfl) (by kernel_rfl) (by intro _ _ _ h; exact h) (Or.inl ⟨by rfl, ?_⟩) (by assumption) ?_
                  rotate_left
                  focus (intro wT hT; (try dsimp only at hT); go_simp; try with_reducible rfl)
                  try simp only [Act.put, List.setIfInBounds_toArray, List.set_cons_zero, List.set_cons_succ]
                  refine wpAnyH_take (i := 4) (v := ?_) (by simp only [List.getElem?_toArray, List.getElem?_cons_succ, List.getElem?_cons_zero]; rfl) (by kernel_rfl) (by kernel_rfl) (by kernel_rfl) (by intro _ _ _ h; exact h) (Or.inl ⟨by rfl, ?_⟩) (by assumption) ?_
                  rotate_left
                  focus (intro wT hT; (try dsimp only at hT); go_simp; try with_reducible rfl)
                  try simp only [Act.put, List.setIfInBounds_toArray, List.set_cons_zero, List.set_cons_succ]
                  refine wpAnyH_take (i := 5) (v := ?_) (by simp only [List.getElem?_toArray, List.getElem?_cons_succ, List.getElem?_cons_zero]; rfl) (by kernel_rfl) (by kernel_rfl) (by kernel_rfl) (by intro _ _ _ h; exact h) (Or.inl ⟨by rfl, ?_⟩) (by assumption) ?_
                  rotate_left
                  focus (intro wT hT; (try dsimp only at hT); go_simp; try with_reducible rfl)
                  try simp only [Act.put, List.setIfInBounds_toArray, List.set_cons_zero, List.set_cons_succ]
                  refine wpAnyH_take (i := 6) (v := ?_) (by simp only [List.getElem?_toArray, List.getElem?_cons_succ, List.getElem?_cons_zero]; rfl) (by kernel_rfl) (by kernel_rfl) (by kernel_rfl) (by intro _ _ _ h; exact h) (Or.inl ⟨by rfl, ?_⟩) (by assumption) ?_
                  rotate_left
                  focus (intro wT hT; (try dsimp only at hT); go_simp; try with_reducible rfl)
                  try simp only [Act.put, List.setIfInBounds_toArray, List.set_cons_zero, List.set_cons_succ]
                  refine wpAnyH_take (i := 9) (v := ?_) (by simp only [List.getElem?_toArray, List.getElem?_cons_succ, List.getElem?_cons_zero]; rfl) (by kernel_rfl) (by kernel_rfl) (by kernel_rfl) (by intro _ _ _ h; exact h) (Or.inl ⟨by rfl, ?_⟩) (by assumption) ?_
                  rotate_left
                  focus (intro wT hT; (try dsimp only at hT); go_simp; try with_reducible rfl)
                  try simp only [Act.put, List.setIfInBounds_toArray, List.set_cons_zero, List.set_cons_succ]
                  refine wpAnyH_take (i := 10) (v := ?_) (by simp only [List.getElem?_toArray, List.getElem?_cons_succ, List.getElem?_cons_zero]; rfl) (by kernel_rfl) (by kernel_rfl) (by kernel_rfl) (by intro _ _ _ h; exact h) (Or.inl ⟨by rfl, ?_⟩) (by assumption) ?_
                  rotate_left
                  focus (intro wT hT; (try dsimp only at hT); go_simp; try with_reducible rfl)
                  try simp only [Act.put, List.setIfInBounds_toArray, List.set_cons_zero, List.set_cons_succ]
                  refine wpAnyH_take (i := 11) (v := ?_) (by simp only [List.getElem?_toArray, List.getElem?_cons_succ, List.getElem?_cons_zero]; rfl) (by kernel_rfl) (by kernel_rfl) (by kernel_rfl) (by intro _ _ _ h; exact h) (Or.inl ⟨by rfl, ?_⟩) (by assumption) ?_
                  rotate_left
                  focus (intro wT hT; (try dsimp only at hT); go_simp; try with_reducible rfl)
                  try simp only [Act.put, List.setIfInBounds_toArray, List.set_cons_zero, List.set_cons_succ]
                  refine wpAnyH_take (i := 12) (v := ?_) (by simp only [List.getElem?_toArray, List.getElem?_cons_succ, List.getElem?_cons_zero]; rfl) (by kernel_rfl) (by kernel_rfl) (by kernel_rfl) (by intro _ _ _ h; exact h) (Or.inl ⟨by rfl, ?_⟩) (by assumption) ?_
                  rotate_left
                  focus (intro wT hT; (try dsimp only at hT); go_simp; try with_reducible rfl)
                  try simp only [Act.put, List.setIfInBounds_toArray, List.set_cons_zero, List.set_cons_succ]
                  refine wpAnyH_ready (rs := [2]) (by kernel_rfl) (by simp) (AllReadyH.cons (by simp only [List.getElem?_toArray, List.getElem?_cons_succ, List.getElem?_cons_zero]; rfl) (fun K hK => ?_) AllReadyH.nil)
                  go_simp
                  go_at_call 15; refine (tenant_any kd tn s id x y z at_ _ htn).mono ?_; rintro e wT ⟨rfl, hbT⟩; have hbwT : Below w7.heap.size w7 wT := ((Below.refl w7.heap.size w7).drew).trans hbT; clear c0 c1 c2 c3 c4 c5 c6 c7; obtain ⟨c0, c1, c2, c3, c4, c5, c6, c7⟩ := actB (HXA7.out.older hbwT)
                  go_wp2_with fail
                  refine hK.out _ _ (by exact ⟨c0, c1, c2, c3, c4, c5, c6, c7⟩) (fun hHe2 => ?_)
                  clear hK K
                  try simp only [Act.put, List.setIfInBounds_toArray, List.set_cons_zero, List.set_cons_succ]
                  refine wpAnyH_ready (rs := [7]) (by kernel_rfl) (by simp) (AllReadyH.cons (by simp only [List.getElem?_toArray, List.getElem?_cons_succ, List.getElem?_cons_zero]; rfl) (fun K hK => ?_) AllReadyH.nil)
                  go_simp
                  go_at_call 9; refine (secret_any s _ hsn).mono ?_; rintro e wS ⟨rfl, hbS⟩; have hbwS : Below w7.heap.size w7 wS := hbwT.trans (hbS.mono hbwT.size); clear c0 c1 c2 c3 c4 c5 c6 c7; obtain ⟨c0, c1, c2, c3, c4, c5, c6, c7⟩ := actB (HXA7.out.older hbwS)
                  go_wp2_with fail
                  refine hK.out _ _ (by exact ⟨c0, c1, c2, c3, c4, c5, c6, c7⟩) (fun hHe3 => ?_)
                  clear hK K
                  try simp only [Act.put, List.setIfInBounds_toArray, List.set_cons_zero, List.set_cons_succ]
                  refine wpAnyH_ready (rs := [8]) (by kernel_rfl) (by simp) (AllReadyH.cons (by simp only [List.getElem?_toArray, List.getElem?_cons_succ, List.getElem?_cons_zero]; rfl) (fun K hK => ?_) AllReadyH.nil)
                  go_simp
                  refine hK.out _ _ (by exact ⟨keepC (A1.bworld_below _ _) c0, keepC (A1.bworld_below _ _) c1, keepC (A1.bworld_below _ _) c2, keepC (A1.bworld_below _ _) c3, keepC (A1.bworld_below _ _) c4, keepC (A1.bworld_below _ _) c5, keepC (A1.bworld_below _ _) c6, keepC (A1.bworld_below _ _) c7⟩) (fun hHe4 => ?_)
                  clear hK K
                  try simp only [Act.put, List.setIfInBounds_toArray, List.set_cons_zero, List.set_cons_succ]
                  refine wpAnyH_take (i := 13) (v := ?_) (by simp only [List.getElem?_toArray, List.getElem?_cons_succ, List.getElem?_cons_zero]; rfl) (by kernel_rfl) (by kernel_rfl) (by kernel_rfl) (by intro _ _ _ h; exact h) (Or.inl ⟨by rfl, ?_⟩) (by assumption) ?_
                  rotate_left
                  focus (intro wT hT; (try dsimp only at hT); go_simp; try with_reducible rfl)
                  try simp only [Act.put, List.setIfInBounds_toArray, List.set_cons_zero, List.set_cons_succ]
                  refine wpAnyH_ready (rs := [14]) (by kernel_rfl) (by simp) (AllReadyH.cons (by simp only [List.getElem?_toArray, List.getElem?_cons_succ, List.getElem?_cons_zero]; rfl) (fun K hK => ?_) AllReadyH.nil)
                  go_simp
                  have hbwB : Below w7.heap.size w7 (A1.bworld wS (secN s)) := hbwS.trans ((A1.bworld_below wS (secN s)).mono hbwS.size); have HTS := Lib.hid (HT7.out.older hbwB); have HXAS := Lib.hid (HXA7.out.older hbwB); have HXLS := Lib.hid (HXL7.out.older hbwB); have HXSS := Lib.hid (HXS7.out.older hbwB); go_at_call 8; refine (add_any w.heap.size w1.heap.size (tenB tn) id (secN s) x y (some ⟨wS.heap.size, 0, none⟩) (A1.bcap wS (secN s)) Vo Eo _ HTS.out.ra HTS.out.bel.size (by omega) (by omega) (bytesAt_src (A1.bytesAt_new wS (secN s)))).mono ?_; rintro e w8 ⟨V8, E8, rfl, hd8, hst8, _⟩; have HT8 := Lib.hid (Two.step HTS.out hd8); have HXA8 := Lib.hid (hd8.goes.bx HTS.out.ra HXAS.out (by decide) (by decide) (by decide)); have HXL8 := Lib.hid (hd8.goes.bx HTS.out.ra HXLS.out (by decide) (by decide) (by decide)); have HXS8 := Lib.hid (hd8.goes.bx HTS.out.ra HXSS.out (by decide) (by decide) (by decide)); have HST8 := Lib.hid hst8; clear hd8 hst8; clear c0 c1 c2 c3 c4 c5 c6 c7; obtain ⟨c0, c1, c2, c3, c4, c5, c6, c7⟩ := actB (HXA8.out)
                  go_wp2_with fail
                  refine hK.out _ _ (by exact ⟨c0, c1, c2, c3, c4, c5, c6, c7⟩) (fun hHe5 => ?_)
                  clear hK K
                  try simp only [Act.put, List.setIfInBounds_toArray, List.set_cons_zero, List.set_cons_succ]
                  refine wpAnyH_done (by kernel_rfl) ?_ _
                  go_wp2_with fail
                  go_roundg (gk - 1)
                  case rel => exact ⟨2, by go_num, .inr (.inr rfl), Lib.hid (by have := HQ2.out; omega), ⟨Va, Ea, V8, E8, HT8.out.symm, HBO.out, bnd_step HBX.out (stepK_add (z := z) H2.out H34.out HST8.out) hsl6, HKO.out, keys_step HKX.out (stepK_add (z := z) H2.out H34.out HST8.out)⟩, HXL8.out, HXA8.out, HXS8.out⟩
                  case measure => have := HQ2.out; omega
            · have htb : (tenB tn != tenB ltn) = true := by simp [htt]
              have HTT := Lib.hid htt
              clear htt
              go_wp2_with fail
              refine wp_region_held_drew (S := fun w' => (w'.cell? ⟨qa, 0, none⟩ = some (.int .u8 (kd : Int)) ∧ w'.cell? ⟨qa, 1, none⟩ = some (.int .u8 (tn : Int)) ∧ w'.cell? ⟨qa, 2, none⟩ = some (.int .u8 (s : Int)) ∧ w'.cell? ⟨qa, 3, none⟩ = some (.string ⟨id.toArray⟩) ∧ w'.cell? ⟨qa, 4, none⟩ = some (.int .i64 x) ∧ w'.cell? ⟨qa, 5, none⟩ = some (.int .i64 y) ∧ w'.cell? ⟨qa, 6, none⟩ = some (.int .i64 z) ∧ w'.cell? ⟨qa, 7, none⟩ = some (.int .i64 at_)) ∧ w'.cell? ⟨w.heap.size, 0, none⟩ = some (.int .u8 (lkd : Int)) ∧ w'.cell? ⟨w.heap.size, 1, none⟩ = some (.int .u8 (ltn : Int)) ∧ w'.cell? ⟨w.heap.size, 2, none⟩ = some (.int .u8 (ls : Int)) ∧ w'.cell? ⟨w.heap.size, 3, none⟩ = some (.string ⟨lid.toArray⟩) ∧ w'.cell? ⟨w.heap.size, 4, none⟩ = some (.int .i64 lx) ∧ w'.cell? ⟨w.heap.size, 5, none⟩ = some (.int .i64 ly) ∧ w'.cell? ⟨w.heap.size, 6, none⟩ = some (.int .i64 lz) ∧ w'.cell? ⟨w.heap.size, 7, none⟩ = some (.int .i64 lat)) (by kernel_rfl) (by exact ⟨⟨c0, c1, c2, c3, c4, c5, c6, c7⟩, l0, l1, l2, l3, l4, l5, l6, l7⟩) (fun hHeld => ?_)
              refine wpAnyH_take (i := 0) (v := ?_) (by simp only [List.getElem?_toArray, List.getElem?_cons_succ, List.getElem?_cons_zero]; rfl) (by kernel_rfl) (by kernel_rfl) (by kernel_rfl) (by intro _ _ _ h; exact h) (Or.inl ⟨by rfl, ?_⟩) (by assumption) ?_
              rotate_left
              focus (intro wT hT; (try dsimp only at hT); go_simp; try with_reducible rfl)
              try simp only [Act.put, List.setIfInBounds_toArray, List.set_cons_zero, List.set_cons_succ]
              refine wpAnyH_take (i := 1) (v := ?_) (by simp only [List.getElem?_toArray, List.getElem?_cons_succ, List.getElem?_cons_zero]; rfl) (by kernel_rfl) (by kernel_rfl) (by kernel_rfl) (by intro _ _ _ h; exact h) (Or.inl ⟨by rfl, ?_⟩) (by assumption) ?_
              rotate_left
              focus (intro wT hT; (try dsimp only at hT); go_simp; try with_reducible rfl)
              try simp only [Act.put, List.setIfInBounds_toArray, List.set_cons_zero, List.set_cons_succ]
              refine wpAnyH_take (i := 2) (v := ?_) (by simp only [List.getElem?_toArray, List.getElem?_cons_succ, List.getElem?_cons_zero]; rfl) (by kernel_rfl) (by kernel_rfl) (by kernel_rfl) (by intro _ _ _ h; exact h) (Or.inl ⟨by rfl, ?_⟩) (by assumption) ?_
              rotate_left
              focus (intro wT hT; (try dsimp only at hT); go_simp; try with_reducible rfl)
              try simp only [Act.put, List.setIfInBounds_toArray, List.set_cons_zero, List.set_cons_succ]
              refine wpAnyH_take (i := 3) (v := ?_) (by simp only [List.getElem?_toArray, List.getElem?_cons_succ, List.getElem?_cons_zero]; rfl) (by kernel_rfl) (by kernel_rfl) (by kernel_rfl) (by intro _ _ _ h; exact h) (Or.inl ⟨by rfl, ?_⟩) (by assumption) ?_
              rotate_left
              focus (intro wT hT; (try dsimp only at hT); go_simp; try with_reducible rfl)
              try simp only [Act.put, List.setIfInBounds_toArray, List.set_cons_zero, List.set_cons_succ]
              refine wpAnyH_take (i := 5) (v := ?_) (by simp only [List.getElem?_toArray, List.getElem?_cons_succ, List.getElem?_cons_zero]; rfl) (by kernel_rfl) (by kernel_rfl) (by kernel_rfl) (by intro _ _ _ h; exact h) (Or.inl ⟨by rfl, ?_⟩) (by assumption) ?_
              rotate_left
              focus (intro wT hT; (try dsimp only at hT); go_simp; try with_reducible rfl)
              try simp only [Act.put, List.setIfInBounds_toArray, List.set_cons_zero, List.set_cons_succ]
              refine wpAnyH_ready (rs := [4]) (by kernel_rfl) (by simp) (AllReadyH.cons (by simp only [List.getElem?_toArray, List.getElem?_cons_succ, List.getElem?_cons_zero]; rfl) (fun K hK => ?_) AllReadyH.nil)
              go_simp
              go_at_call 15; refine (tenant_any kd tn s id x y z at_ _ htn).mono ?_; rintro e wT ⟨rfl, hbT⟩; have hbwT : Below wr.heap.size wr wT := ((Below.refl wr.heap.size wr).drew).trans hbT; clear c0 c1 c2 c3 c4 c5 c6 c7; clear l0 l1 l2 l3 l4 l5 l6 l7; obtain ⟨c0, c1, c2, c3, c4, c5, c6, c7⟩ := actB (HXA.out.older hbwT); obtain ⟨l0, l1, l2, l3, l4, l5, l6, l7⟩ := actB (HXL.out.older hbwT)
              go_wp2_with fail
              refine hK.out _ _ (by exact ⟨⟨c0, c1, c2, c3, c4, c5, c6, c7⟩, l0, l1, l2, l3, l4, l5, l6, l7⟩) (fun hHe2 => ?_)
              clear hK K
              try simp only [Act.put, List.setIfInBounds_toArray, List.set_cons_zero, List.set_cons_succ]
              refine wpAnyH_ready (rs := [6]) (by kernel_rfl) (by simp) (AllReadyH.cons (by simp only [List.getElem?_toArray, List.getElem?_cons_succ, List.getElem?_cons_zero]; rfl) (fun K hK => ?_) AllReadyH.nil)
              go_simp
              go_at_call 15; refine (tenant_any lkd ltn ls lid lx ly lz lat _ hltn).mono ?_; rintro e wL ⟨rfl, hbL⟩; have hbwL : Below wr.heap.size wr wL := hbwT.trans (hbL.mono hbwT.size); clear c0 c1 c2 c3 c4 c5 c6 c7; clear l0 l1 l2 l3 l4 l5 l6 l7; obtain ⟨c0, c1, c2, c3, c4, c5, c6, c7⟩ := actB (HXA.out.older hbwL); obtain ⟨l0, l1, l2, l3, l4, l5, l6, l7⟩ := actB (HXL.out.older hbwL)
              go_wp2_with fail
              refine hK.out _ _ (by exact ⟨⟨c0, c1, c2, c3, c4, c5, c6, c7⟩, l0, l1, l2, l3, l4, l5, l6, l7⟩) (fun hHe3 => ?_)
              clear hK K
              try simp only [Act.put, List.setIfInBounds_toArray, List.set_cons_zero, List.set_cons_succ]
              refine wpAnyH_take (i := 7) (v := ?_) (by simp only [List.getElem?_toArray, List.getElem?_cons_succ, List.getElem?_cons_zero]; rfl) (by kernel_rfl) (by kernel_rfl) (by kernel_rfl) (by intro _ _ _ h; exact h) (Or.inl ⟨by rfl, ?_⟩) (by assumption) ?_
              rotate_left
              focus (intro wT hT; (try dsimp only at hT); go_simp; try with_reducible rfl)
              try simp only [Act.put, List.setIfInBounds_toArray, List.set_cons_zero, List.set_cons_succ]
              refine wpAnyH_take (i := 8) (v := ?_) (by simp only [List.getElem?_toArray, List.getElem?_cons_succ, List.getElem?_cons_zero]; rfl) (by kernel_rfl) (by kernel_rfl) (by kernel_rfl) (by intro _ _ _ h; exact h) (Or.inl ⟨by rfl, ?_⟩) (by assumption) ?_
              rotate_left
              focus (intro wT hT; (try dsimp only at hT); go_simp; try with_reducible rfl)
              try simp only [Act.put, List.setIfInBounds_toArray, List.set_cons_zero, List.set_cons_succ]
              refine wpAnyH_done (by kernel_rfl) ?_ _
              go_wp2_with fail
              go_roundg (gk - 1)
              case rel => exact ⟨2, by go_num, .inr (.inr rfl), Lib.hid (by have := HQ2.out; omega), ⟨Va, Ea, Vo, Eo, HT.out.older hbwL, HBO.out, fun u => (HBX.out u).mono (Nat.le_succ _), HKO.out, HKX.out.trans (by rw [if_pos rfl]; unfold stepAt; rw [if_neg (fun e => HTT.out e.symm)])⟩, HXL.out.older hbwL, HXA.out.older hbwL, HXS.out.older hbwL⟩
              case measure => have := HQ2.out; omega
          · have HBA := Lib.hid (show BndE (k + 1) Ea from hba)
            have HBO := Lib.hid (show BndE (k + 1) Eo from hbo)
            have HKA := Lib.hid (show keysOf Ea (tenB ltn) = _ from hka)
            have HKO := Lib.hid (show keysOf Eo (tenB ltn) = _ from hko)
            clear hba hbo hka hko
            go_wp2_with fail
            go_roundg (gk1 - 1)
            case rel => exact ⟨k + 1, Va, Ea, Vo, Eo, by go_num, by omega, Lib.hid (by have := HQ.out; have := HGK.out; omega), HT.out, HBA.out, HBO.out, HKA.out.trans HKO.out.symm, HXL.out⟩
            case measure => have := HQ.out; have := HGK.out; omega
      · have hid' : 100 < (id.length : Int) := by omega
        go_wp2_with fail
        go_ret
        exact ⟨rfl, HP6.out.bel⟩
    · obtain ⟨KL0, hKL⟩ : ∃ K, keysOf Ea (tenB ltn) = K := ⟨_, rfl⟩
      have HKA := Lib.hid hKL
      have HKO := Lib.hid (HEQ.out.symm.trans hKL)
      obtain ⟨tl, htl⟩ : ∃ tl, tenB ltn = tl := ⟨_, rfl⟩
      rw [htl] at HKA HKO
      have HTL := Lib.hid htl
      have hbnd := HBA0.out tl
      rw [HKA.out] at hbnd
      have hlK : KL0.length ≤ 40 := by have := hbnd.1; omega
      have HSEC := Lib.hid hbnd.2
      have hla : (tlK Ea tl).length = KL0.length := by have h9 := congrArg List.length HKA.out; unfold keysOf at h9; rw [List.length_map] at h9; exact h9
      have hlo : (tlK Eo tl).length = KL0.length := by have h9 := congrArg List.length HKO.out; unfold keysOf at h9; rw [List.length_map] at h9; exact h9
      have HLA := Lib.hid hla
      have HLO := Lib.hid hlo
      have HIA := Lib.hid (show idsL ((tlK Ea tl).map Ent.key) = idsL KL0 by show idsL (keysOf Ea tl) = _; rw [HKA.out])
      have HIO := Lib.hid (show idsL ((tlK Eo tl).map Ent.key) = idsL KL0 by show idsL (keysOf Eo tl) = _; rw [HKO.out])
      have HLN := Lib.hid (show KL0.length = (idsL KL0).length by unfold idsL; rw [List.length_mergeSort, List.length_map])
      have hil9 : (idsL KL0).length ≤ 4294967296 := by have := HLN.out; omega
      have HVA := Lib.hid (show validE (tlK Ea tl) lid lat = validL KL0 lid lat by rw [validE_keys]; show validL (keysOf Ea tl) _ _ = _; rw [HKA.out])
      have HVO := Lib.hid (show validE (tlK Eo tl) lid lat = validL KL0 lid lat by rw [validE_keys]; show validL (keysOf Eo tl) _ _ = _; rw [HKO.out])
      obtain ⟨bv, hbv⟩ : ∃ bv, validL KL0 lid lat = bv := ⟨_, rfl⟩
      have HBV := Lib.hid hbv
      have HGE : (tlK Ea tl).length ≤ 1000000 ∧ (tlK Eo tl).length ≤ 1000000 := by omega
      have HGE' := Lib.hid HGE
      obtain ⟨l0, l1, l2, l3, l4, l5, l6, l7⟩ := actB HXL.out
      clear hKL htl hbnd hla hlo hbv HGE
      have TEN : Hid (∀ w', Calls Tryd.prog 15 #[actV lkd ltn ls lid lx ly lz lat] w' fun e w'' => e = .returned (.int .i64 tl) ∧ Below w'.heap.size w' w'') := Lib.hid (fun w' => by rw [← HTL.out]; exact tenant_any lkd ltn ls lid lx ly lz lat w' hltn)
      go_wp2_with (go_at_call 15; refine (TEN.out _).mono ?_; rintro e w7 ⟨rfl, hb7⟩; have HP7 := Lib.hid (HP.out.older hb7); have HXL7 := Lib.hid (HXL.out.older hb7); clear hb7 l0 l1 l2 l3 l4 l5 l6 l7; have l3 := HXL7.out.cell (i := 3) rfl; have l7 := HXL7.out.cell (i := 7) rfl)
      cases hsg : signI KL0 lat with
      | none =>
        have HSA := Lib.hid (show signI (keysOf Ea tl) lat = none by rw [HKA.out]; exact hsg)
        have HSO := Lib.hid (show signI (keysOf Eo tl) lat = none by rw [HKO.out]; exact hsg)
        refine (sign_none w.heap.size w1.heap.size tl lat Vo Eo _ HP7.out.ro HGE'.out.2 HSO.out).mono ?_
        rintro e w8 ⟨rfl, hb8⟩
        have hb8b := hb8.alloc hb8.size (.cells #[.string ⟨#[]⟩, .slice none 0 0, .int .i64 0, .int .i64 0] 32)
        have HP9 := Lib.hid (HP7.out.older hb8b)
        have HXL9 := Lib.hid (HXL7.out.older hb8b)
        have HXK9 := Lib.hid (Bx.new w8 32 #[.string ⟨#[]⟩, .slice none 0 0, .int .i64 0, .int .i64 0])
        clear l3 l7 hb8b
        have l3 := HXL9.out.cell (i := 3) rfl
        have l7 := HXL9.out.cell (i := 7) rfl
        have x0 := HXK9.out.cell (i := 0) rfl
        clear hb8
        go_wp2_with fail
        refine (sign_none w.heap.size (w1.heap.size + 1) tl lat Va Ea _ HP9.out.ra HGE'.out.1 HSA.out).mono ?_
        rintro e w10 ⟨rfl, hb10⟩
        have hb8b := hb10.alloc hb10.size (.cells #[.string ⟨#[]⟩, .slice none 0 0, .int .i64 0, .int .i64 0] 32)
        have HP11 := Lib.hid (HP9.out.older hb8b)
        have HXL11 := Lib.hid (HXL9.out.older hb8b)
        have HXK11 := Lib.hid (Bx.new w10 32 #[.string ⟨#[]⟩, .slice none 0 0, .int .i64 0, .int .i64 0])
        have HXJ := Lib.hid (HXK9.out.older hb8b)
        clear l3 l7 hb8b x0
        have l3 := HXL11.out.cell (i := 3) rfl
        have l7 := HXL11.out.cell (i := 7) rfl
        have x0 := HXJ.out.cell (i := 0) rfl
        have y0 := HXK11.out.cell (i := 0) rfl
        clear hb10
        go_wp2_with fail
        obtain ⟨w11, hw11⟩ : ∃ w11, w10.alloc (.cells #[.string ⟨#[]⟩, .slice none 0 0, .int .i64 0, .int .i64 0] 32) = w11 := ⟨_, rfl⟩
        rw [hw11] at HP11 HXL11 HXK11 HXJ l3 l7 x0 y0 ⊢
        clear hw11
        refine wp_region_held_drew (S := fun w' => w'.cell? ⟨w.heap.size, 3, none⟩ = some (.string ⟨lid.toArray⟩) ∧ w'.cell? ⟨w.heap.size, 7, none⟩ = some (.int .i64 lat) ∧ w'.cell? ⟨w8.heap.size, 0, none⟩ = some (.string ⟨#[]⟩) ∧ w'.cell? ⟨w10.heap.size, 0, none⟩ = some (.string ⟨#[]⟩)) (by kernel_rfl) (by exact ⟨l3, l7, x0, y0⟩) (fun hHeld => ?_)
        refine wpAnyH_take (i := 0) (v := ?_) (by simp only [List.getElem?_toArray, List.getElem?_cons_succ, List.getElem?_cons_zero]; rfl) (by kernel_rfl) (by kernel_rfl) (by kernel_rfl) (by intro _ _ _ h; exact h) (Or.inl ⟨by rfl, ?_⟩) (by assumption) ?_
        rotate_left
        focus (intro wT hT; (try dsimp only at hT); go_simp; try with_reducible rfl)
        try simp only [Act.put, List.setIfInBounds_toArray, List.set_cons_zero, List.set_cons_succ]
        refine wpAnyH_take (i := 2) (v := ?_) (by simp only [List.getElem?_toArray, List.getElem?_cons_succ, List.getElem?_cons_zero]; rfl) (by kernel_rfl) (by kernel_rfl) (by kernel_rfl) (by intro _ _ _ h; exact h) (Or.inl ⟨by rfl, ?_⟩) (by assumption) ?_
        rotate_left
        focus (intro wT hT; (try dsimp only at hT); go_simp; try with_reducible rfl)
        try simp only [Act.put, List.setIfInBounds_toArray, List.set_cons_zero, List.set_cons_succ]
        refine wpAnyH_ready (rs := [1]) (by kernel_rfl) (by simp) (AllReadyH.cons (by simp only [List.getElem?_toArray, List.getElem?_cons_succ, List.getElem?_cons_zero]; rfl) (fun K hK => ?_) AllReadyH.nil)
        go_simp
        go_at_call 16; refine (A1.num_err 16 _).mono ?_; rintro e w' ⟨rfl, rfl⟩
        go_wp2_with fail
        refine hK.out _ _ (by exact ⟨l3, l7, x0, y0⟩) (fun hHe2 => ?_)
        clear hK K
        try simp only [Act.put, List.setIfInBounds_toArray, List.set_cons_zero, List.set_cons_succ]
        refine wpAnyH_ready (rs := [3]) (by kernel_rfl) (by simp) (AllReadyH.cons (by simp only [List.getElem?_toArray, List.getElem?_cons_succ, List.getElem?_cons_zero]; rfl) (fun K hK => ?_) AllReadyH.nil)
        go_simp
        go_at_call 16; refine (A1.num_err 16 _).mono ?_; rintro e w' ⟨rfl, rfl⟩
        go_wp2_with fail
        refine hK.out _ _ (by exact ⟨l3, l7, x0, y0⟩) (fun hHe3 => ?_)
        clear hK K
        try simp only [Act.put, List.setIfInBounds_toArray, List.set_cons_zero, List.set_cons_succ]
        refine wpAnyH_take (i := 4) (v := ?_) (by simp only [List.getElem?_toArray, List.getElem?_cons_succ, List.getElem?_cons_zero]; rfl) (by kernel_rfl) (by kernel_rfl) (by kernel_rfl) (by intro _ _ _ h; exact h) (Or.inl ⟨by rfl, ?_⟩) (by assumption) ?_
        rotate_left
        focus (intro wT hT; (try dsimp only at hT); go_simp; try with_reducible rfl)
        try simp only [Act.put, List.setIfInBounds_toArray, List.set_cons_zero, List.set_cons_succ]
        refine wpAnyH_take (i := 5) (v := ?_) (by simp only [List.getElem?_toArray, List.getElem?_cons_succ, List.getElem?_cons_zero]; rfl) (by kernel_rfl) (by kernel_rfl) (by kernel_rfl) (by intro _ _ _ h; exact h) (Or.inl ⟨by rfl, ?_⟩) (by assumption) ?_
        rotate_left
        focus (intro wT hT; (try dsimp only at hT); go_simp; try with_reducible rfl)
        try simp only [Act.put, List.setIfInBounds_toArray, List.set_cons_zero, List.set_cons_succ]
        refine wpAnyH_take (i := 6) (v := ?_) (by simp only [List.getElem?_toArray, List.getElem?_cons_succ, List.getElem?_cons_zero]; rfl) (by kernel_rfl) (by kernel_rfl) (by kernel_rfl) (by intro _ _ _ h; exact h) (Or.inl ⟨by rfl, ?_⟩) (by assumption) ?_
        rotate_left
        focus (intro wT hT; (try dsimp only at hT); go_simp; try with_reducible rfl)
        try simp only [Act.put, List.setIfInBounds_toArray, List.set_cons_zero, List.set_cons_succ]
        refine wpAnyH_take (i := 7) (v := ?_) (by simp only [List.getElem?_toArray, List.getElem?_cons_succ, List.getElem?_cons_zero]; rfl) (by kernel_rfl) (by kernel_rfl) (by kernel_rfl) (by intro _ _ _ h; exact h) (Or.inl ⟨by rfl, ?_⟩) (by assumption) ?_
        rotate_left
        focus (intro wT hT; (try dsimp only at hT); go_simp; try with_reducible rfl)
        try simp only [Act.put, List.setIfInBounds_toArray, List.set_cons_zero, List.set_cons_succ]
        refine wpAnyH_take (i := 8) (v := ?_) (by simp only [List.getElem?_toArray, List.getElem?_cons_succ, List.getElem?_cons_zero]; rfl) (by kernel_rfl) (by kernel_rfl) (by kernel_rfl) (by intro _ _ _ h; exact h) (Or.inl ⟨by rfl, ?_⟩) (by assumption) ?_
        rotate_left
        focus (intro wT hT; (try dsimp only at hT); go_simp; try with_reducible rfl)
        try simp only [Act.put, List.setIfInBounds_toArray, List.set_cons_zero, List.set_cons_succ]
        refine wpAnyH_take (i := 9) (v := ?_) (by simp only [List.getElem?_toArray, List.getElem?_cons_succ, List.getElem?_cons_zero]; rfl) (by kernel_rfl) (by kernel_rfl) (by kernel_rfl) (by intro _ _ _ h; exact h) (Or.inl ⟨by rfl, ?_⟩) (by assumption) ?_
        rotate_left
        focus (intro wT hT; (try dsimp only at hT); go_simp; try with_reducible rfl)
        try simp only [Act.put, List.setIfInBounds_toArray, List.set_cons_zero, List.set_cons_succ]
        refine wpAnyH_take (i := 10) (v := ?_) (by simp only [List.getElem?_toArray, List.getElem?_cons_succ, List.getElem?_cons_zero]; rfl) (by kernel_rfl) (by kernel_rfl) (by kernel_rfl) (by intro _ _ _ h; exact h) (Or.inl ⟨by rfl, ?_⟩) (by assumption) ?_
        rotate_left
        focus (intro wT hT; (try dsimp only at hT); go_simp; try with_reducible rfl)
        try simp only [Act.put, List.setIfInBounds_toArray, List.set_cons_zero, List.set_cons_succ]
        refine wpAnyH_take (i := 11) (v := ?_) (by simp only [List.getElem?_toArray, List.getElem?_cons_succ, List.getElem?_cons_zero]; rfl) (by kernel_rfl) (by kernel_rfl) (by kernel_rfl) (by intro _ _ _ h; exact h) (Or.inl ⟨by rfl, ?_⟩) (by assumption) ?_
        rotate_left
        focus (intro wT hT; (try dsimp only at hT); go_simp; try with_reducible rfl)
        try simp only [Act.put, List.setIfInBounds_toArray, List.set_cons_zero, List.set_cons_succ]
        refine wpAnyH_take (i := 12) (v := ?_) (by simp only [List.getElem?_toArray, List.getElem?_cons_succ, List.getElem?_cons_zero]; rfl) (by kernel_rfl) (by kernel_rfl) (by kernel_rfl) (by intro _ _ _ h; exact h) (Or.inl ⟨by rfl, ?_⟩) (by assumption) ?_
        rotate_left
        focus (intro wT hT; (try dsimp only at hT); go_simp; try with_reducible rfl)
        try simp only [Act.put, List.setIfInBounds_toArray, List.set_cons_zero, List.set_cons_succ]
        refine wpAnyH_take (i := 13) (v := ?_) (by simp only [List.getElem?_toArray, List.getElem?_cons_succ, List.getElem?_cons_zero]; rfl) (by kernel_rfl) (by kernel_rfl) (by kernel_rfl) (by intro _ _ _ h; exact h) (Or.inl ⟨by rfl, ?_⟩) (by assumption) ?_
        rotate_left
        focus (intro wT hT; (try dsimp only at hT); go_simp; try with_reducible rfl)
        try simp only [Act.put, List.setIfInBounds_toArray, List.set_cons_zero, List.set_cons_succ]
        refine wpAnyH_take (i := 14) (v := ?_) (by simp only [List.getElem?_toArray, List.getElem?_cons_succ, List.getElem?_cons_zero]; rfl) (by kernel_rfl) (by kernel_rfl) (by kernel_rfl) (by intro _ _ _ h; exact h) (Or.inl ⟨by rfl, ?_⟩) (by assumption) ?_
        rotate_left
        focus (intro wT hT; (try dsimp only at hT); go_simp; try with_reducible rfl)
        try simp only [Act.put, List.setIfInBounds_toArray, List.set_cons_zero, List.set_cons_succ]
        refine wpAnyH_take (i := 16) (v := ?_) (by simp only [List.getElem?_toArray, List.getElem?_cons_succ, List.getElem?_cons_zero]; rfl) (by kernel_rfl) (by kernel_rfl) (by kernel_rfl) (by intro _ _ _ h; exact h) (Or.inl ⟨by rfl, ?_⟩) (by assumption) ?_
        rotate_left
        focus (intro wT hT; (try dsimp only at hT); go_simp; try with_reducible rfl)
        try simp only [Act.put, List.setIfInBounds_toArray, List.set_cons_zero, List.set_cons_succ]
        refine wpAnyH_take (i := 17) (v := ?_) (by simp only [List.getElem?_toArray, List.getElem?_cons_succ, List.getElem?_cons_zero]; rfl) (by kernel_rfl) (by kernel_rfl) (by kernel_rfl) (by intro _ _ _ h; exact h) (Or.inl ⟨by rfl, ?_⟩) (by assumption) ?_
        rotate_left
        focus (intro wT hT; (try dsimp only at hT); go_simp; try with_reducible rfl)
        try simp only [Act.put, List.setIfInBounds_toArray, List.set_cons_zero, List.set_cons_succ]
        refine wpAnyH_ready (rs := [15]) (by kernel_rfl) (by simp) (AllReadyH.cons (by simp only [List.getElem?_toArray, List.getElem?_cons_succ, List.getElem?_cons_zero]; rfl) (fun K hK => ?_) AllReadyH.nil)
        go_simp
        go_at_call 14; refine (ids_any w.heap.size w1.heap.size tl Vo Eo _ (HP11.out.ro.older (Below.refl _ _).drew) HGE'.out.2).mono ?_; rw [HIO.out, HLO.out, HLN.out]; rintro e wI ⟨uI, rfl, hoI, hbI⟩; have hsI := strsK_own hoI; have hbwI := ((Below.refl w11.heap.size w11).drew).trans hbI; clear l3 l7 x0 y0; have l3 := (HXL11.out.older hbwI).cell (i := 3) rfl; have l7 := (HXL11.out.older hbwI).cell (i := 7) rfl; have x0 := (HXJ.out.older hbwI).cell (i := 0) rfl; have y0 := (HXK11.out.older hbwI).cell (i := 0) rfl
        go_wp2_with fail
        refine hK.out _ _ (by exact ⟨l3, l7, x0, y0⟩) (fun hHe4 => ?_)
        clear hK K
        try simp only [Act.put, List.setIfInBounds_toArray, List.set_cons_zero, List.set_cons_succ]
        refine wpAnyH_ready (rs := [18]) (by kernel_rfl) (by simp) (AllReadyH.cons (by simp only [List.getElem?_toArray, List.getElem?_cons_succ, List.getElem?_cons_zero]; rfl) (fun K hK => ?_) AllReadyH.nil)
        go_simp
        go_at_call 14; refine (ids_any w.heap.size (w1.heap.size + 1) tl Va Ea _ (HP11.out.ra.older hbwI) HGE'.out.1).mono ?_; rw [HIA.out, HLA.out, HLN.out]; rintro e wJ ⟨uJ, rfl, hoJ, hbJ⟩; have hsJ := strsK_own hoJ; have hsI := hsI.below hbJ; have hbwJ := hbwI.trans (hbJ.mono hbwI.size); clear l3 l7 x0 y0; have l3 := (HXL11.out.older hbwJ).cell (i := 3) rfl; have l7 := (HXL11.out.older hbwJ).cell (i := 7) rfl; have x0 := (HXJ.out.older hbwJ).cell (i := 0) rfl; have y0 := (HXK11.out.older hbwJ).cell (i := 0) rfl
        go_wp2_with fail
        refine hK.out _ _ (by exact ⟨l3, l7, x0, y0⟩) (fun hHe5 => ?_)
        clear hK K
        try simp only [Act.put, List.setIfInBounds_toArray, List.set_cons_zero, List.set_cons_succ]
        refine wpAnyH_ready (rs := [19]) (by kernel_rfl) (by simp) (AllReadyH.cons (by simp only [List.getElem?_toArray, List.getElem?_cons_succ, List.getElem?_cons_zero]; rfl) (fun K hK => ?_) AllReadyH.nil)
        go_simp
        go_at_call 13; refine (A1.texts_any (idsL KL0) (idsL KL0) uI uJ _ hsI hsJ hil9 hil9).mono ?_; rw [decide_eq_true rfl]; rintro e wT ⟨rfl, hbT⟩; have hbwT := hbwJ.trans (hbT.mono hbwJ.size); clear l3 l7 x0 y0; have l3 := (HXL11.out.older hbwT).cell (i := 3) rfl; have l7 := (HXL11.out.older hbwT).cell (i := 7) rfl; have x0 := (HXJ.out.older hbwT).cell (i := 0) rfl; have y0 := (HXK11.out.older hbwT).cell (i := 0) rfl
        go_wp2_with fail
        refine hK.out _ _ (by exact ⟨l3, l7, x0, y0⟩) (fun hHe6 => ?_)
        clear hK K
        try simp only [Act.put, List.setIfInBounds_toArray, List.set_cons_zero, List.set_cons_succ]
        refine wpAnyH_take (i := 20) (v := ?_) (by simp only [List.getElem?_toArray, List.getElem?_cons_succ, List.getElem?_cons_zero]; rfl) (by kernel_rfl) (by kernel_rfl) (by kernel_rfl) (by intro _ _ _ h; exact h) (Or.inl ⟨by rfl, ?_⟩) (by assumption) ?_
        rotate_left
        focus (intro wT hT; (try dsimp only at hT); go_simp; try with_reducible rfl)
        try simp only [Act.put, List.setIfInBounds_toArray, List.set_cons_zero, List.set_cons_succ]
        refine wpAnyH_take (i := 21) (v := ?_) (by simp only [List.getElem?_toArray, List.getElem?_cons_succ, List.getElem?_cons_zero]; rfl) (by kernel_rfl) (by kernel_rfl) (by kernel_rfl) (by intro _ _ _ h; exact h) (Or.inl ⟨by rfl, ?_⟩) (by assumption) ?_
        rotate_left
        focus (intro wT hT; (try dsimp only at hT); go_simp; try with_reducible rfl)
        try simp only [Act.put, List.setIfInBounds_toArray, List.set_cons_zero, List.set_cons_succ]
        refine wpAnyH_take (i := 22) (v := ?_) (by simp only [List.getElem?_toArray, List.getElem?_cons_succ, List.getElem?_cons_zero]; rfl) (by kernel_rfl) (by kernel_rfl) (by kernel_rfl) (by intro _ _ _ h; exact h) (Or.inl ⟨by rfl, ?_⟩) (by assumption) ?_
        rotate_left
        focus (intro wT hT; (try dsimp only at hT); go_simp; try with_reducible rfl)
        try simp only [Act.put, List.setIfInBounds_toArray, List.set_cons_zero, List.set_cons_succ]
        refine wpAnyH_take (i := 23) (v := ?_) (by simp only [List.getElem?_toArray, List.getElem?_cons_succ, List.getElem?_cons_zero]; rfl) (by kernel_rfl) (by kernel_rfl) (by kernel_rfl) (by intro _ _ _ h; exact h) (Or.inl ⟨by rfl, ?_⟩) (by assumption) ?_
        rotate_left
        focus (intro wT hT; (try dsimp only at hT); go_simp; try with_reducible rfl)
        try simp only [Act.put, List.setIfInBounds_toArray, List.set_cons_zero, List.set_cons_succ]
        refine wpAnyH_take (i := 24) (v := ?_) (by simp only [List.getElem?_toArray, List.getElem?_cons_succ, List.getElem?_cons_zero]; rfl) (by kernel_rfl) (by kernel_rfl) (by kernel_rfl) (by intro _ _ _ h; exact h) (Or.inl ⟨by rfl, ?_⟩) (by assumption) ?_
        rotate_left
        focus (intro wT hT; (try dsimp only at hT); go_simp; try with_reducible rfl)
        try simp only [Act.put, List.setIfInBounds_toArray, List.set_cons_zero, List.set_cons_succ]
        refine wpAnyH_take (i := 25) (v := ?_) (by simp only [List.getElem?_toArray, List.getElem?_cons_succ, List.getElem?_cons_zero]; rfl) (by kernel_rfl) (by kernel_rfl) (by kernel_rfl) (by intro _ _ _ h; exact h) (Or.inl ⟨by rfl, ?_⟩) (by assumption) ?_
        rotate_left
        focus (intro wT hT; (try dsimp only at hT); go_simp; try with_reducible rfl)
        try simp only [Act.put, List.setIfInBounds_toArray, List.set_cons_zero, List.set_cons_succ]
        refine wpAnyH_take (i := 26) (v := ?_) (by simp only [List.getElem?_toArray, List.getElem?_cons_succ, List.getElem?_cons_zero]; rfl) (by kernel_rfl) (by kernel_rfl) (by kernel_rfl) (by intro _ _ _ h; exact h) (Or.inl ⟨by rfl, ?_⟩) (by assumption) ?_
        rotate_left
        focus (intro wT hT; (try dsimp only at hT); go_simp; try with_reducible rfl)
        try simp only [Act.put, List.setIfInBounds_toArray, List.set_cons_zero, List.set_cons_succ]
        refine wpAnyH_take (i := 27) (v := ?_) (by simp only [List.getElem?_toArray, List.getElem?_cons_succ, List.getElem?_cons_zero]; rfl) (by kernel_rfl) (by kernel_rfl) (by kernel_rfl) (by intro _ _ _ h; exact h) (Or.inl ⟨by rfl, ?_⟩) (by assumption) ?_
        rotate_left
        focus (intro wT hT; (try dsimp only at hT); go_simp; try with_reducible rfl)
        try simp only [Act.put, List.setIfInBounds_toArray, List.set_cons_zero, List.set_cons_succ]
        refine wpAnyH_take (i := 29) (v := ?_) (by simp only [List.getElem?_toArray, List.getElem?_cons_succ, List.getElem?_cons_zero]; rfl) (by kernel_rfl) (by kernel_rfl) (by kernel_rfl) (by intro _ _ _ h; exact h) (Or.inl ⟨by rfl, ?_⟩) (by assumption) ?_
        rotate_left
        focus (intro wT hT; (try dsimp only at hT); go_simp; try with_reducible rfl)
        try simp only [Act.put, List.setIfInBounds_toArray, List.set_cons_zero, List.set_cons_succ]
        refine wpAnyH_take (i := 30) (v := ?_) (by simp only [List.getElem?_toArray, List.getElem?_cons_succ, List.getElem?_cons_zero]; rfl) (by kernel_rfl) (by kernel_rfl) (by kernel_rfl) (by intro _ _ _ h; exact h) (Or.inl ⟨by rfl, ?_⟩) (by assumption) ?_
        rotate_left
        focus (intro wT hT; (try dsimp only at hT); go_simp; try with_reducible rfl)
        try simp only [Act.put, List.setIfInBounds_toArray, List.set_cons_zero, List.set_cons_succ]
        refine wpAnyH_take (i := 31) (v := ?_) (by simp only [List.getElem?_toArray, List.getElem?_cons_succ, List.getElem?_cons_zero]; rfl) (by kernel_rfl) (by kernel_rfl) (by kernel_rfl) (by intro _ _ _ h; exact h) (Or.inl ⟨by rfl, ?_⟩) (by assumption) ?_
        rotate_left
        focus (intro wT hT; (try dsimp only at hT); go_simp; try with_reducible rfl)
        try simp only [Act.put, List.setIfInBounds_toArray, List.set_cons_zero, List.set_cons_succ]
        refine wpAnyH_take (i := 32) (v := ?_) (by simp only [List.getElem?_toArray, List.getElem?_cons_succ, List.getElem?_cons_zero]; rfl) (by kernel_rfl) (by kernel_rfl) (by kernel_rfl) (by intro _ _ _ h; exact h) (Or.inl ⟨by rfl, ?_⟩) (by assumption) ?_
        rotate_left
        focus (intro wT hT; (try dsimp only at hT); go_simp; try with_reducible rfl)
        try simp only [Act.put, List.setIfInBounds_toArray, List.set_cons_zero, List.set_cons_succ]
        refine wpAnyH_take (i := 33) (v := ?_) (by simp only [List.getElem?_toArray, List.getElem?_cons_succ, List.getElem?_cons_zero]; rfl) (by kernel_rfl) (by kernel_rfl) (by kernel_rfl) (by intro _ _ _ h; exact h) (Or.inl ⟨by rfl, ?_⟩) (by assumption) ?_
        rotate_left
        focus (intro wT hT; (try dsimp only at hT); go_simp; try with_reducible rfl)
        try simp only [Act.put, List.setIfInBounds_toArray, List.set_cons_zero, List.set_cons_succ]
        refine wpAnyH_take (i := 34) (v := ?_) (by simp only [List.getElem?_toArray, List.getElem?_cons_succ, List.getElem?_cons_zero]; rfl) (by kernel_rfl) (by kernel_rfl) (by kernel_rfl) (by intro _ _ _ h; exact h) (Or.inl ⟨by rfl, ?_⟩) (by assumption) ?_
        rotate_left
        focus (intro wT hT; (try dsimp only at hT); go_simp; try with_reducible rfl)
        try simp only [Act.put, List.setIfInBounds_toArray, List.set_cons_zero, List.set_cons_succ]
        refine wpAnyH_ready (rs := [28]) (by kernel_rfl) (by simp) (AllReadyH.cons (by simp only [List.getElem?_toArray, List.getElem?_cons_succ, List.getElem?_cons_zero]; rfl) (fun K hK => ?_) AllReadyH.nil)
        go_simp
        go_at_call 12; refine (valid_any w.heap.size w1.heap.size tl lat lid Vo Eo _ (HP11.out.ro.older hbwT) HGE'.out.2).mono ?_; rw [HVO.out, HBV.out]; rintro e w' ⟨rfl, rfl⟩
        go_wp2_with fail
        refine hK.out _ _ (by exact ⟨l3, l7, x0, y0⟩) (fun hHe7 => ?_)
        clear hK K
        try simp only [Act.put, List.setIfInBounds_toArray, List.set_cons_zero, List.set_cons_succ]
        refine wpAnyH_ready (rs := [35]) (by kernel_rfl) (by simp) (AllReadyH.cons (by simp only [List.getElem?_toArray, List.getElem?_cons_succ, List.getElem?_cons_zero]; rfl) (fun K hK => ?_) AllReadyH.nil)
        go_simp
        go_at_call 12; refine (valid_any w.heap.size (w1.heap.size + 1) tl lat lid Va Ea _ (HP11.out.ra.older hbwT) HGE'.out.1).mono ?_; rw [HVA.out, HBV.out]; rintro e w' ⟨rfl, rfl⟩
        go_wp2_with fail
        refine hK.out _ _ (by exact ⟨l3, l7, x0, y0⟩) (fun hHe8 => ?_)
        clear hK K
        try simp only [Act.put, List.setIfInBounds_toArray, List.set_cons_zero, List.set_cons_succ]
        refine wpAnyH_take (i := 36) (v := ?_) (by simp only [List.getElem?_toArray, List.getElem?_cons_succ, List.getElem?_cons_zero]; rfl) (by kernel_rfl) (by kernel_rfl) (by kernel_rfl) (by intro _ _ _ h; exact h) (Or.inl ⟨by rfl, ?_⟩) (by assumption) ?_
        rotate_left
        focus (intro wT hT; (try dsimp only at hT); go_simp; try with_reducible rfl)
        try simp only [Act.put, List.setIfInBounds_toArray, List.set_cons_zero, List.set_cons_succ]
        refine wpAnyH_take (i := 37) (v := ?_) (by simp only [List.getElem?_toArray, List.getElem?_cons_succ, List.getElem?_cons_zero]; rfl) (by kernel_rfl) (by kernel_rfl) (by kernel_rfl) (by intro _ _ _ h; exact h) (Or.inl ⟨by rfl, ?_⟩) (by assumption) ?_
        rotate_left
        focus (intro wT hT; (try dsimp only at hT); go_simp; try with_reducible rfl)
        try simp only [Act.put, List.setIfInBounds_toArray, List.set_cons_zero, List.set_cons_succ]
        refine wpAnyH_take (i := 38) (v := ?_) (by simp only [List.getElem?_toArray, List.getElem?_cons_succ, List.getElem?_cons_zero]; rfl) (by kernel_rfl) (by kernel_rfl) (by kernel_rfl) (by intro _ _ _ h; exact h) (Or.inl ⟨by rfl, ?_⟩) (by assumption) ?_
        rotate_left
        focus (intro wT hT; (try dsimp only at hT); go_simp; try with_reducible rfl)
        try simp only [Act.put, List.setIfInBounds_toArray, List.set_cons_zero, List.set_cons_succ]
        refine wpAnyH_done (by kernel_rfl) ?_ _
        go_wp2_with fail
        go_ret
        exact ⟨rfl, HP11.out.bel.trans (hbwT.mono HP11.out.bel.size)⟩
      | some j =>
        obtain ⟨hjl, key, hjk, _⟩ := pickI_lt hsg
        have HSA := Lib.hid (show signI (keysOf Ea tl) lat = some j by rw [HKA.out]; exact hsg)
        have HSO := Lib.hid (show signI (keysOf Eo tl) lat = some j by rw [HKO.out]; exact hsg)
        have hsecl := HSEC.out key (List.mem_of_getElem? hjk)
        obtain ⟨ea, hea, heka⟩ : ∃ e, (tlK Ea tl)[j]? = some e ∧ e.key = key := by
          have h9 := HKA.out; rw [← h9] at hjk; unfold keysOf at hjk; rw [List.getElem?_map] at hjk
          exact Option.map_eq_some_iff.1 hjk
        obtain ⟨eo, heo, heko⟩ : ∃ e, (tlK Eo tl)[j]? = some e ∧ e.key = key := by
          have h9 := HKO.out; rw [← h9] at hjk; unfold keysOf at hjk; rw [List.getElem?_map] at hjk
          exact Option.map_eq_some_iff.1 hjk
        obtain ⟨kid, ksec, kf, kt, kr⟩ := key
        have SGN : Hid (∀ (R : Nat) (V : Nat → Value) (E : Nat → List Ent) w' e, RingAt w' w.heap.size R V E → (tlK E tl).length ≤ 1000000 → signI (keysOf E tl) lat = some j → (tlK E tl)[j]? = some e → e.key = ⟨kid, ksec, kf, kt, kr⟩ → Calls Tryd.prog 11 #[ptrK R, .int .i64 tl, .int .i64 lat] w' fun r w2 => ∃ ua uc, r = .returned (.tuple #[keyV kid (.slice ua ksec.length uc) kf kt, .nilIface]) ∧ Below w'.heap.size w' w2) := Lib.hid (fun R V E w' e hr hl hs he hk => (sign_some w.heap.size R tl lat V E w' hr hl j e hs he (by rw [hk]; exact hsecl)).mono fun r w2 hx => by
          obtain ⟨ua, uc, h1, _, h2⟩ := hx
          rw [hk] at h1
          exact ⟨ua, uc, h1, h2⟩)
        have HEA := Lib.hid (And.intro hea heka)
        have HEO := Lib.hid (And.intro heo heko)
        clear hjl hjk hea heka heo heko hsecl
        refine (SGN.out w1.heap.size Vo Eo _ eo HP7.out.ro HGE'.out.2 HSO.out HEO.out.1 HEO.out.2).mono ?_
        rintro e w8 ⟨ua, uc, rfl, hb8⟩
        have hb8b := hb8.alloc hb8.size (.cells #[.string ⟨kid.toArray⟩, .slice ua ksec.length uc, .int .i64 kf, .int .i64 kt] 32)
        have HP9 := Lib.hid (HP7.out.older hb8b)
        have HXL9 := Lib.hid (HXL7.out.older hb8b)
        have HXK9 := Lib.hid (Bx.new w8 32 #[.string ⟨kid.toArray⟩, .slice ua ksec.length uc, .int .i64 kf, .int .i64 kt])
        clear l3 l7 hb8b
        have l3 := HXL9.out.cell (i := 3) rfl
        have l7 := HXL9.out.cell (i := 7) rfl
        have x0 := HXK9.out.cell (i := 0) rfl
        clear hb8
        go_wp2_with fail
        refine (SGN.out (w1.heap.size + 1) Va Ea _ ea HP9.out.ra HGE'.out.1 HSA.out HEA.out.1 HEA.out.2).mono ?_
        rintro e w10 ⟨ub, ud, rfl, hb10⟩
        have hb8b := hb10.alloc hb10.size (.cells #[.string ⟨kid.toArray⟩, .slice ub ksec.length ud, .int .i64 kf, .int .i64 kt] 32)
        have HP11 := Lib.hid (HP9.out.older hb8b)
        have HXL11 := Lib.hid (HXL9.out.older hb8b)
        have HXK11 := Lib.hid (Bx.new w10 32 #[.string ⟨kid.toArray⟩, .slice ub ksec.length ud, .int .i64 kf, .int .i64 kt])
        have HXJ := Lib.hid (HXK9.out.older hb8b)
        clear l3 l7 hb8b x0
        have l3 := HXL11.out.cell (i := 3) rfl
        have l7 := HXL11.out.cell (i := 7) rfl
        have x0 := HXJ.out.cell (i := 0) rfl
        have y0 := HXK11.out.cell (i := 0) rfl
        clear hb10
        go_wp2_with fail
        obtain ⟨w11, hw11⟩ : ∃ w11, w10.alloc (.cells #[.string ⟨kid.toArray⟩, .slice ub ksec.length ud, .int .i64 kf, .int .i64 kt] 32) = w11 := ⟨_, rfl⟩
        rw [hw11] at HP11 HXL11 HXK11 HXJ l3 l7 x0 y0 ⊢
        clear hw11
        refine wp_region_held_drew (S := fun w' => w'.cell? ⟨w.heap.size, 3, none⟩ = some (.string ⟨lid.toArray⟩) ∧ w'.cell? ⟨w.heap.size, 7, none⟩ = some (.int .i64 lat) ∧ w'.cell? ⟨w8.heap.size, 0, none⟩ = some (.string ⟨kid.toArray⟩) ∧ w'.cell? ⟨w10.heap.size, 0, none⟩ = some (.string ⟨kid.toArray⟩)) (by kernel_rfl) (by exact ⟨l3, l7, x0, y0⟩) (fun hHeld => ?_)
        refine wpAnyH_take (i := 0) (v := ?_) (by simp only [List.getElem?_toArray, List.getElem?_cons_succ, List.getElem?_cons_zero]; rfl) (by kernel_rfl) (by kernel_rfl) (by kernel_rfl) (by intro _ _ _ h; exact h) (Or.inl ⟨by rfl, ?_⟩) (by assumption) ?_
        rotate_left
        focus (intro wT hT; (try dsimp only at hT); go_simp; try with_reducible rfl)
        try simp only [Act.put, List.setIfInBounds_toArray, List.set_cons_zero, List.set_cons_succ]
        refine wpAnyH_take (i := 2) (v := ?_) (by simp only [List.getElem?_toArray, List.getElem?_cons_succ, List.getElem?_cons_zero]; rfl) (by kernel_rfl) (by kernel_rfl) (by kernel_rfl) (by intro _ _ _ h; exact h) (Or.inl ⟨by rfl, ?_⟩) (by assumption) ?_
        rotate_left
        focus (intro wT hT; (try dsimp only at hT); go_simp; try with_reducible rfl)
        try simp only [Act.put, List.setIfInBounds_toArray, List.set_cons_zero, List.set_cons_succ]
        refine wpAnyH_ready (rs := [1]) (by kernel_rfl) (by simp) (AllReadyH.cons (by simp only [List.getElem?_toArray, List.getElem?_cons_succ, List.getElem?_cons_zero]; rfl) (fun K hK => ?_) AllReadyH.nil)
        go_simp
        go_at_call 16; refine (A1.num_nil _).mono ?_; rintro e w' ⟨rfl, rfl⟩
        go_wp2_with fail
        refine hK.out _ _ (by exact ⟨l3, l7, x0, y0⟩) (fun hHe2 => ?_)
        clear hK K
        try simp only [Act.put, List.setIfInBounds_toArray, List.set_cons_zero, List.set_cons_succ]
        refine wpAnyH_ready (rs := [3]) (by kernel_rfl) (by simp) (AllReadyH.cons (by simp only [List.getElem?_toArray, List.getElem?_cons_succ, List.getElem?_cons_zero]; rfl) (fun K hK => ?_) AllReadyH.nil)
        go_simp
        go_at_call 16; refine (A1.num_nil _).mono ?_; rintro e w' ⟨rfl, rfl⟩
        go_wp2_with fail
        refine hK.out _ _ (by exact ⟨l3, l7, x0, y0⟩) (fun hHe3 => ?_)
        clear hK K
        try simp only [Act.put, List.setIfInBounds_toArray, List.set_cons_zero, List.set_cons_succ]
        refine wpAnyH_take (i := 4) (v := ?_) (by simp only [List.getElem?_toArray, List.getElem?_cons_succ, List.getElem?_cons_zero]; rfl) (by kernel_rfl) (by kernel_rfl) (by kernel_rfl) (by intro _ _ _ h; exact h) (Or.inl ⟨by rfl, ?_⟩) (by assumption) ?_
        rotate_left
        focus (intro wT hT; (try dsimp only at hT); go_simp; try with_reducible rfl)
        try simp only [Act.put, List.setIfInBounds_toArray, List.set_cons_zero, List.set_cons_succ]
        refine wpAnyH_take (i := 5) (v := ?_) (by simp only [List.getElem?_toArray, List.getElem?_cons_succ, List.getElem?_cons_zero]; rfl) (by kernel_rfl) (by kernel_rfl) (by kernel_rfl) (by intro _ _ _ h; exact h) (Or.inl ⟨by rfl, ?_⟩) (by assumption) ?_
        rotate_left
        focus (intro wT hT; (try dsimp only at hT); go_simp; try with_reducible rfl)
        try simp only [Act.put, List.setIfInBounds_toArray, List.set_cons_zero, List.set_cons_succ]
        refine wpAnyH_take (i := 6) (v := ?_) (by simp only [List.getElem?_toArray, List.getElem?_cons_succ, List.getElem?_cons_zero]; rfl) (by kernel_rfl) (by kernel_rfl) (by kernel_rfl) (by intro _ _ _ h; exact h) (Or.inl ⟨by rfl, ?_⟩) (by assumption) ?_
        rotate_left
        focus (intro wT hT; (try dsimp only at hT); go_simp; try with_reducible rfl)
        try simp only [Act.put, List.setIfInBounds_toArray, List.set_cons_zero, List.set_cons_succ]
        refine wpAnyH_take (i := 7) (v := ?_) (by simp only [List.getElem?_toArray, List.getElem?_cons_succ, List.getElem?_cons_zero]; rfl) (by kernel_rfl) (by kernel_rfl) (by kernel_rfl) (by intro _ _ _ h; exact h) (Or.inl ⟨by rfl, ?_⟩) (by assumption) ?_
        rotate_left
        focus (intro wT hT; (try dsimp only at hT); go_simp; try with_reducible rfl)
        try simp only [Act.put, List.setIfInBounds_toArray, List.set_cons_zero, List.set_cons_succ]
        refine wpAnyH_take (i := 8) (v := ?_) (by simp only [List.getElem?_toArray, List.getElem?_cons_succ, List.getElem?_cons_zero]; rfl) (by kernel_rfl) (by kernel_rfl) (by kernel_rfl) (by intro _ _ _ h; exact h) (Or.inl ⟨by rfl, ?_⟩) (by assumption) ?_
        rotate_left
        focus (intro wT hT; (try dsimp only at hT); go_simp; try with_reducible rfl)
        try simp only [Act.put, List.setIfInBounds_toArray, List.set_cons_zero, List.set_cons_succ]
        refine wpAnyH_take (i := 9) (v := ?_) (by simp only [List.getElem?_toArray, List.getElem?_cons_succ, List.getElem?_cons_zero]; rfl) (by kernel_rfl) (by kernel_rfl) (by kernel_rfl) (by intro _ _ _ h; exact h) (Or.inl ⟨by rfl, ?_⟩) (by assumption) ?_
        rotate_left
        focus (intro wT hT; (try dsimp only at hT); go_simp; try with_reducible rfl)
        try simp only [Act.put, List.setIfInBounds_toArray, List.set_cons_zero, List.set_cons_succ]
        refine wpAnyH_take (i := 10) (v := ?_) (by simp only [List.getElem?_toArray, List.getElem?_cons_succ, List.getElem?_cons_zero]; rfl) (by kernel_rfl) (by kernel_rfl) (by kernel_rfl) (by intro _ _ _ h; exact h) (Or.inl ⟨by rfl, ?_⟩) (by assumption) ?_
        rotate_left
        focus (intro wT hT; (try dsimp only at hT); go_simp; try with_reducible rfl)
        try simp only [Act.put, List.setIfInBounds_toArray, List.set_cons_zero, List.set_cons_succ]
        refine wpAnyH_take (i := 11) (v := ?_) (by simp only [List.getElem?_toArray, List.getElem?_cons_succ, List.getElem?_cons_zero]; rfl) (by kernel_rfl) (by kernel_rfl) (by kernel_rfl) (by intro _ _ _ h; exact h) (Or.inl ⟨by rfl, ?_⟩) (by assumption) ?_
        rotate_left
        focus (intro wT hT; (try dsimp only at hT); go_simp; try with_reducible rfl)
        try simp only [Act.put, List.setIfInBounds_toArray, List.set_cons_zero, List.set_cons_succ]
        refine wpAnyH_take (i := 12) (v := ?_) (by simp only [List.getElem?_toArray, List.getElem?_cons_succ, List.getElem?_cons_zero]; rfl) (by kernel_rfl) (by kernel_rfl) (by kernel_rfl) (by intro _ _ _ h; exact h) (Or.inl ⟨by rfl, ?_⟩) (by assumption) ?_
        rotate_left
        focus (intro wT hT; (try dsimp only at hT); go_simp; try with_reducible rfl)
        try simp only [Act.put, List.setIfInBounds_toArray, List.set_cons_zero, List.set_cons_succ]
        refine wpAnyH_take (i := 13) (v := ?_) (by simp only [List.getElem?_toArray, List.getElem?_cons_succ, List.getElem?_cons_zero]; rfl) (by kernel_rfl) (by kernel_rfl) (by kernel_rfl) (by intro _ _ _ h; exact h) (Or.inl ⟨by rfl, ?_⟩) (by assumption) ?_
        rotate_left
        focus (intro wT hT; (try dsimp only at hT); go_simp; try with_reducible rfl)
        try simp only [Act.put, List.setIfInBounds_toArray, List.set_cons_zero, List.set_cons_succ]
        refine wpAnyH_take (i := 14) (v := ?_) (by simp only [List.getElem?_toArray, List.getElem?_cons_succ, List.getElem?_cons_zero]; rfl) (by kernel_rfl) (by kernel_rfl) (by kernel_rfl) (by intro _ _ _ h; exact h) (Or.inl ⟨by rfl, ?_⟩) (by assumption) ?_
        rotate_left
        focus (intro wT hT; (try dsimp only at hT); go_simp; try with_reducible rfl)
        try simp only [Act.put, List.setIfInBounds_toArray, List.set_cons_zero, List.set_cons_succ]
        refine wpAnyH_take (i := 16) (v := ?_) (by simp only [List.getElem?_toArray, List.getElem?_cons_succ, List.getElem?_cons_zero]; rfl) (by kernel_rfl) (by kernel_rfl) (by kernel_rfl) (by intro _ _ _ h; exact h) (Or.inl ⟨by rfl, ?_⟩) (by assumption) ?_
        rotate_left
        focus (intro wT hT; (try dsimp only at hT); go_simp; try with_reducible rfl)
        try simp only [Act.put, List.setIfInBounds_toArray, List.set_cons_zero, List.set_cons_succ]
        refine wpAnyH_take (i := 17) (v := ?_) (by simp only [List.getElem?_toArray, List.getElem?_cons_succ, List.getElem?_cons_zero]; rfl) (by kernel_rfl) (by kernel_rfl) (by kernel_rfl) (by intro _ _ _ h; exact h) (Or.inl ⟨by rfl, ?_⟩) (by assumption) ?_
        rotate_left
        focus (intro wT hT; (try dsimp only at hT); go_simp; try with_reducible rfl)
        try simp only [Act.put, List.setIfInBounds_toArray, List.set_cons_zero, List.set_cons_succ]
        refine wpAnyH_ready (rs := [15]) (by kernel_rfl) (by simp) (AllReadyH.cons (by simp only [List.getElem?_toArray, List.getElem?_cons_succ, List.getElem?_cons_zero]; rfl) (fun K hK => ?_) AllReadyH.nil)
        go_simp
        go_at_call 14; refine (ids_any w.heap.size w1.heap.size tl Vo Eo _ (HP11.out.ro.older (Below.refl _ _).drew) HGE'.out.2).mono ?_; rw [HIO.out, HLO.out, HLN.out]; rintro e wI ⟨uI, rfl, hoI, hbI⟩; have hsI := strsK_own hoI; have hbwI := ((Below.refl w11.heap.size w11).drew).trans hbI; clear l3 l7 x0 y0; have l3 := (HXL11.out.older hbwI).cell (i := 3) rfl; have l7 := (HXL11.out.older hbwI).cell (i := 7) rfl; have x0 := (HXJ.out.older hbwI).cell (i := 0) rfl; have y0 := (HXK11.out.older hbwI).cell (i := 0) rfl
        go_wp2_with fail
        refine hK.out _ _ (by exact ⟨l3, l7, x0, y0⟩) (fun hHe4 => ?_)
        clear hK K
        try simp only [Act.put, List.setIfInBounds_toArray, List.set_cons_zero, List.set_cons_succ]
        refine wpAnyH_ready (rs := [18]) (by kernel_rfl) (by simp) (AllReadyH.cons (by simp only [List.getElem?_toArray, List.getElem?_cons_succ, List.getElem?_cons_zero]; rfl) (fun K hK => ?_) AllReadyH.nil)
        go_simp
        go_at_call 14; refine (ids_any w.heap.size (w1.heap.size + 1) tl Va Ea _ (HP11.out.ra.older hbwI) HGE'.out.1).mono ?_; rw [HIA.out, HLA.out, HLN.out]; rintro e wJ ⟨uJ, rfl, hoJ, hbJ⟩; have hsJ := strsK_own hoJ; have hsI := hsI.below hbJ; have hbwJ := hbwI.trans (hbJ.mono hbwI.size); clear l3 l7 x0 y0; have l3 := (HXL11.out.older hbwJ).cell (i := 3) rfl; have l7 := (HXL11.out.older hbwJ).cell (i := 7) rfl; have x0 := (HXJ.out.older hbwJ).cell (i := 0) rfl; have y0 := (HXK11.out.older hbwJ).cell (i := 0) rfl
        go_wp2_with fail
        refine hK.out _ _ (by exact ⟨l3, l7, x0, y0⟩) (fun hHe5 => ?_)
        clear hK K
        try simp only [Act.put, List.setIfInBounds_toArray, List.set_cons_zero, List.set_cons_succ]
        refine wpAnyH_ready (rs := [19]) (by kernel_rfl) (by simp) (AllReadyH.cons (by simp only [List.getElem?_toArray, List.getElem?_cons_succ, List.getElem?_cons_zero]; rfl) (fun K hK => ?_) AllReadyH.nil)
        go_simp
        go_at_call 13; refine (A1.texts_any (idsL KL0) (idsL KL0) uI uJ _ hsI hsJ hil9 hil9).mono ?_; rw [decide_eq_true rfl]; rintro e wT ⟨rfl, hbT⟩; have hbwT := hbwJ.trans (hbT.mono hbwJ.size); clear l3 l7 x0 y0; have l3 := (HXL11.out.older hbwT).cell (i := 3) rfl; have l7 := (HXL11.out.older hbwT).cell (i := 7) rfl; have x0 := (HXJ.out.older hbwT).cell (i := 0) rfl; have y0 := (HXK11.out.older hbwT).cell (i := 0) rfl
        go_wp2_with fail
        refine hK.out _ _ (by exact ⟨l3, l7, x0, y0⟩) (fun hHe6 => ?_)
        clear hK K
        try simp only [Act.put, List.setIfInBounds_toArray, List.set_cons_zero, List.set_cons_succ]
        refine wpAnyH_take (i := 20) (v := ?_) (by simp only [List.getElem?_toArray, List.getElem?_cons_succ, List.getElem?_cons_zero]; rfl) (by kernel_rfl) (by kernel_rfl) (by kernel_rfl) (by intro _ _ _ h; exact h) (Or.inl ⟨by rfl, ?_⟩) (by assumption) ?_
        rotate_left
        focus (intro wT hT; (try dsimp only at hT); go_simp; try with_reducible rfl)
        try simp only [Act.put, List.setIfInBounds_toArray, List.set_cons_zero, List.set_cons_succ]
        refine wpAnyH_take (i := 21) (v := ?_) (by simp only [List.getElem?_toArray, List.getElem?_cons_succ, List.getElem?_cons_zero]; rfl) (by kernel_rfl) (by kernel_rfl) (by kernel_rfl) (by intro _ _ _ h; exact h) (Or.inl ⟨by rfl, ?_⟩) (by assumption) ?_
        rotate_left
        focus (intro wT hT; (try dsimp only at hT); go_simp; try with_reducible rfl)
        try simp only [Act.put, List.setIfInBounds_toArray, List.set_cons_zero, List.set_cons_succ]
        refine wpAnyH_take (i := 22) (v := ?_) (by simp only [List.getElem?_toArray, List.getElem?_cons_succ, List.getElem?_cons_zero]; rfl) (by kernel_rfl) (by kernel_rfl) (by kernel_rfl) (by intro _ _ _ h; exact h) (Or.inl ⟨by rfl, ?_⟩) (by assumption) ?_
        rotate_left
        focus (intro wT hT; (try dsimp only at hT); go_simp; try with_reducible rfl)
        try simp only [Act.put, List.setIfInBounds_toArray, List.set_cons_zero, List.set_cons_succ]
        refine wpAnyH_take (i := 23) (v := ?_) (by simp only [List.getElem?_toArray, List.getElem?_cons_succ, List.getElem?_cons_zero]; rfl) (by kernel_rfl) (by kernel_rfl) (by kernel_rfl) (by intro _ _ _ h; exact h) (Or.inl ⟨by rfl, ?_⟩) (by assumption) ?_
        rotate_left
        focus (intro wT hT; (try dsimp only at hT); go_simp; try with_reducible rfl)
        try simp only [Act.put, List.setIfInBounds_toArray, List.set_cons_zero, List.set_cons_succ]
        refine wpAnyH_take (i := 24) (v := ?_) (by simp only [List.getElem?_toArray, List.getElem?_cons_succ, List.getElem?_cons_zero]; rfl) (by kernel_rfl) (by kernel_rfl) (by kernel_rfl) (by intro _ _ _ h; exact h) (Or.inl ⟨by rfl, ?_⟩) (by assumption) ?_
        rotate_left
        focus (intro wT hT; (try dsimp only at hT); go_simp; try with_reducible rfl)
        try simp only [Act.put, List.setIfInBounds_toArray, List.set_cons_zero, List.set_cons_succ]
        refine wpAnyH_take (i := 25) (v := ?_) (by simp only [List.getElem?_toArray, List.getElem?_cons_succ, List.getElem?_cons_zero]; rfl) (by kernel_rfl) (by kernel_rfl) (by kernel_rfl) (by intro _ _ _ h; exact h) (Or.inl ⟨by rfl, ?_⟩) (by assumption) ?_
        rotate_left
        focus (intro wT hT; (try dsimp only at hT); go_simp; try with_reducible rfl)
        try simp only [Act.put, List.setIfInBounds_toArray, List.set_cons_zero, List.set_cons_succ]
        refine wpAnyH_take (i := 26) (v := ?_) (by simp only [List.getElem?_toArray, List.getElem?_cons_succ, List.getElem?_cons_zero]; rfl) (by kernel_rfl) (by kernel_rfl) (by kernel_rfl) (by intro _ _ _ h; exact h) (Or.inl ⟨by rfl, ?_⟩) (by assumption) ?_
        rotate_left
        focus (intro wT hT; (try dsimp only at hT); go_simp; try with_reducible rfl)
        try simp only [Act.put, List.setIfInBounds_toArray, List.set_cons_zero, List.set_cons_succ]
        refine wpAnyH_take (i := 27) (v := ?_) (by simp only [List.getElem?_toArray, List.getElem?_cons_succ, List.getElem?_cons_zero]; rfl) (by kernel_rfl) (by kernel_rfl) (by kernel_rfl) (by intro _ _ _ h; exact h) (Or.inl ⟨by rfl, ?_⟩) (by assumption) ?_
        rotate_left
        focus (intro wT hT; (try dsimp only at hT); go_simp; try with_reducible rfl)
        try simp only [Act.put, List.setIfInBounds_toArray, List.set_cons_zero, List.set_cons_succ]
        refine wpAnyH_take (i := 29) (v := ?_) (by simp only [List.getElem?_toArray, List.getElem?_cons_succ, List.getElem?_cons_zero]; rfl) (by kernel_rfl) (by kernel_rfl) (by kernel_rfl) (by intro _ _ _ h; exact h) (Or.inl ⟨by rfl, ?_⟩) (by assumption) ?_
        rotate_left
        focus (intro wT hT; (try dsimp only at hT); go_simp; try with_reducible rfl)
        try simp only [Act.put, List.setIfInBounds_toArray, List.set_cons_zero, List.set_cons_succ]
        refine wpAnyH_take (i := 30) (v := ?_) (by simp only [List.getElem?_toArray, List.getElem?_cons_succ, List.getElem?_cons_zero]; rfl) (by kernel_rfl) (by kernel_rfl) (by kernel_rfl) (by intro _ _ _ h; exact h) (Or.inl ⟨by rfl, ?_⟩) (by assumption) ?_
        rotate_left
        focus (intro wT hT; (try dsimp only at hT); go_simp; try with_reducible rfl)
        try simp only [Act.put, List.setIfInBounds_toArray, List.set_cons_zero, List.set_cons_succ]
        refine wpAnyH_take (i := 31) (v := ?_) (by simp only [List.getElem?_toArray, List.getElem?_cons_succ, List.getElem?_cons_zero]; rfl) (by kernel_rfl) (by kernel_rfl) (by kernel_rfl) (by intro _ _ _ h; exact h) (Or.inl ⟨by rfl, ?_⟩) (by assumption) ?_
        rotate_left
        focus (intro wT hT; (try dsimp only at hT); go_simp; try with_reducible rfl)
        try simp only [Act.put, List.setIfInBounds_toArray, List.set_cons_zero, List.set_cons_succ]
        refine wpAnyH_take (i := 32) (v := ?_) (by simp only [List.getElem?_toArray, List.getElem?_cons_succ, List.getElem?_cons_zero]; rfl) (by kernel_rfl) (by kernel_rfl) (by kernel_rfl) (by intro _ _ _ h; exact h) (Or.inl ⟨by rfl, ?_⟩) (by assumption) ?_
        rotate_left
        focus (intro wT hT; (try dsimp only at hT); go_simp; try with_reducible rfl)
        try simp only [Act.put, List.setIfInBounds_toArray, List.set_cons_zero, List.set_cons_succ]
        refine wpAnyH_take (i := 33) (v := ?_) (by simp only [List.getElem?_toArray, List.getElem?_cons_succ, List.getElem?_cons_zero]; rfl) (by kernel_rfl) (by kernel_rfl) (by kernel_rfl) (by intro _ _ _ h; exact h) (Or.inl ⟨by rfl, ?_⟩) (by assumption) ?_
        rotate_left
        focus (intro wT hT; (try dsimp only at hT); go_simp; try with_reducible rfl)
        try simp only [Act.put, List.setIfInBounds_toArray, List.set_cons_zero, List.set_cons_succ]
        refine wpAnyH_take (i := 34) (v := ?_) (by simp only [List.getElem?_toArray, List.getElem?_cons_succ, List.getElem?_cons_zero]; rfl) (by kernel_rfl) (by kernel_rfl) (by kernel_rfl) (by intro _ _ _ h; exact h) (Or.inl ⟨by rfl, ?_⟩) (by assumption) ?_
        rotate_left
        focus (intro wT hT; (try dsimp only at hT); go_simp; try with_reducible rfl)
        try simp only [Act.put, List.setIfInBounds_toArray, List.set_cons_zero, List.set_cons_succ]
        refine wpAnyH_ready (rs := [28]) (by kernel_rfl) (by simp) (AllReadyH.cons (by simp only [List.getElem?_toArray, List.getElem?_cons_succ, List.getElem?_cons_zero]; rfl) (fun K hK => ?_) AllReadyH.nil)
        go_simp
        go_at_call 12; refine (valid_any w.heap.size w1.heap.size tl lat lid Vo Eo _ (HP11.out.ro.older hbwT) HGE'.out.2).mono ?_; rw [HVO.out, HBV.out]; rintro e w' ⟨rfl, rfl⟩
        go_wp2_with fail
        refine hK.out _ _ (by exact ⟨l3, l7, x0, y0⟩) (fun hHe7 => ?_)
        clear hK K
        try simp only [Act.put, List.setIfInBounds_toArray, List.set_cons_zero, List.set_cons_succ]
        refine wpAnyH_ready (rs := [35]) (by kernel_rfl) (by simp) (AllReadyH.cons (by simp only [List.getElem?_toArray, List.getElem?_cons_succ, List.getElem?_cons_zero]; rfl) (fun K hK => ?_) AllReadyH.nil)
        go_simp
        go_at_call 12; refine (valid_any w.heap.size (w1.heap.size + 1) tl lat lid Va Ea _ (HP11.out.ra.older hbwT) HGE'.out.1).mono ?_; rw [HVA.out, HBV.out]; rintro e w' ⟨rfl, rfl⟩
        go_wp2_with fail
        refine hK.out _ _ (by exact ⟨l3, l7, x0, y0⟩) (fun hHe8 => ?_)
        clear hK K
        try simp only [Act.put, List.setIfInBounds_toArray, List.set_cons_zero, List.set_cons_succ]
        refine wpAnyH_take (i := 36) (v := ?_) (by simp only [List.getElem?_toArray, List.getElem?_cons_succ, List.getElem?_cons_zero]; rfl) (by kernel_rfl) (by kernel_rfl) (by kernel_rfl) (by intro _ _ _ h; exact h) (Or.inl ⟨by rfl, ?_⟩) (by assumption) ?_
        rotate_left
        focus (intro wT hT; (try dsimp only at hT); go_simp; try with_reducible rfl)
        try simp only [Act.put, List.setIfInBounds_toArray, List.set_cons_zero, List.set_cons_succ]
        refine wpAnyH_take (i := 37) (v := ?_) (by simp only [List.getElem?_toArray, List.getElem?_cons_succ, List.getElem?_cons_zero]; rfl) (by kernel_rfl) (by kernel_rfl) (by kernel_rfl) (by intro _ _ _ h; exact h) (Or.inl ⟨by rfl, ?_⟩) (by assumption) ?_
        rotate_left
        focus (intro wT hT; (try dsimp only at hT); go_simp; try with_reducible rfl)
        try simp only [Act.put, List.setIfInBounds_toArray, List.set_cons_zero, List.set_cons_succ]
        refine wpAnyH_take (i := 38) (v := ?_) (by simp only [List.getElem?_toArray, List.getElem?_cons_succ, List.getElem?_cons_zero]; rfl) (by kernel_rfl) (by kernel_rfl) (by kernel_rfl) (by intro _ _ _ h; exact h) (Or.inl ⟨by rfl, ?_⟩) (by assumption) ?_
        rotate_left
        focus (intro wT hT; (try dsimp only at hT); go_simp; try with_reducible rfl)
        try simp only [Act.put, List.setIfInBounds_toArray, List.set_cons_zero, List.set_cons_succ]
        refine wpAnyH_done (by kernel_rfl) ?_ _
        go_wp2_with fail
        go_ret
        exact ⟨rfl, HP11.out.bel.trans (hbwT.mono HP11.out.bel.size)⟩
theorem walk (acts : List KAct) (v : Value) (look : KAct) (w : World) (hv : A1.RowsV actK 8 w v acts) (hl : acts.length ≤ 9223372036854775807) (ha : ∀ a ∈ acts, a.ok) (hk : look.ok) :
    Calls Tryd.prog 5 #[v, .agg (actK look).toArray] w fun e w' => e = .returned (.bool true) ∧ Below w.heap.size w w' := by
  obtain ⟨va, vc, rfl, _⟩ := hv.form
  obtain ⟨lkd, ltn, ls, lid, lx, ly, lz, lat⟩ := look
  by_cases h : acts.length ≤ 40
  · exact walk_ok va vc acts lkd ltn ls lid lx ly lz lat w hv ha h hk.2.1
  · exact walk_big va vc acts.length lkd ltn ls lid lx ly lz lat w hl h

/-- What the walk gives, for every argument. -/
theorem contract (H : Type) (enc : TypeId × Value → H) (W : World) (base : Nat) (args : Array Value) (ds gs : List (DataW H)) (before : List MemPlace)
    (hval : ∀ (j : Nat) t v, Tryd.f5.params[j]? = some t → args[j]? = some v → Value.okWide Tryd.prog W .any base t v)
    (hW : DataW.Whole enc Tryd.prog Tryd.f5.params.toList Rows.keyringTenantsSpec.vars false W args.toList ds gs before) (hsz : (DataW.weightsEach Tryd.prog Tryd.f5.params.toList (ds ++ gs)).all (· ≤ reachBytes) = true) :
    Calls Tryd.prog 5 args W fun e W' => ∃ v, e = .returned v ∧ Rows.keyringTenantsSpec.post enc Tryd.prog Tryd.f5 false true false false W args v W' := by
  have hW' := hW
  have hlt := fun p hp => hW.lt p hp
  obtain ⟨p, q, hA0, hV, rfl, hfz, hnd⟩ := hW
  have hA : DataW.TrodAll enc Tryd.prog W 0 (fun _ => true) true Tryd.f5.params.toList args.toList ds p := hA0
  have hA1 := hA
  obtain ⟨rfl, rfl⟩ := trodVars_none hV
  rw [Tryd.params5] at hA hval
  obtain ⟨v0, vs0, d0, ds0, p0, q0, hargs, rfl, rfl, h0, r0⟩ := trodAll_cons hA
  obtain ⟨v1, vs1, d1, ds1, p1, q1, rfl, rfl, rfl, h1, r1⟩ := trodAll_cons r0
  obtain ⟨rfl, rfl, rfl⟩ := trodAll_nil r1
  obtain rfl : args = #[v0, v1] := by cases args; simp_all
  have fin : ∀ W', Below W.heap.size W W' → Rows.keyringTenantsSpec.post enc Tryd.prog Tryd.f5 false true false false W #[v0, v1] (.bool true) W' := fun W' hb => by
    simp only [List.append_nil] at hA1 hW' hlt
    exact ⟨_, _, _, [], _, [], hW', trodAll_cons_mk (shut_bool Tryd.underlying4 _) trodAll_mk0, Fr.trodAll_below (by kernel_rfl) _ (by kernel_rfl) hA1 hb hlt, rfl, hb.frame _, fun h => by cases h⟩
  clear hW' hA0 hA1 hlt
  rw [Tryd.params5, List.append_nil] at hsz
  obtain ⟨ua0, ul0, uc0, rfl⟩ := okWide_slice Tryd.underlying43 (hval 0 43 v0 rfl rfl)
  obtain ⟨fu0, hf0⟩ := h0
  obtain ⟨xs0, hx0, hl0, ha0⟩ := Op.actsK_trod hf0
  obtain ⟨x1, rfl, ok1⟩ := actK_arg (hval 1 46 v1 rfl rfl) h1
  refine (walk xs0 (.slice ua0 ul0 uc0) x1 W hx0 hl0 ha0 ok1).mono fun e W' ⟨he, hb⟩ => ?_
  subst he
  exact ⟨_, rfl, fin W' hb⟩

theorem laid_met (os : Os) : laidMet Tryd.prog Rows.keyringTenantsRow.laid ((Fr.laidW Rows.keyringTenantsRow.laid os).forCall (fun _ _ => 0) ⟨#[], #[.slice none 0 0, .agg #[.int .u8 0, .int .u8 0, .int .u8 0, .string ⟨#[]⟩, .int .i64 0, .int .i64 0, .int .i64 0, .int .i64 0]], []⟩).memory :=
  laidMet_of_run' 8 (by kernel_rfl) (by kernel_rfl)
theorem reads (os : Os) {H : Type} (enc : TypeId × Value → H) : ∃ places, DataW.whole enc Tryd.prog ((Fr.laidW Rows.keyringTenantsRow.laid os).forCall (fun _ _ => 0) ⟨#[], #[.slice none 0 0, .agg #[.int .u8 0, .int .u8 0, .int .u8 0, .string ⟨#[]⟩, .int .i64 0, .int .i64 0, .int .i64 0, .int .i64 0]], []⟩).memory Tryd.f5.params.toList Rows.keyringTenantsSpec.vars false (#[.slice none 0 0, .agg #[.int .u8 0, .int .u8 0, .int .u8 0, .string ⟨#[]⟩, .int .i64 0, .int .i64 0, .int .i64 0, .int .i64 0]] : Array Value).toList 8 = some ([.nil, .agg [.lit (.int .u8 0), .lit (.int .u8 0), .lit (.int .u8 0), .lit (.string []), .lit (.int .i64 0), .lit (.int .i64 0), .lit (.int .i64 0), .lit (.int .i64 0)]], [], places) :=
  ⟨[], by kernel_rfl⟩

theorem lifted (os : Os) (started : os.Started) (H : Type) (enc : TypeId × Value → H) (F : Stop.Interp) :
    ReturnsInHanded {} Tryd.checked os 5 .any ((OpenSpec.ofChange Rows.keyringTenantsSpec).preRow enc Tryd.prog Tryd.f5 Rows.keyringTenantsRow.domain false Rows.keyringTenantsRow.laid) (((OpenSpec.ofChange Rows.keyringTenantsSpec).at F).post enc Tryd.prog Tryd.f5 false true false false) := by
  obtain ⟨places, hx⟩ := reads os enc
  refine returnsInHanded_of_row (C := Tryd.checked) (s := OpenSpec.ofChange Rows.keyringTenantsSpec) Fr.own started (by kernel_rfl) Tryd.func5
    (witness_row_at (enc := enc) (C := Tryd.checked) false (Fr.laidW Rows.keyringTenantsRow.laid os) #[.slice none 0 0, .agg #[.int .u8 0, .int .u8 0, .int .u8 0, .string ⟨#[]⟩, .int .i64 0, .int .i64 0, .int .i64 0, .int .i64 0]] rfl (by kernel_rfl) (by kernel_rfl) (by kernel_rfl)
      (OpenSpec.preRow_of_cond 8 hx (by kernel_rfl) (fun k hk => by cases hk) (by kernel_rfl) (laid_met os))) ?_
  intro W base args ds gs before hval hW _ hcond hsz _ hsh _
  exact contract H enc W base args ds gs before hval hW (by have h9 : (DataW.weightsEach Tryd.prog (Tryd.f5.params.toList ++ []) (ds ++ gs)).all (· ≤ reachBytes) = true := hsz; rw [List.append_nil] at h9; exact h9)

theorem said : Rows.KeyringTenantsSaid :=
  OpenClaim.holds_of_cond 5 Tryd.f5 rfl rfl rfl rfl rfl rfl rfl ⟨rfl, rfl, rfl, rfl, rfl⟩ rfl rfl rfl rfl rfl (by kernel_rfl) Tryd.func5 (by kernel_rfl)
    (of_decide_eq_true (by kernel_rfl)) (by unfold Func.isWrapper; first | (rw [if_pos (by decide +kernel)]; kernel_rfl) | (rw [if_neg (by decide +kernel)]; exact ⟨rfl, rfl⟩))
    (fun os started H enc _ F => by rw [OpenClaim.pre_eq_preRow]; exact lifted os started H enc F)

theorem plain (b : Bool) (hb : b = Tryd.pinned.checked.prog.looks []) (f : FuncId) (fn : Func) (hf : Tryd.pinned.checked.prog.funcNamed "quayside/quaysidelaw50.KeyringTenants" = some f) (hfn : Tryd.pinned.checked.prog.funcs[f]? = some fn) :
    b = Tryd.pinned.checked.prog.looks [] ∧ ∀ (j : Nat) t, fn.params[j]? = some t → Tryd.pinned.checked.prog.wantsStandIn t = false := by
  obtain rfl : f = 5 := Option.some.inj ((show Tryd.prog.funcNamed "quayside/quaysidelaw50.KeyringTenants" = some 5 by kernel_rfl).symm.trans hf) |>.symm
  obtain rfl : fn = Tryd.f5 := (Option.some.inj (Tryd.func5.symm.trans hfn)).symm
  refine ⟨hb, fun j t ht => ?_⟩
  rw [Tryd.params5] at ht
  have hm : t ∈ [43, 46] := by simpa using Array.mem_of_getElem? ht
  have hall : ([43, 46].all fun u => !Tryd.prog.wantsStandIn u) = true := by kernel_rfl
  exact (show Tryd.prog.wantsStandIn t = false by simpa using List.all_eq_true.1 hall t hm)

theorem proved : Rows.KeyringTenantsCardSaid :=
  Claim7.holds_tied_plain_at .later [] _ _ _ _ said (fun _ h => by cases h) (by kernel_rfl) (fun _ h => by cases h) keyringTenants_row_tie rfl ⟨rfl, rfl⟩ (by kernel_rfl) rfl (plain _ (by kernel_rfl)) (by kernel_rfl)
#print axioms proved
end Go.Proofs.YtbpbopjlcidefaaDoor.lawKeyringTenants
