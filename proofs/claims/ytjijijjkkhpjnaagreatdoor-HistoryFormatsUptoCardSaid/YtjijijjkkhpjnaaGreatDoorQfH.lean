/- Contracts and plain facts that the statement's proof leans on (texts joined). No condition beyond those that each names. -/
import GoSem.Op.String
import Derived.Lib.ItoaNum
import Derived.Maps.OwnSet
import Derived.Maps.RangeWalk
import Derived.Deep.RegionHeld3
import Derived.OrdersHeld
import Derived.Test.YtjijijjkkhpjnaaGreatDoorQfA
import Derived.Test.YtjijijjkkhpjnaaGreatDoorQfC
import Derived.Test.YtjijijjkkhpjnaaGreatDoorQfE
import Derived.Test.YtjijijjkkhpjnaaGreatDoorQfG
section
namespace Go.Proofs.YtjijijjkkhpjnaaGreatDoor
open Go.RowKit Pl Ad
attribute [local go_sem] ba_get ba_append ba_extract conv_one
set_option maxRecDepth 100000
set_option maxHeartbeats 4000000
set_option linter.unusedVariables false
set_option linter.unusedSimpArgs false
namespace Hy
open A1
def ivals (l : List Nat) : List Value := l.map fun (i : Nat) => Value.int .i64 (i : Int)
theorem tyInts : SliceTy Tryz.prog 150 3 1 8 :=
  ⟨Tryz.underlying150, by
    obtain ⟨i, h1, h2, h3, h4⟩ := info_parts (show (Tryz.prog.info? 3).map (fun i => (i.zero, i.size, i.bytes)) = some (some (.int .i64 0), 1, 8) by kernel_rfl)
    exact ⟨i, _, h1, h2, h3, h4, rfl⟩, by decide, by decide⟩
theorem row_at {α : Type} {R : α → List Value} {k : Nat} {w : World} {a : Option Addr} {n c : Nat} {xs : List α} (h : RowsV R k w (.slice a n c) xs) {i : Nat} {x : α} (hx : xs[i]? = some x) :
    ∃ b o, a = some ⟨b, o, none⟩ ∧ xs.length ≤ c ∧ b < w.heap.size ∧ ∀ j u, (R x)[j]? = some u → w.cell? ⟨b, o + i * k + j, none⟩ = some u := by
  rcases h with ⟨rfl, _⟩ | ⟨b, o, c', h1, h2, h3, h4⟩
  · simp at hx
  · cases h1
    exact ⟨b, o, rfl, h2, h3, fun j u hu => by rw [Nat.add_assoc]; exact h4 i x hx j u hu⟩
theorem keepH {w w' : World} {a : Addr} {v : Value} (hb : Below w.heap.size w w') (h : w.cell? a = some v) : w'.cell? a = some v := (hb.cell (p := a) (World.block_lt_of_cell? w a h)).trans h
theorem versions_any (ps : List PubM) (va vb vc vd ve : Value) (bound fin : Int) (ad tg : Bs) (B : Nat) (w : World) (hp : RowsV pubR 5 w va ps) (hn : ps.length ≤ 1000000) (hpa : ∀ p ∈ ps, PubAt w B p) :
    Calls Tryz.prog 78 #[.agg #[va, vb, vc, vd, ve, .int .i64 bound, .int .i64 fin], .string ⟨ad.toArray⟩, .string ⟨tg.toArray⟩] w fun e w' => ∃ a c, e = .returned (.slice a (versM ps ad tg).length c) ∧ OwnWin w' w.heap.size 3 1 (.slice a (versM ps ad tg).length c) (versM ps ad tg).length (ivals (versM ps ad tg)) ∧ Below w.heap.size w w' := by
  obtain ⟨pa, pc, rfl, _⟩ := hp.form
  have HP := Lib.hid hp
  have HPA := Lib.hid hpa
  have HB0 := Lib.hid ((Below.refl w.heap.size w).alloc (Nat.le_refl _) (.cells #[.slice pa ps.length pc, vb, vc, vd, ve, .int .i64 bound, .int .i64 fin] 69))
  have HN := Lib.hid hn
  clear hp hpa hn
  go_enter Tryz.func78, Tryz.ntmps78
  go_wp2_with fail
  obtain ⟨w1, hw1⟩ : ∃ z, w.alloc (.cells #[.slice pa ps.length pc, vb, vc, vd, ve, .int .i64 bound, .int .i64 fin] 69) = z := ⟨_, rfl⟩
  rw [hw1] at HB0 ⊢
  clear hw1
  go_loopg [13, 7] ps.length (fun gq iv vv wr => ∃ (k : Nat) (acc : List Nat) (a : Option Addr) (c : Nat), iv = .int .i64 k ∧ k ≤ ps.length ∧ Hid (ps.length ≤ gq + k) ∧ vv = .slice a acc.length c ∧ acc.length ≤ k ∧ Hid (versM ps ad tg = acc ++ versF ad tg (ps.drop k) k) ∧ Hid (Below w.heap.size w wr) ∧ Hid (OwnWin wr w.heap.size 3 1 (.slice a acc.length c) acc.length (ivals acc)))
  case atStart => exact ⟨0, [], none, 0, rfl, Nat.zero_le _, Lib.hid (by omega), rfl, Nat.le_refl _, Lib.hid rfl, Lib.hid HB0.out, Lib.hid (OwnWin.nil _ _ _ _)⟩
  case round =>
    obtain ⟨k, acc, a, c, rfl, hk, HQ, rfl, hacc, HV, HB, HO⟩ := hrel
    by_cases hlt : k < ps.length
    · have HLT := Lib.hid hlt
      have hnr := HN.out
      obtain ⟨p, hpk⟩ : ∃ p, ps[k]? = some p := ⟨_, List.getElem?_eq_getElem hlt⟩
      obtain ⟨_, _, hsrc, _⟩ := HPA.out p (List.mem_of_getElem? hpk)
      obtain ⟨b1, o1, rfl, _, hbl, hrow⟩ := row_at HP.out hpk
      have hvs := versF_drop (a := ad) (t := tg) hpk
      obtain ⟨pat, plim, padr, ptag, pbv, pbody⟩ := p
      obtain ⟨ba, bc, hbv⟩ := Sg.src_form hsrc
      simp only at hbv
      subst hbv
      have d0 := keepH HB.out (hrow 0 _ rfl)
      have d1 := keepH HB.out (hrow 1 _ rfl)
      have d2 := keepH HB.out (hrow 2 _ rfl)
      have d3 := keepH HB.out (hrow 3 _ rfl)
      have d4 := keepH HB.out (hrow 4 _ rfl)
      rw [Nat.add_zero] at d0
      have hbz : b1 < wr.heap.size := World.block_lt_of_cell? wr _ d0
      have hb2 := HB.out.alloc HB.out.size (.cells #[.int .i64 pat, .int .i64 plim, .string ⟨padr.toArray⟩, .string ⟨ptag.toArray⟩, .slice ba pbody.length bc] 86)
      have HB2 := Lib.hid hb2
      have HO2 := Lib.hid (HO.out.older ((Below.refl wr.heap.size wr).alloc (Nat.le_refl _) (.cells #[.int .i64 pat, .int .i64 plim, .string ⟨padr.toArray⟩, .string ⟨ptag.toArray⟩, .slice ba pbody.length bc] 86)))
      unfold isV at hvs
      simp only at hvs
      have HVS := Lib.hid hvs
      clear hvs hsrc hrow hpk hb2
      have done : ∀ (h : (padr == ad && ptag == tg) = false), versM ps ad tg = acc ++ versF ad tg (ps.drop (k + 1)) (k + 1) := fun h => by rw [HV.out, HVS.out, if_neg (by rw [h]; decide)]
      have DONE := Lib.hid done
      clear done
      cases h1 : (padr == ad) with
      | false =>
        go_wp2_with fail
        go_roundg (gk - 1)
        case rel => exact ⟨k + 1, acc, a, c, by go_num, by omega, Lib.hid (by have := HQ.out; omega), rfl, by omega, Lib.hid (DONE.out (by rw [h1]; rfl)), Lib.hid HB2.out, Lib.hid HO2.out⟩
        case measure => have := HQ.out; have := HLT.out; omega
      | true =>
        cases h2 : (ptag == tg) with
        | false =>
          go_wp2_with fail
          go_roundg (gk - 1)
          case rel => exact ⟨k + 1, acc, a, c, by go_num, by omega, Lib.hid (by have := HQ.out; omega), rfl, by omega, Lib.hid (DONE.out (by rw [h1, h2]; rfl)), Lib.hid HB2.out, Lib.hid HO2.out⟩
          case measure => have := HQ.out; have := HLT.out; omega
        | true =>
          have HVT := Lib.hid (show versM ps ad tg = (acc ++ [k]) ++ versF ad tg (ps.drop (k + 1)) (k + 1) by rw [HV.out, HVS.out, if_pos (by rw [h1, h2]; rfl)]; simp)
          have haccn : acc.length + 1 ≤ 1099511627776 := by have := HN.out; omega
          go_wp2_with (at_builtin; have HO3 := Lib.hid (HO2.out.older ((Below.refl _ _).alloc (Nat.le_refl _) (.cells #[.int .i64 (k : Int)] 3))); have HB3 := Lib.hid (HB2.out.alloc HB2.out.size (.cells #[.int .i64 (k : Int)] 3)); refine wpList_appw tyInts (by rfl) _ _ (by rfl) w.heap.size (.slice a acc.length c) acc.length _ (by rfl) HO3.out HB3.out.size (.slice (some ⟨wr.heap.size + 1, 0, none⟩) 1 1) 1 [.int .i64 (k : Int)] (by rfl) (SrcAt.one (by have h9 := heap_alloc_new (wr.alloc (.cells #[.int .i64 pat, .int .i64 plim, .string ⟨padr.toArray⟩, .string ⟨ptag.toArray⟩, .slice ba pbody.length bc] 86)) (.cells #[.int .i64 (k : Int)] 3); rw [show (wr.alloc (.cells #[.int .i64 pat, .int .i64 plim, .string ⟨padr.toArray⟩, .string ⟨ptag.toArray⟩, .slice ba pbody.length bc] 86)).heap.size = wr.heap.size + 1 by simp] at h9; exact h9)) (by rfl) (by simp [Value.oneCell']) (by omega) ?_; intro v4 w4 hown4 hgrow4 hlies4; have HB4 := Lib.hid (HB3.out.grown hgrow4 HB3.out.size (fun q hq => (HO3.out.lt q hq).1)); have HO4 := Lib.hid (show OwnWin w4 w.heap.size 3 1 v4 (acc ++ [k]).length (ivals (acc ++ [k])) by rw [List.length_append]; unfold ivals at hown4 ⊢; rw [List.map_append]; exact hown4); clear hown4 hgrow4 hlies4)
          obtain ⟨a4, c4, rfl, _⟩ := HO4.out.form
          go_roundg (gk - 1)
          case rel => exact ⟨k + 1, acc ++ [k], a4, c4, by go_num, by omega, Lib.hid (by have := HQ.out; omega), rfl, by simp; omega, Lib.hid HVT.out, Lib.hid HB4.out, Lib.hid HO4.out⟩
          case measure => have := HQ.out; have := HLT.out; omega
    · obtain rfl : k = ps.length := by omega
      have HE := Lib.hid (show versM ps ad tg = acc by rw [HV.out, List.drop_eq_nil_of_le (Nat.le_refl _)]; simp [versF])
      go_wp2_with fail
      go_ret
      rw [HE.out]
      exact ⟨a, c, rfl, HO.out, HB.out⟩
end Hy
end Go.Proofs.YtjijijjkkhpjnaaGreatDoor
end

section
namespace Go.Proofs.YtjijijjkkhpjnaaGreatDoor
namespace Ad
/-- A key of a tenant. -/
structure KeyM where
  id : Bs
  sec : Bs
  frm : Int
  til : Int
  rev : Int
def KeyM.at (k : KeyM) (now : Int) : Bool := decide (k.frm ≤ now) && decide (now < k.til) && decide (now < k.rev)
section
variable {α : Type} {p : α → Bool} {bt : α → α → Bool} {l : List α}
end
end Ad
end Go.Proofs.YtjijijjkkhpjnaaGreatDoor
end

section
namespace Go.Proofs.YtjijijjkkhpjnaaGreatDoor
open Go.RowKit Pl Ad
set_option maxRecDepth 100000
set_option linter.unusedVariables false
theorem SrcAt.older {w w' : World} {u : Value} {m : Nat} {C : List Value} (h : SrcAt w u m C) (hb : Below w.heap.size w w') : SrcAt w' u m C := by
  rcases h with h | ⟨a, c, h1, h2⟩
  · exact .inl h
  · exact .inr ⟨a, c, h1, fun j x hx => (hb.cell (p := a.add j) (World.block_lt_of_cell? w (a.add j) (h2 j x hx))).trans (h2 j x hx)⟩
namespace Kr
/-- Block R holds these cells. -/
def Bx (w : World) (R T : Nat) (cs : Array Value) : Prop := w.heap[R]? = some (.cells cs T (0, 0))
section
variable {w w' : World} {R T : Nat} {cs : Array Value}
theorem Bx.lt (h : Bx w R T cs) : R < w.heap.size := (Array.getElem?_eq_some_iff.1 h).1
theorem Bx.cell (h : Bx w R T cs) {i : Nat} {v : Value} (hi : cs[i]? = some v) : w.cell? ⟨R, i, none⟩ = some v := by rw [cell_of_row w R i _ _ _ h]; exact hi
theorem Bx.frz (h : Bx w R T cs) (i : Nat) : w.frozen? ⟨R, i, none⟩ = false := frozen_of_row w R i _ _ h
theorem Bx.older (h : Bx w R T cs) (hb : Below w.heap.size w w') : Bx w' R T cs := (hb.block R h.lt).trans h
theorem Bx.below {B : Nat} (h : Bx w R T cs) (hb : Below B w w') (hR : R < B) : Bx w' R T cs := (hb.block R hR).trans h
theorem Bx.touch {S : Nat → Prop} (h : Bx w R T cs) (ht : Touch S w w') (hn : ¬ S R) : Bx w' R T cs := (ht.block R h.lt hn).trans h
theorem Bx.new (w : World) (T : Nat) (cs : Array Value) : Bx (w.alloc (.cells cs T)) w.heap.size T cs := heap_alloc_new w _
theorem Bx.set (h : Bx w R T cs) (i : Nat) (u : Value) : Bx (w.setCell ⟨R, i, none⟩ u) R T (cs.setIfInBounds i u) := by
  unfold Bx at h ⊢
  unfold World.setCell
  simp only [Array.getElem?_modify, if_true, h, Option.map_some]
  rfl
theorem Bx.inj {T' : Nat} {cs' : Array Value} (h : Bx w R T cs) (h' : Bx w R T' cs') : T = T' ∧ cs = cs' := by
  have := Option.some.inj (h.symm.trans h')
  injection this with e1 e2
  exact ⟨e2, e1⟩
end
@[reducible] def ptrK (R : Nat) : Value := .pointer (some ⟨R, 0, none⟩)
/-- A key's variable: its block, the value of its secret, the key. -/
structure Ent where
  blk : Nat
  sv : Value
  key : KeyM
def Ent.cells (e : Ent) : Array Value := #[.string ⟨e.key.id.toArray⟩, e.sv, .int .i64 e.key.frm, .int .i64 e.key.til, .int .i64 e.key.rev]
def Ent.ptr (e : Ent) : Value := ptrK e.blk
/-- The ring's own blocks. -/
def RBlk (R : Nat) (V : Nat → Value) (E : Nat → List Ent) (q : Nat) : Prop := q = R ∨ ∃ t, t < 16 ∧ ((V t).ownBlock = some q ∨ ∃ e ∈ E t, e.blk = q)
section
variable {w w' : World} {B R : Nat} {V : Nat → Value} {E : Nat → List Ent}
/-- What a call may have written. -/
structure RGoes (w w' : World) (R : Nat) (V V' : Nat → Value) (E E' : Nat → List Ent) : Prop where
  touch : Touch (RBlk R V E) w w'
  lies : ∀ q, RBlk R V' E' q → RBlk R V E q ∨ w.heap.size ≤ q
theorem RGoes.of_below (h : Below w.heap.size w w') : RGoes w w' R V V E E := ⟨Touch.of_below h (Nat.le_refl _), fun q hq => .inl hq⟩
theorem RGoes.refl (w : World) : RGoes w w R V V E E := RGoes.of_below (Below.refl _ _)
theorem RGoes.trans {w1 w2 : World} {V1 V2 : Nat → Value} {E1 E2 : Nat → List Ent} (h : RGoes w w1 R V V1 E E1) (k : RGoes w1 w2 R V1 V2 E1 E2) : RGoes w w2 R V V2 E E2 :=
  ⟨h.touch.trans' k.touch fun i hi hs => by
    rcases h.lies i hs with h1 | h1
    · exact h1
    · omega,
   fun q hq => by
    rcases k.lies q hq with h1 | h1
    · exact h.lies q h1
    · exact .inr (Nat.le_trans h.touch.size h1)⟩
theorem RGoes.older {w1 w2 : World} {V1 : Nat → Value} {E1 : Nat → List Ent} (h : RGoes w w1 R V V1 E E1) (hb : Below w1.heap.size w1 w2) : RGoes w w2 R V V1 E E1 := h.trans (RGoes.of_below hb)
end
end Kr
end Go.Proofs.YtjijijjkkhpjnaaGreatDoor
end

section
namespace Go.Proofs.YtjijijjkkhpjnaaGreatDoor
open Go.RowKit Pl Ad Go.Maps
set_option maxRecDepth 100000
set_option linter.unusedVariables false
namespace Hy
open A1
/-- A map tells, address by address, the first element from number k on. -/
structure NextM (ps : List PubM) (k : Nat) (D : DataW Unit) : Prop where
  has : ∀ a : Bs, Maps.has D (.string a) = (fstI ps a k).isSome
  at_ : ∀ (a : Bs) (j : Nat), fstI ps a k = some j → ∀ z, D.atKey (.string a) z = .lit (.int .i64 (j : Int))
theorem nextM_start (ps : List PubM) : NextM ps ps.length (.map []) :=
  ⟨fun a => by rw [fstI_end (Nat.le_refl _)]; rfl, fun a j h => by rw [fstI_end (Nat.le_refl _)] at h; cases h⟩
theorem NextM.put {ps : List PubM} {k : Nat} {D : DataW Unit} {p : PubM} (h : NextM ps (k + 1) D) (hm : IsMap D) (hp : ps[k]? = some p) (hk : WideAt.IsKeyLit (.string p.addr)) : NextM ps k (D.put (.string p.addr) (.lit (.int .i64 (k : Int)))) := by
  refine ⟨fun a => ?_, fun a j hj z => ?_⟩
  · by_cases ha : p.addr = a
    · subst ha
      rw [fstI_hit hp rfl, Maps.has_put_same hm hk]; rfl
    · rw [fstI_miss hp ha, Maps.has_put_other (fun e => ha (Lit.string.inj e).symm)]
      exact h.has a
  · by_cases ha : p.addr = a
    · subst ha
      rw [fstI_hit hp rfl] at hj
      cases hj
      exact Maps.atKey_put_same hm hk _ z
    · rw [fstI_miss hp ha] at hj
      rw [Maps.atKey_put_other (fun e => ha (Lit.string.inj e).symm)]
      exact h.at_ a j hj z
/-- How an element of that map reads. -/
def intElem : Value → Option (DataW Unit × List MemPlace)
  | .int .i64 n => some (.lit (.int .i64 n), [])
  | _ => none
theorem intElem_inv {v : Value} {z : DataW Unit × List MemPlace} (h : intElem v = some z) : ∃ n, v = .int .i64 n ∧ z = (.lit (.int .i64 n), []) := by
  unfold intElem at h
  split at h
  · cases h; exact ⟨_, rfl, rfl⟩
  · cases h
theorem keyedS : Keyed Tryz.prog 9 := string_keyed Tryz.underlying9
theorem keyS {s : Bs} (h : s.length ≤ 9223372036854775807) : keyOf Tryz.prog 9 (.string ⟨s.toArray⟩) = some (.string s) := by
  have := Go.WideMaps.keyOf_string_mk (P := Tryz.prog) Tryz.underlying9 (s := ⟨s.toArray⟩) (by unfold maxLen; exact h)
  simpa using this
theorem keyLitS {s : Bs} (h : s.length ≤ 9223372036854775807) : WideAt.IsKeyLit (.string s) := by
  have := keyedS.key (keyS h)
  exact this
theorem zeroI (w : World) : (zeroValue 3).run Tryz.prog w = .ok (.int .i64 0) w := by kernel_rfl
/-- v, ok := next[address] -/
theorem lookS {w : World} {M n k : Nat} {ps : List PubM} {D : DataW Unit} {a : Bs} (h : w.ownsMap Tryz.prog 9 intElem M n D) (hn : NextM ps k D) (ha : a.length ≤ 9223372036854775807) :
    ∃ c : Int, (Instr.lookup 151 (.map (some M)) (.string ⟨a.toArray⟩) true).run Tryz.prog w = .ok (.tuple #[.int .i64 c, .bool (fstI ps a k).isSome]) w ∧ ∀ j, fstI ps a k = some j → c = (j : Int) := by
  obtain ⟨v, pl, hrun, hv⟩ := h.look_ok keyedS Tryz.underlying151 (zeroI w) (zd := .lit (.int .i64 0)) (zp := []) rfl (keyS ha)
  obtain ⟨c, rfl, hc⟩ := intElem_inv hv
  rw [hn.has] at hrun
  refine ⟨c, hrun, fun j hj => ?_⟩
  have := hn.at_ a j hj (.lit (.int .i64 0))
  rw [this] at hc
  simp only [Prod.mk.injEq] at hc
  have hc1 := hc.1
  injection hc1 with hc2
  injection hc2 with _ hc3
  exact hc3.symm
/-- From number k on the spans are written. -/
def SpOut (ps : List PubM) (k : Nat) (cs : Array Value) : Prop := cs.size = ps.length * 3 ∧ ∀ j, k ≤ j → j < ps.length → ∀ q u, (spanR (spanI ps j))[q]? = some u → cs[j * 3 + q]? = some u
theorem SpOut.row {ps : List PubM} {k : Nat} {cs : Array Value} {p : PubM} (h : SpOut ps (k + 1) cs) (hp : ps[k]? = some p) {x y z : Value} (hs : spanR (spanI ps k) = [x, y, z]) : SpOut ps k (((cs.setIfInBounds (k * 3) x).setIfInBounds (k * 3 + 1) y).setIfInBounds (k * 3 + 2) z) := by
  have hk := (List.getElem?_eq_some_iff.1 hp).1
  refine ⟨by simpa using h.1, fun j hj1 hj2 q u hu => ?_⟩
  have h1 := h.1
  by_cases e : j = k
  · subst e
    rw [hs] at hu
    have hq : q = 0 ∨ q = 1 ∨ q = 2 := by
      have := (List.getElem?_eq_some_iff.1 hu).1
      simp at this; omega
    rcases hq with rfl | rfl | rfl
    · simp at hu; subst hu
      rw [Array.getElem?_setIfInBounds_ne (by omega), Array.getElem?_setIfInBounds_ne (by omega)]
      simp [Array.getElem?_setIfInBounds]; omega
    · simp at hu; subst hu
      rw [Array.getElem?_setIfInBounds_ne (by omega)]
      simp [Array.getElem?_setIfInBounds]; omega
    · simp at hu; subst hu
      simp [Array.getElem?_setIfInBounds]; omega
  · have hq : q < 3 := by
      have := (List.getElem?_eq_some_iff.1 hu).1
      simpa [spanR] using this
    rw [Array.getElem?_setIfInBounds_ne (by omega), Array.getElem?_setIfInBounds_ne (by omega), Array.getElem?_setIfInBounds_ne (by omega)]
    exact h.2 j (by omega) hj2 q u hu
/-- All spans. -/
def spansM (ps : List PubM) : List SpanM := (List.range ps.length).map (spanI ps)
theorem spansM_len (ps : List PubM) : (spansM ps).length = ps.length := by simp [spansM]
theorem spansM_get {ps : List PubM} {i : Nat} (h : i < ps.length) : (spansM ps)[i]? = some (spanI ps i) := by simp [spansM, h]
theorem spans_rows {w : World} {ps : List PubM} {b T : Nat} {cs : Array Value} (h : w.heap[b]? = some (.cells cs T (0, 0))) (hs : SpOut ps 0 cs) : RowsV spanR 3 w (.slice (some ⟨b, 0, none⟩) ps.length ps.length) (spansM ps) := by
  refine .inr ⟨b, 0, ps.length, by rw [spansM_len], by rw [spansM_len]; exact Nat.le_refl _, (Array.getElem?_eq_some_iff.1 h).1, fun i x hx j u hu => ?_⟩
  have hi : i < ps.length := by have := (List.getElem?_eq_some_iff.1 hx).1; rwa [spansM_len] at this
  rw [spansM_get hi] at hx
  cases hx
  rw [cell_of_row w b _ cs T (0, 0) h, Nat.zero_add]
  exact hs.2 i (Nat.zero_le _) hi j u hu
end Hy
end Go.Proofs.YtjijijjkkhpjnaaGreatDoor
end

section
namespace Go.Proofs.YtjijijjkkhpjnaaGreatDoor
open Go.RowKit Pl Ad Go.Maps
attribute [local go_sem] ba_get ba_append ba_extract conv_one
set_option maxRecDepth 100000
set_option maxHeartbeats 4000000
set_option linter.unusedVariables false
set_option linter.unusedSimpArgs false
namespace Hy
open A1 Kr
theorem spOut_row {ps : List PubM} {k : Nat} {cs cs' : Array Value} {x y z : Value} (h : SpOut ps (k + 1) cs) (hs : spanR (spanI ps k) = [x, y, z]) (hz : cs'.size = cs.size) (ho : ∀ i, k * 3 + 3 ≤ i → cs'[i]? = cs[i]?) (h0 : cs'[k * 3]? = some x) (h1 : cs'[k * 3 + 1]? = some y) (h2 : cs'[k * 3 + 2]? = some z) : SpOut ps k cs' := by
  refine ⟨by rw [hz]; exact h.1, fun j hj1 hj2 q u hu => ?_⟩
  by_cases e : j = k
  · subst e
    rw [hs] at hu
    have hq : q = 0 ∨ q = 1 ∨ q = 2 := by
      have := (List.getElem?_eq_some_iff.1 hu).1
      simp at this; omega
    rcases hq with rfl | rfl | rfl
    · simp at hu; subst hu; exact h0
    · simp at hu; subst hu; exact h1
    · simp at hu; subst hu; exact h2
  · rw [ho _ (by omega)]
    exact h.2 j (by omega) hj2 q u hu
theorem wpList_make_span {w : World} {ops : Array Oper} {rest : List Oper} {o : Oper} {a : Act} {Q : Exit → Act → World → Prop} (hg : o.guard = none) (l c : Operand) (hop : o.op = Op.makeSlice 129 l c) (n : Nat) (N : Int)
    (hl : a.eval l = .int .i64 N) (hc : a.eval c = .int .i64 N) (hN : N = (n : Int)) (hn : n ≤ 1000000)
    (hK : ∀ cs : Array Value, cs.size = n * 3 → wpList Tryz.prog ops Q rest (a.put o.dst (.slice (some ⟨w.heap.size, 0, none⟩) n n)) (w.alloc (.cells cs 154))) : wpList Tryz.prog ops Q (o :: rest) a w := by
  refine wpList_plain hg fun K hK' => ?_
  obtain ⟨i, h1, h2, h3, h4⟩ := info_parts (show (Tryz.prog.info? 154).map (fun i => (i.zero, i.size, i.bytes)) = some (some (.agg #[.int .i64 0, .int .i64 0, .bool false]), 3, 24) by kernel_rfl)
  have hr := run_make (P := Tryz.prog) w 129 154 i _ Tryz.underlying129 h1 h2 .i64 .i64 N N (by omega) (Int.le_refl _) (by rw [h4]; omega) (by omega)
  rw [h3] at hr
  subst hN
  unfold Oper.wp
  simp only [Int.toNat_natCast] at hr
  simp [execOp, hop, hl, hc, hr, Result.andThen]
  exact hK' _ _ (hK _ (size_madeCells _ _))
theorem spans_any (ps : List PubM) (va : Value) (B : Nat) (w : World) (hp : RowsV pubR 5 w va ps) (hn : ps.length ≤ 1000000) (hpa : ∀ p ∈ ps, PubAt w B p) (hB : B ≤ 9223372036854775807) :
    Calls Tryz.prog 55 #[va] w fun e w' => ∃ v, e = .returned v ∧ RowsV spanR 3 w' v (spansM ps) ∧ Below w.heap.size w w' := by
  obtain ⟨pa, pc, rfl, _⟩ := hp.form
  have HP := Lib.hid hp
  have HPA := Lib.hid hpa
  have HN := Lib.hid hn
  have HBB := Lib.hid hB
  have hmm := @run_makeMap Tryz.prog
  clear hp hpa hB
  go_enter Tryz.func55, Tryz.ntmps55
  go_wp2_with (at_make; refine wpList_make_span rfl _ _ rfl ps.length _ rfl rfl rfl hn ?_; intro cs0 hcs0)
  obtain ⟨w1, hw1⟩ : ∃ z, (w.alloc (.cells cs0 154)).alloc (.map #[] 0) = z := ⟨_, rfl⟩
  have hz1 : (w.alloc (.cells cs0 154)).heap.size = w.heap.size + 1 := by simp
  have hm1 : w1.ownsMap Tryz.prog 9 intElem (w.heap.size + 1) 0 (.map []) := by
    rw [← hw1, ← hz1]
    exact World.ownsMap_made _ Tryz.prog 9 intElem
  have hx1 : Bx w1 w.heap.size 154 cs0 := by
    rw [← hw1]
    exact (Bx.new w _ cs0).older ((Below.refl _ _).alloc (Nat.le_refl _) _)
  have hb1 : Below w.heap.size w w1 := by
    rw [← hw1]
    exact ((Below.refl _ _).alloc (Nat.le_refl _) _).alloc (by simp) _
  rw [hw1]
  have HM1 := Lib.hid hm1
  have HX1 := Lib.hid hx1
  have HB1 := Lib.hid hb1
  have HS1 := Lib.hid (show SpOut ps ps.length cs0 from ⟨hcs0, fun j h1 h2 => by omega⟩)
  obtain ⟨b0, hb0⟩ : ∃ z, w.heap.size = z := ⟨_, rfl⟩
  clear hm1 hx1 hb1 hcs0 hw1 hz1 hmm hn
  rw [hb0] at HM1 HX1 HB1 ⊢
  go_loopg [5] ps.length (fun gq iv wr => ∃ (k : Nat) (D : DataW Unit) (cs : Array Value), iv = .int .i64 ((k : Int) - 1) ∧ k ≤ ps.length ∧ Hid (k ≤ gq) ∧ Hid (NextM ps k D) ∧ Hid (wr.ownsMap Tryz.prog 9 intElem (b0 + 1) (ps.length - k) D) ∧ Hid (Bx wr b0 154 cs) ∧ Hid (SpOut ps k cs) ∧ Hid (Below b0 w wr))
  case atStart => exact ⟨ps.length, _, cs0, rfl, Nat.le_refl _, Lib.hid (Nat.le_refl _), Lib.hid (nextM_start ps), Lib.hid (HM1.out.mono (Nat.zero_le _)), HX1, HS1, HB1⟩
  case round =>
    obtain ⟨k, D, cs, rfl, hk, HQ, HNX, HM, HX, HSP, HB⟩ := hrel
    by_cases hk0 : k = 0
    · subst hk0
      have HR := Lib.hid (spans_rows HX.out HSP.out)
      clear hk
      go_wp2_with fail
      go_ret
      exact ⟨_, rfl, HR.out, by have := HB.out; rwa [← hb0] at this⟩
    · obtain ⟨j, rfl⟩ : ∃ j, k = j + 1 := ⟨k - 1, by omega⟩
      have hj : j < ps.length := by omega
      obtain ⟨p, hpj⟩ : ∃ p, ps[j]? = some p := ⟨_, List.getElem?_eq_getElem hj⟩
      have hpp := HPA.out p (List.mem_of_getElem? hpj)
      obtain ⟨b1, o1, rfl, _, hbl, hrow⟩ := row_at HP.out hpj
      have hbw := HB.out
      rw [← hb0] at hbw
      have HBW := Lib.hid hbw
      clear hbw
      have hal : p.addr.length ≤ 9223372036854775807 := by have := hpp.1; have := HBB.out; omega
      obtain ⟨ba, bc, hbv⟩ := Sg.src_form hpp.2.2.1
      have hsp := spanI_at hpj
      have d0 := keepH HBW.out (hrow 0 _ rfl)
      have d1 := keepH HBW.out (hrow 1 _ rfl)
      have d2 := keepH HBW.out (hrow 2 _ rfl)
      have d3 := keepH HBW.out (hrow 3 _ rfl)
      have d4 := keepH HBW.out (hrow 4 _ rfl)
      rw [Nat.add_zero] at d0
      rw [hbv] at d4
      have hfit : j * 3 + 2 < cs.size := by rw [HSP.out.1]; omega
      obtain ⟨z0, c0⟩ : ∃ z, wr.cell? ⟨b0, j * 3, none⟩ = some z := ⟨_, HX.out.cell (Array.getElem?_eq_getElem (by omega))⟩
      obtain ⟨z1, c1⟩ : ∃ z, wr.cell? ⟨b0, j * 3 + 1, none⟩ = some z := ⟨_, HX.out.cell (Array.getElem?_eq_getElem (by omega))⟩
      obtain ⟨z2, c2⟩ : ∃ z, wr.cell? ⟨b0, j * 3 + 2, none⟩ = some z := ⟨_, HX.out.cell (Array.getElem?_eq_getElem (by omega))⟩
      have f0 := HX.out.frz (j * 3)
      have f1 := HX.out.frz (j * 3 + 1)
      have f2 := HX.out.frz (j * 3 + 2)
      have hbz : b1 < wr.heap.size := World.block_lt_of_cell? wr _ d0
      have hxz := HX.out.lt
      have hw : IntKind.i64.wrap ((j : Int) - 1) = (j : Int) - 1 := IntWalk.i64_in _ (by have := HN.out; omega)
      have e1 : (((j + 1 : Nat)) : Int) - 1 = (j : Int) := by omega
      rw [e1]
      have e2 : ¬ ((j : Int) < 0) := by omega
      have HPB : Hid (p.bodyV = .slice ba p.body.length bc) := Lib.hid hbv
      obtain ⟨pat, plim, padr, ptag, pbv, pbody⟩ := p
      simp only at d0 d1 d2 d3 d4 hal hsp
      have HM2 := Lib.hid (HM.out.alloc (.cells #[.int .i64 pat, .int .i64 plim, .string ⟨padr.toArray⟩, .string ⟨ptag.toArray⟩, .slice ba pbody.length bc] 86))
      obtain ⟨c, hrun, hc⟩ := lookS HM2.out HNX.out hal
      have HNP := Lib.hid (HNX.out.put HM.out.isMap hpj (keyLitS hal))
      have HJ := Lib.hid hj
      have HFIT := Lib.hid hfit
      have HAL := Lib.hid hal
      cases hf : fstI ps padr (j + 1) with
      | none =>
        have hS : spanR (spanI ps j) = [.int .i64 pat, .int .i64 0, .bool false] := by
          rw [hsp, endO_none hpj hf]; rfl
        have HS := Lib.hid hS
        rw [hf] at hrun
        clear hS hsp hf hc hpj hpp hrow hbv hfit hal hj
        simp only [Option.isSome_none] at hrun
        go_wp2_with (at_mapUpdate; go_must (refine wpList_mapUpdate_own _ (by rfl) _ _ _ _ (by rfl) 9 3 keyedS Tryz.underlying151 intElem (b0 + 1) (ps.length - (j + 1)) D (by rfl) (World.ownsMap.alloc (World.ownsMap.setCell (World.ownsMap.setCell (World.ownsMap.setCell HM.out (by simp) _) (by simp) _) (by simp) _) _) (by unfold maxLen; have := HN.out; omega) _ _ (.string padr) (by rfl) (by rfl) (keyS HAL.out) (.lit (.int .i64 (j : Int))) [] (by rfl) ?_); intro w4 hm4 hg4; have HM4 := Lib.hid hm4; have HG4 := Lib.hid hg4; clear hm4 hg4)
        have HT4 := Lib.hid (Touch.trans (((((Touch.refl (fun q => b0 ≤ q) wr).setCell (show b0 ≤ _ from Nat.le_refl b0) _).setCell (show b0 ≤ _ from Nat.le_refl b0) _).setCell (show b0 ≤ _ from Nat.le_refl b0) _).alloc _) (Touch.of_grown (S := fun q => b0 ≤ q) HG4.out (fun k hk => by cases hk; exact Nat.le_succ b0)))
        have HX4 := Lib.hid (((((HX.out.set (j * 3) (.int .i64 pat)).set (j * 3 + 1) (.int .i64 0)).set (j * 3 + 2) (.bool false)).older ((Below.refl _ _).alloc (Nat.le_refl _) _)).touch (Touch.of_grown (S := fun q => q = b0 + 1) HG4.out (fun k hk => by cases hk; rfl)) (by omega))
        go_roundg (gk - 1)
        case rel => exact ⟨j, _, _, by go_num, by omega, Lib.hid (by have := HQ.out; omega), Lib.hid HNP.out, Lib.hid (HM4.out.mono (by have := HJ.out; omega)), Lib.hid HX4.out, Lib.hid (spOut_row HSP.out HS.out (by simp) (fun i hi => by (repeat rw [Array.getElem?_setIfInBounds_ne (by omega)])) (by simp [Array.getElem?_setIfInBounds]; have := HFIT.out; omega) (by simp [Array.getElem?_setIfInBounds]; have := HFIT.out; omega) (by simp [Array.getElem?_setIfInBounds]; have := HFIT.out; omega)), Lib.hid (HB.out.trans (HT4.out.below (by omega) (fun i hi => hi)))⟩
        case measure => have := HQ.out; omega
      | some t =>
        obtain ⟨_, htl⟩ := fstI_lt hf
        obtain ⟨q, hqt⟩ : ∃ q, ps[t]? = some q := ⟨_, List.getElem?_eq_getElem htl⟩
        have hS : spanR (spanI ps j) = [.int .i64 pat, .int .i64 q.at_, .bool true] := by
          rw [hsp, endO_some hpj hf hqt]; rfl
        have HS := Lib.hid hS
        obtain ⟨b2, o2, e3, _, _, hrow2⟩ := row_at HP.out hqt
        cases e3
        have g0 := keepH HBW.out (hrow2 0 _ rfl)
        rw [Nat.add_zero] at g0
        obtain rfl := hc t hf
        rw [hf] at hrun
        have htn : (t : Int) < (ps.length : Int) := by omega
        clear hS hsp hf hc hpj hpp hrow hbv hfit hal hj hrow2 hqt
        simp only [Option.isSome_some] at hrun
        go_wp2_with (at_mapUpdate; go_must (refine wpList_mapUpdate_own _ (by rfl) _ _ _ _ (by rfl) 9 3 keyedS Tryz.underlying151 intElem (b0 + 1) (ps.length - (j + 1)) D (by rfl) (World.ownsMap.alloc (World.ownsMap.setCell (World.ownsMap.setCell (World.ownsMap.setCell (World.ownsMap.setCell (World.ownsMap.setCell HM.out (by simp) _) (by simp) _) (by simp) _) (by simp) _) (by simp) _) _) (by unfold maxLen; have := HN.out; omega) _ _ (.string padr) (by rfl) (by rfl) (keyS HAL.out) (.lit (.int .i64 (j : Int))) [] (by rfl) ?_); intro w4 hm4 hg4; have HM4 := Lib.hid hm4; have HG4 := Lib.hid hg4; clear hm4 hg4)
        have HT4 := Lib.hid (Touch.trans (((((((Touch.refl (fun q => b0 ≤ q) wr).setCell (show b0 ≤ _ from Nat.le_refl b0) _).setCell (show b0 ≤ _ from Nat.le_refl b0) _).setCell (show b0 ≤ _ from Nat.le_refl b0) _).setCell (show b0 ≤ _ from Nat.le_refl b0) _).setCell (show b0 ≤ _ from Nat.le_refl b0) _).alloc _) (Touch.of_grown (S := fun q => b0 ≤ q) HG4.out (fun k hk => by cases hk; exact Nat.le_succ b0)))
        have HX4 := Lib.hid (((((((HX.out.set (j * 3) (.int .i64 pat)).set (j * 3 + 1) (.int .i64 0)).set (j * 3 + 2) (.bool false)).set (j * 3 + 1) (.int .i64 q.at_)).set (j * 3 + 2) (.bool true)).older ((Below.refl _ _).alloc (Nat.le_refl _) _)).touch (Touch.of_grown (S := fun q => q = b0 + 1) HG4.out (fun k hk => by cases hk; rfl)) (by omega))
        go_roundg (gk - 1)
        case rel => exact ⟨j, _, _, by go_num, by omega, Lib.hid (by have := HQ.out; omega), Lib.hid HNP.out, Lib.hid (HM4.out.mono (by have := HJ.out; omega)), Lib.hid HX4.out, Lib.hid (spOut_row HSP.out HS.out (by simp) (fun i hi => by (repeat rw [Array.getElem?_setIfInBounds_ne (by omega)])) (by simp [Array.getElem?_setIfInBounds]; have := HFIT.out; omega) (by simp [Array.getElem?_setIfInBounds]; have := HFIT.out; omega) (by simp [Array.getElem?_setIfInBounds]; have := HFIT.out; omega)), Lib.hid (HB.out.trans (HT4.out.below (by omega) (fun i hi => hi)))⟩
        case measure => have := HQ.out; omega
end Hy
end Go.Proofs.YtjijijjkkhpjnaaGreatDoor
end

section
namespace Go.Proofs.YtjijijjkkhpjnaaGreatDoor
open Go
namespace Hd
section
variable {P : Program} {ops : Array Oper} {Q : Exit → Act → World → Prop} {md : Region.Mode} {S : World → Prop} {oi : Oper} {v : Value} {fuel : Nat} {listed : Array Bool} {a : Act} {w : World}
/-- Take number i first: it yields v. -/
theorem tk (i : Nat) (h : wpAnyH P md ops Q S fuel (listed.setIfInBounds i true) (a.put oi.dst v) w)
    (hi : ops[i]? = some oi := by simp only [List.getElem?_toArray, List.getElem?_cons_succ, List.getElem?_cons_zero]; rfl)
    (hs : Region.noSelect ops = true := by kernel_rfl) (hf : Region.free md ops listed i = true := by kernel_rfl) (hr : (Region.ready md ops listed).contains i = true := by kernel_rfl)
    (hQ : ∀ c a w, Q (.panic c) (a.put oi.dst v) w → Q (.panic c) a w := by intro _ _ _ h; exact h) (hw : Region.wanted oi (yielded ops a.tmps) = true := by rfl) (hS : S w := by assumption)
    (hv : ∀ w, S w → (execOp a.eval oi).run P w = .ok (.value v) w := by intro wT hT; (try dsimp only at hT); go_simp; try with_reducible rfl) :
    wpAnyH P md ops Q S (fuel + 1) listed a w := wpAnyH_take hi hs hf hr hQ (Or.inl ⟨hw, hv⟩) hS h
/-- Pass number i over: its guard shuts it out. -/
theorem sk (i : Nat) (h : wpAnyH P md ops Q S fuel (listed.setIfInBounds i true) (a.put oi.dst undef) w)
    (hi : ops[i]? = some oi := by simp only [List.getElem?_toArray, List.getElem?_cons_succ, List.getElem?_cons_zero]; rfl)
    (hs : Region.noSelect ops = true := by kernel_rfl) (hf : Region.free md ops listed i = true := by kernel_rfl) (hr : (Region.ready md ops listed).contains i = true := by kernel_rfl)
    (hQ : ∀ c a w, Q (.panic c) (a.put oi.dst undef) w → Q (.panic c) a w := by intro _ _ _ h; exact h) (hw : Region.wanted oi (yielded ops a.tmps) = false := by rfl) (hS : S w := by assumption) :
    wpAnyH P md ops Q S (fuel + 1) listed a w := wpAnyH_take hi hs hf hr hQ (Or.inr ⟨hw, rfl⟩) hS h
end
end Hd
end Go.Proofs.YtjijijjkkhpjnaaGreatDoor
end

section
namespace Go.Proofs.YtjijijjkkhpjnaaGreatDoor
open Go.RowKit Pl Ad
attribute [local go_sem] ba_get ba_append ba_extract conv_one
set_option maxRecDepth 100000
set_option maxHeartbeats 4000000
set_option linter.unusedVariables false
set_option linter.unusedSimpArgs false
namespace Hy
open A1 Kr
theorem versF_len (a t : Bs) : ∀ (ps : List PubM) (k : Nat), (versF a t ps k).length ≤ ps.length
  | [], _ => Nat.le_refl _
  | p :: r, k => by
    have := versF_len a t r (k + 1)
    unfold versF
    split <;> simp <;> omega
theorem versM_len (ps : List PubM) (a t : Bs) : (versM ps a t).length ≤ ps.length := versF_len a t ps 0
theorem lastM_in {x : SpanM} {u : Int} (hx : inB x.til) (hu : inB u) : -1152921504606846977 ≤ (lastM x u).1 ∧ (lastM x u).1 ≤ 1152921504606846976 := by
  unfold inB at hx hu
  unfold lastM
  split
  · split
    · simp only; omega
    · simp only; omega
  · simp only; omega
theorem endO_in {ps : List PubM} (h : ∀ p ∈ ps, inB p.at_) (i : Nat) : inB ((endO ps i).getD 0) := by
  unfold endO
  have h0 : inB (0 : Int) := ⟨by decide, by decide⟩
  split
  · exact h0
  · split
    · exact h0
    · rename_i k _
      cases hk : ps[k]? with
      | none => exact h0
      | some q => exact h q (List.mem_of_getElem? hk)
theorem old_yes {h : HisM} {s : SrvM} {i : Nat} (hi : i ∈ versM h.pubs s.addr s.tag) (hl : inLimB h s i = true) : oldB h s = false := by
  unfold oldB
  rw [Bool.and_eq_false_iff]
  right
  rw [Bool.eq_false_iff]
  intro h2
  have := List.all_eq_true.1 h2 i hi
  rw [hl] at this; cases this
theorem old_end {h : HisM} {s : SrvM} (ha : ∀ (k i : Nat), (versM h.pubs s.addr s.tag)[k]? = some i → inLimB h s i = false) : oldB h s = decide (0 < (versM h.pubs s.addr s.tag).length) := by
  unfold oldB
  rw [show ((versM h.pubs s.addr s.tag).all fun i => !inLimB h s i) = true from List.all_eq_true.2 fun i hi => by
    obtain ⟨k, hk, rfl⟩ := List.getElem_of_mem hi
    rw [ha k _ (List.getElem?_eq_getElem hk)]; rfl]
  cases versM h.pubs s.addr s.tag with
  | nil => rfl
  | cons a l => rw [Bool.and_true]; symm; exact decide_eq_true (by simp)
theorem old_any (ps : List PubM) (gs : List PrgM) (ss : List SrvM) (fs : List FetM) (ds : List DroM) (va vb vc vd ve : Value) (bound fin : Int) (allv : Value) (edge sadr stag : Bs) (ten ask at_ frm til : Int) (ta : Option Addr) (tn tc : Nat) (qa : Option Addr) (qn qc : Nat) (ended : Bool) (tags : List Bs) (parts : List PartM) (B : Nat) (w : World) (hp : RowsV pubR 5 w va ps) (hn : ps.length ≤ 1000000) (hpa : ∀ p ∈ ps, PubAt w B p) (hall : RowsV spanR 3 w allv (spansM ps)) (hin : ∀ p ∈ ps, inB p.at_ ∧ inB p.lim) (hat : inB at_) (hask : inB ask) :
    Calls Tryz.prog 58 #[.agg #[va, vb, vc, vd, ve, .int .i64 bound, .int .i64 fin], allv, .agg #[.string ⟨edge.toArray⟩, .string ⟨sadr.toArray⟩, .string ⟨stag.toArray⟩, .int .i64 ten, .int .i64 ask, .int .i64 at_, .int .i64 frm, .int .i64 til, .slice ta tn tc, .slice qa qn qc, .bool ended]] w fun e w' => e = .returned (.bool (oldB ⟨ps, gs, ss, fs, ds, bound, fin⟩ ⟨edge, sadr, stag, ten, ask, at_, frm, til, .slice ta tn tc, tags, .slice qa qn qc, parts, ended⟩)) ∧ Below w.heap.size w w' := by
  obtain ⟨pa, pc, rfl, _⟩ := hp.form
  obtain ⟨xa, xc, rfl, _⟩ := hall.form
  rw [spansM_len] at hall ⊢
  obtain ⟨h, hh⟩ : ∃ h : HisM, (⟨ps, gs, ss, fs, ds, bound, fin⟩ : HisM) = h := ⟨_, rfl⟩
  obtain ⟨s, hs⟩ : ∃ s : SrvM, (⟨edge, sadr, stag, ten, ask, at_, frm, til, .slice ta tn tc, tags, .slice qa qn qc, parts, ended⟩ : SrvM) = s := ⟨_, rfl⟩
  rw [hh, hs]
  have HV0 : Hid (versM h.pubs s.addr s.tag = versM ps sadr stag) := Lib.hid (by rw [← hh, ← hs])
  have HLB : Hid (∀ (i : Nat) (p : PubM), ps[i]? = some p → inLimB h s i = ((lastM (spanI ps i) at_).2 && decide (ask - (lastM (spanI ps i) at_).1 ≤ p.lim))) := Lib.hid (fun i p hp => by rw [← hh, ← hs]; unfold inLimB; simp only [hp])
  have HYES := Lib.hid (fun (i : Nat) (hi : i ∈ versM ps sadr stag) hl => old_yes (h := h) (s := s) (by rw [HV0.out]; exact hi) hl)
  have HEND := Lib.hid (fun (ha : ∀ (k i : Nat), (versM ps sadr stag)[k]? = some i → inLimB h s i = false) => (old_end (h := h) (s := s) (by rw [HV0.out]; exact ha)).trans (by rw [HV0.out]))
  have HB0 := Lib.hid (((Below.refl w.heap.size w).alloc (Nat.le_refl _) (.cells #[.slice pa ps.length pc, vb, vc, vd, ve, .int .i64 bound, .int .i64 fin] 69)).alloc (by simp) (.cells #[.string ⟨edge.toArray⟩, .string ⟨sadr.toArray⟩, .string ⟨stag.toArray⟩, .int .i64 ten, .int .i64 ask, .int .i64 at_, .int .i64 frm, .int .i64 til, .slice ta tn tc, .slice qa qn qc, .bool ended] 82))
  have HXH := Lib.hid ((Bx.new w 69 #[.slice pa ps.length pc, vb, vc, vd, ve, .int .i64 bound, .int .i64 fin]).older ((Below.refl _ _).alloc (Nat.le_refl _) (.cells #[.string ⟨edge.toArray⟩, .string ⟨sadr.toArray⟩, .string ⟨stag.toArray⟩, .int .i64 ten, .int .i64 ask, .int .i64 at_, .int .i64 frm, .int .i64 til, .slice ta tn tc, .slice qa qn qc, .bool ended] 82)))
  have HXS := Lib.hid (show Bx ((w.alloc (.cells #[.slice pa ps.length pc, vb, vc, vd, ve, .int .i64 bound, .int .i64 fin] 69)).alloc (.cells #[.string ⟨edge.toArray⟩, .string ⟨sadr.toArray⟩, .string ⟨stag.toArray⟩, .int .i64 ten, .int .i64 ask, .int .i64 at_, .int .i64 frm, .int .i64 til, .slice ta tn tc, .slice qa qn qc, .bool ended] 82)) (w.heap.size + 1) 82 #[.string ⟨edge.toArray⟩, .string ⟨sadr.toArray⟩, .string ⟨stag.toArray⟩, .int .i64 ten, .int .i64 ask, .int .i64 at_, .int .i64 frm, .int .i64 til, .slice ta tn tc, .slice qa qn qc, .bool ended] by have := Bx.new (w.alloc (.cells #[.slice pa ps.length pc, vb, vc, vd, ve, .int .i64 bound, .int .i64 fin] 69)) 82 #[.string ⟨edge.toArray⟩, .string ⟨sadr.toArray⟩, .string ⟨stag.toArray⟩, .int .i64 ten, .int .i64 ask, .int .i64 at_, .int .i64 frm, .int .i64 til, .slice ta tn tc, .slice qa qn qc, .bool ended]; simpa using this)
  have HP := Lib.hid hp
  have HAL := Lib.hid hall
  have HPA := Lib.hid hpa
  have HIN := Lib.hid hin
  have HAT := Lib.hid hat
  have HN := Lib.hid hn
  have HCA : Hid (∀ w, Calls Tryz.prog 57 #[.int .i64 ask] w fun e w' => e = .returned (.int .i64 ask) ∧ w = w') := Lib.hid (fun w => by have := hclip_any ask w; rwa [clipN_in hask] at this)
  have hkb : -1152921504606846976 ≤ ask ∧ ask ≤ 1152921504606846976 := hask
  clear hp hall hpa hin hat hask hn hh hs HV0
  go_enter Tryz.func58, Tryz.ntmps58
  go_wp2_with fail
  obtain ⟨w1, hw1⟩ : ∃ z, (w.alloc (.cells #[.slice pa ps.length pc, vb, vc, vd, ve, .int .i64 bound, .int .i64 fin] 69)).alloc (.cells #[.string ⟨edge.toArray⟩, .string ⟨sadr.toArray⟩, .string ⟨stag.toArray⟩, .int .i64 ten, .int .i64 ask, .int .i64 at_, .int .i64 frm, .int .i64 til, .slice ta tn tc, .slice qa qn qc, .bool ended] 82) = z := ⟨_, rfl⟩
  obtain ⟨b0, hb0⟩ : ∃ z, w.heap.size = z := ⟨_, rfl⟩
  obtain ⟨b1, hb1⟩ : ∃ z, w.heap.size + 1 = z := ⟨_, rfl⟩
  rw [hw1] at HB0 HXH HXS ⊢
  rw [hb1] at HXS ⊢
  rw [hb0] at HXH ⊢
  have HB1 : Hid (Below w.heap.size w w1) := HB0
  clear hw1 HB0 hb1
  refine (versions_any ps (.slice pa ps.length pc) vb vc vd ve bound fin sadr stag B _ (HP.out.below HB1.out) HN.out (fun p hp => by have := HPA.out p hp; exact ⟨this.1, this.2.1, this.2.2.1.older HB1.out, this.2.2.2.1, this.2.2.2.2.below HB1.out⟩)).mono ?_
  rintro e w2 ⟨oa, oc, rfl, ho2, hb2⟩
  obtain ⟨vs, hvs⟩ : ∃ vs, versM ps sadr stag = vs := ⟨_, rfl⟩
  rw [hvs] at HYES HEND ho2 ⊢
  have HMEM := Lib.hid (fun (i : Nat) (hi : i ∈ vs) => versM_mem.1 (hvs ▸ hi))
  have HB2 := Lib.hid (HB1.out.trans (hb2.mono HB1.out.size))
  have HXH2 := Lib.hid (HXH.out.older hb2)
  have HXS2 := Lib.hid (HXS.out.older hb2)
  have HO2 := Lib.hid ho2
  have hvl : vs.length ≤ 1000000 := by rw [← hvs]; exact Nat.le_trans (versM_len _ _ _) HN.out
  clear ho2 hb2 HXH HXS HB1 hvs
  go_wp2_with fail
  go_loopg [20] vs.length (fun gq iv wr => ∃ k : Nat, iv = .int .i64 k ∧ k ≤ vs.length ∧ Hid (vs.length ≤ gq + k) ∧ Hid (∀ (j i : Nat), j < k → vs[j]? = some i → inLimB h s i = false) ∧ Hid (Below w2.heap.size w2 wr))
  case atStart => exact ⟨0, rfl, Nat.zero_le _, Lib.hid (by omega), Lib.hid (fun j i hj => by omega), Lib.hid (Below.refl _ _)⟩
  case round =>
    obtain ⟨k, rfl, hk, HQ, HNO, HBW⟩ := hrel
    by_cases hlt : k < vs.length
    · have HLT := Lib.hid hlt
      obtain ⟨i, hik⟩ : ∃ i, vs[k]? = some i := ⟨_, List.getElem?_eq_getElem hlt⟩
      obtain ⟨p, hpi, _⟩ := HMEM.out i (List.mem_of_getElem? hik)
      have HIK := Lib.hid hik
      have hil := (List.getElem?_eq_some_iff.1 hpi).1
      have hpin := HIN.out p (List.mem_of_getElem? hpi)
      have htil := endO_in (fun p hp => (HIN.out p hp).1) i
      have htl := lastM_in (x := spanI ps i) (u := at_) (by rw [spanI_at hpi]; exact htil) HAT.out
      have htl0 : inB (spanI ps i).til := by rw [spanI_at hpi]; exact htil
      have htl1 : -4611686018427387904 ≤ (spanI ps i).til := by unfold inB at htl0; omega
      have htl2 : (spanI ps i).til ≤ 4611686018427387904 := by unfold inB at htl0; omega
      have hlb := HLB.out i p hpi
      have hlim : inB p.lim := hpin.2
      have HCL : Hid (∀ w, Calls Tryz.prog 57 #[.int .i64 p.lim] w fun e w' => e = .returned (.int .i64 p.lim) ∧ w = w') := Lib.hid (fun w => by have := hclip_any p.lim w; rwa [clipN_in hlim] at this)
      obtain ⟨og, oo, oc', e9, _, _, _, _, hcell⟩ := HO2.out.cells (by omega)
      cases e9
      have o0 := keepH HBW.out (hcell k (.int .i64 (i : Int)) (by unfold ivals; rw [List.getElem?_map, hik]; rfl))
      obtain ⟨pb, po, rfl, _, _, hprow⟩ := row_at HP.out hpi
      obtain ⟨xb, xo, e8, _, _, hxrow⟩ := row_at (HAL.out) (spansM_get hil)
      cases e8
      have y1 := keepH HBW.out (keepH HB2.out (hprow 1 _ rfl))
      have x0 := keepH HBW.out (keepH HB2.out (hxrow 0 _ rfl))
      have x1 := keepH HBW.out (keepH HB2.out (hxrow 1 _ rfl))
      have x2 := keepH HBW.out (keepH HB2.out (hxrow 2 _ rfl))
      rw [Nat.add_zero] at x0
      have s4 := (HXS2.out.older HBW.out).cell (i := 4) rfl
      have s5 := (HXS2.out.older HBW.out).cell (i := 5) rfl
      have h0 := (HXH2.out.older HBW.out).cell (i := 0) rfl
      clear hpin htil htl0 hcell hprow hxrow hik hlim
      obtain ⟨plim, hplim⟩ : ∃ z, p.lim = z := ⟨_, rfl⟩
      rw [hplim] at y1 HCL hlb
      clear hplim hpi
      go_wp2_with fail
      refine wp_region_held_drew (S := (fun w' => w'.cell? ⟨b1, 5, none⟩ = some (.int .i64 at_) ∧ w'.cell? ⟨xb, xo + i * 3, none⟩ = some (.int .i64 (spanI ps i).frm) ∧ w'.cell? ⟨xb, xo + i * 3 + 1, none⟩ = some (.int .i64 (spanI ps i).til) ∧ w'.cell? ⟨xb, xo + i * 3 + 2, none⟩ = some (.bool (spanI ps i).ends))) (by kernel_rfl) (by exact ⟨s5, x0, x1, x2⟩) (fun hHeld => ?_)
      refine Hd.tk 0 ?_
      try simp only [Act.put, List.setIfInBounds_toArray, List.set_cons_zero, List.set_cons_succ]
      refine Hd.tk 1 ?_
      try simp only [Act.put, List.setIfInBounds_toArray, List.set_cons_zero, List.set_cons_succ]
      refine Hd.tk 2 ?_
      try simp only [Act.put, List.setIfInBounds_toArray, List.set_cons_zero, List.set_cons_succ]
      refine Hd.tk 3 ?_
      try simp only [Act.put, List.setIfInBounds_toArray, List.set_cons_zero, List.set_cons_succ]
      refine Hd.tk 4 ?_
      try simp only [Act.put, List.setIfInBounds_toArray, List.set_cons_zero, List.set_cons_succ]
      refine Hd.tk 5 ?_
      try simp only [Act.put, List.setIfInBounds_toArray, List.set_cons_zero, List.set_cons_succ]
      refine wpAnyH_ready (rs := [6]) (by kernel_rfl) (by simp) (AllReadyH.cons (by simp only [List.getElem?_toArray, List.getElem?_cons_succ, List.getElem?_cons_zero]; rfl) (fun K hK => ?_) AllReadyH.nil)
      go_simp
      go_at_call 80
      refine (last_any (spanI ps i) at_ _ htl1 htl2).mono ?_
      rintro e wq1 ⟨rfl, hq1⟩
      have hqw1 : Below wr.heap.size wr wq1 := ((Below.refl _ _).drew).trans hq1
      go_wp2_with fail
      refine hK.out _ _ (by exact ⟨keepH hqw1 s5, keepH hqw1 x0, keepH hqw1 x1, keepH hqw1 x2⟩) (fun hHe1 => ?_)
      clear hK K
      try simp only [Act.put, List.setIfInBounds_toArray, List.set_cons_zero, List.set_cons_succ]
      refine Hd.tk 7 ?_
      try simp only [Act.put, List.setIfInBounds_toArray, List.set_cons_zero, List.set_cons_succ]
      refine Hd.tk 8 ?_
      try simp only [Act.put, List.setIfInBounds_toArray, List.set_cons_zero, List.set_cons_succ]
      refine Hd.tk 9 ?_
      try simp only [Act.put, List.setIfInBounds_toArray, List.set_cons_zero, List.set_cons_succ]
      refine Hd.tk 10 ?_
      try simp only [Act.put, List.setIfInBounds_toArray, List.set_cons_zero, List.set_cons_succ]
      refine Hd.tk 11 ?_
      try simp only [Act.put, List.setIfInBounds_toArray, List.set_cons_zero, List.set_cons_succ]
      refine wpAnyH_done (by kernel_rfl) ?_ _
      obtain ⟨m, okb, hmo⟩ : ∃ m okb, lastM (spanI ps i) at_ = (m, okb) := ⟨_, _, rfl⟩
      rw [hmo] at htl hlb ⊢
      simp only at htl hlb ⊢
      have HLM := Lib.hid hlb
      have HCM : Hid (∀ w, Calls Tryz.prog 57 #[.int .i64 m] w fun e w' => e = .returned (.int .i64 m) ∧ w = w') := Lib.hid (fun w => by have := hclip_any m w; rwa [show clipN m = m by unfold clipN farN; omega] at this)
      have hw1 : IntKind.i64.wrap (ask - m) = ask - m := IntWalk.i64_in _ (by omega)
      have HBQ := Lib.hid (HBW.out.trans (hqw1.mono HBW.out.size))
      have hq4 := keepH hqw1 s4
      have hq0 := keepH hqw1 h0
      have hqy := keepH hqw1 y1
      clear hlb hmo s4 s5 h0 y1 x0 x1 x2 htl o0
      have s4 := hq4
      have h0 := hq0
      have y1 := hqy
      clear hq4 hq0 hqy htl1 htl2
      cases okb with
      | false =>
        go_wp2_with fail
        refine wp_region_held_drew (S := (fun w' => w'.cell? ⟨b1, 4, none⟩ = some (.int .i64 ask) ∧ w'.cell? ⟨b0, 0, none⟩ = some (.slice (some ⟨pb, po, none⟩) ps.length pc) ∧ w'.cell? ⟨pb, po + i * 5 + 1, none⟩ = some (.int .i64 plim))) (by kernel_rfl) (by exact ⟨s4, h0, y1⟩) (fun hHeld => ?_)
        refine Hd.tk 0 ?_
        try simp only [Act.put, List.setIfInBounds_toArray, List.set_cons_zero, List.set_cons_succ]
        refine Hd.tk 1 ?_
        try simp only [Act.put, List.setIfInBounds_toArray, List.set_cons_zero, List.set_cons_succ]
        refine Hd.sk 2 ?_
        try simp only [Act.put, List.setIfInBounds_toArray, List.set_cons_zero, List.set_cons_succ]
        refine Hd.sk 3 ?_
        try simp only [Act.put, List.setIfInBounds_toArray, List.set_cons_zero, List.set_cons_succ]
        refine Hd.sk 4 ?_
        try simp only [Act.put, List.setIfInBounds_toArray, List.set_cons_zero, List.set_cons_succ]
        refine Hd.sk 5 ?_
        try simp only [Act.put, List.setIfInBounds_toArray, List.set_cons_zero, List.set_cons_succ]
        refine Hd.sk 6 ?_
        try simp only [Act.put, List.setIfInBounds_toArray, List.set_cons_zero, List.set_cons_succ]
        refine Hd.sk 7 ?_
        try simp only [Act.put, List.setIfInBounds_toArray, List.set_cons_zero, List.set_cons_succ]
        refine Hd.sk 8 ?_
        try simp only [Act.put, List.setIfInBounds_toArray, List.set_cons_zero, List.set_cons_succ]
        refine Hd.sk 9 ?_
        try simp only [Act.put, List.setIfInBounds_toArray, List.set_cons_zero, List.set_cons_succ]
        refine Hd.sk 10 ?_
        try simp only [Act.put, List.setIfInBounds_toArray, List.set_cons_zero, List.set_cons_succ]
        refine Hd.sk 11 ?_
        try simp only [Act.put, List.setIfInBounds_toArray, List.set_cons_zero, List.set_cons_succ]
        refine Hd.sk 12 ?_
        try simp only [Act.put, List.setIfInBounds_toArray, List.set_cons_zero, List.set_cons_succ]
        refine Hd.sk 13 ?_
        try simp only [Act.put, List.setIfInBounds_toArray, List.set_cons_zero, List.set_cons_succ]
        refine Hd.sk 14 ?_
        try simp only [Act.put, List.setIfInBounds_toArray, List.set_cons_zero, List.set_cons_succ]
        refine Hd.sk 15 ?_
        try simp only [Act.put, List.setIfInBounds_toArray, List.set_cons_zero, List.set_cons_succ]
        refine Hd.tk 16 ?_
        try simp only [Act.put, List.setIfInBounds_toArray, List.set_cons_zero, List.set_cons_succ]
        refine wpAnyH_done (by kernel_rfl) ?_ _
        go_wp2_with fail
        go_roundg (gk - 1)
        case rel => exact ⟨k + 1, by go_num, by omega, Lib.hid (by have := HQ.out; omega), Lib.hid (fun j i2 hj hi2 => by
          rcases Nat.lt_succ_iff_lt_or_eq.1 hj with h9 | rfl
          · exact HNO.out j i2 h9 hi2
          · rw [HIK.out] at hi2; cases hi2; exact HLM.out), Lib.hid HBQ.out.drew⟩
        case measure => have := HQ.out; have := HLT.out; omega
      | true =>
        by_cases hle : ask - m ≤ plim
        · have HD := Lib.hid (HYES.out i (List.mem_of_getElem? HIK.out) (by rw [HLM.out, decide_eq_true hle]; rfl))
          go_wp2_with fail
          refine wp_region_held_drew (S := (fun w' => w'.cell? ⟨b1, 4, none⟩ = some (.int .i64 ask) ∧ w'.cell? ⟨b0, 0, none⟩ = some (.slice (some ⟨pb, po, none⟩) ps.length pc) ∧ w'.cell? ⟨pb, po + i * 5 + 1, none⟩ = some (.int .i64 plim))) (by kernel_rfl) (by exact ⟨s4, h0, y1⟩) (fun hHeld => ?_)
          refine Hd.tk 0 ?_
          try simp only [Act.put, List.setIfInBounds_toArray, List.set_cons_zero, List.set_cons_succ]
          refine Hd.tk 1 ?_
          try simp only [Act.put, List.setIfInBounds_toArray, List.set_cons_zero, List.set_cons_succ]
          refine Hd.tk 2 ?_
          try simp only [Act.put, List.setIfInBounds_toArray, List.set_cons_zero, List.set_cons_succ]
          refine Hd.tk 3 ?_
          try simp only [Act.put, List.setIfInBounds_toArray, List.set_cons_zero, List.set_cons_succ]
          refine Hd.tk 5 ?_
          try simp only [Act.put, List.setIfInBounds_toArray, List.set_cons_zero, List.set_cons_succ]
          refine Hd.tk 8 ?_
          try simp only [Act.put, List.setIfInBounds_toArray, List.set_cons_zero, List.set_cons_succ]
          refine Hd.tk 9 ?_
          try simp only [Act.put, List.setIfInBounds_toArray, List.set_cons_zero, List.set_cons_succ]
          refine Hd.tk 10 ?_
          try simp only [Act.put, List.setIfInBounds_toArray, List.set_cons_zero, List.set_cons_succ]
          refine Hd.tk 11 ?_
          try simp only [Act.put, List.setIfInBounds_toArray, List.set_cons_zero, List.set_cons_succ]
          refine Hd.tk 12 ?_
          try simp only [Act.put, List.setIfInBounds_toArray, List.set_cons_zero, List.set_cons_succ]
          refine Hd.tk 13 ?_
          try simp only [Act.put, List.setIfInBounds_toArray, List.set_cons_zero, List.set_cons_succ]
          refine wpAnyH_ready (rs := [4]) (by kernel_rfl) (by simp) (AllReadyH.cons (by simp only [List.getElem?_toArray, List.getElem?_cons_succ, List.getElem?_cons_zero]; rfl) (fun K hK => ?_) AllReadyH.nil)
          go_simp
          go_at_call 57
          refine (HCA.out _).mono ?_
          rintro e wq2 ⟨rfl, rfl⟩
          go_wp2_with fail
          refine hK.out _ _ (by exact ⟨s4, h0, y1⟩) (fun hHe2 => ?_)
          clear hK K
          try simp only [Act.put, List.setIfInBounds_toArray, List.set_cons_zero, List.set_cons_succ]
          refine wpAnyH_ready (rs := [6]) (by kernel_rfl) (by simp) (AllReadyH.cons (by simp only [List.getElem?_toArray, List.getElem?_cons_succ, List.getElem?_cons_zero]; rfl) (fun K hK => ?_) AllReadyH.nil)
          go_simp
          go_at_call 57
          refine (HCM.out _).mono ?_
          rintro e wq3 ⟨rfl, rfl⟩
          go_wp2_with fail
          refine hK.out _ _ (by exact ⟨s4, h0, y1⟩) (fun hHe3 => ?_)
          clear hK K
          try simp only [Act.put, List.setIfInBounds_toArray, List.set_cons_zero, List.set_cons_succ]
          refine Hd.tk 7 ?_
          try simp only [Act.put, List.setIfInBounds_toArray, List.set_cons_zero, List.set_cons_succ]
          refine wpAnyH_ready (rs := [14]) (by kernel_rfl) (by simp) (AllReadyH.cons (by simp only [List.getElem?_toArray, List.getElem?_cons_succ, List.getElem?_cons_zero]; rfl) (fun K hK => ?_) AllReadyH.nil)
          go_simp
          go_at_call 57
          refine (HCL.out _).mono ?_
          rintro e wq4 ⟨rfl, rfl⟩
          go_wp2_with fail
          refine hK.out _ _ (by exact ⟨s4, h0, y1⟩) (fun hHe4 => ?_)
          clear hK K
          try simp only [Act.put, List.setIfInBounds_toArray, List.set_cons_zero, List.set_cons_succ]
          refine Hd.tk 15 ?_
          try simp only [Act.put, List.setIfInBounds_toArray, List.set_cons_zero, List.set_cons_succ]
          refine Hd.tk 16 ?_
          try simp only [Act.put, List.setIfInBounds_toArray, List.set_cons_zero, List.set_cons_succ]
          refine wpAnyH_done (by kernel_rfl) ?_ _
          go_wp2_with fail
          rw [HD.out]
          go_ret
          exact ⟨rfl, HB2.out.trans (HBQ.out.drew.mono HB2.out.size)⟩
        · have hlf : decide (ask - m ≤ plim) = false := decide_eq_false hle
          have HD := Lib.hid (show inLimB h s i = false by rw [HLM.out, hlf]; rfl)
          go_wp2_with fail
          refine wp_region_held_drew (S := (fun w' => w'.cell? ⟨b1, 4, none⟩ = some (.int .i64 ask) ∧ w'.cell? ⟨b0, 0, none⟩ = some (.slice (some ⟨pb, po, none⟩) ps.length pc) ∧ w'.cell? ⟨pb, po + i * 5 + 1, none⟩ = some (.int .i64 plim))) (by kernel_rfl) (by exact ⟨s4, h0, y1⟩) (fun hHeld => ?_)
          refine Hd.tk 0 ?_
          try simp only [Act.put, List.setIfInBounds_toArray, List.set_cons_zero, List.set_cons_succ]
          refine Hd.tk 1 ?_
          try simp only [Act.put, List.setIfInBounds_toArray, List.set_cons_zero, List.set_cons_succ]
          refine Hd.tk 2 ?_
          try simp only [Act.put, List.setIfInBounds_toArray, List.set_cons_zero, List.set_cons_succ]
          refine Hd.tk 3 ?_
          try simp only [Act.put, List.setIfInBounds_toArray, List.set_cons_zero, List.set_cons_succ]
          refine Hd.tk 5 ?_
          try simp only [Act.put, List.setIfInBounds_toArray, List.set_cons_zero, List.set_cons_succ]
          refine Hd.tk 8 ?_
          try simp only [Act.put, List.setIfInBounds_toArray, List.set_cons_zero, List.set_cons_succ]
          refine Hd.tk 9 ?_
          try simp only [Act.put, List.setIfInBounds_toArray, List.set_cons_zero, List.set_cons_succ]
          refine Hd.tk 10 ?_
          try simp only [Act.put, List.setIfInBounds_toArray, List.set_cons_zero, List.set_cons_succ]
          refine Hd.tk 11 ?_
          try simp only [Act.put, List.setIfInBounds_toArray, List.set_cons_zero, List.set_cons_succ]
          refine Hd.tk 12 ?_
          try simp only [Act.put, List.setIfInBounds_toArray, List.set_cons_zero, List.set_cons_succ]
          refine Hd.tk 13 ?_
          try simp only [Act.put, List.setIfInBounds_toArray, List.set_cons_zero, List.set_cons_succ]
          refine wpAnyH_ready (rs := [4]) (by kernel_rfl) (by simp) (AllReadyH.cons (by simp only [List.getElem?_toArray, List.getElem?_cons_succ, List.getElem?_cons_zero]; rfl) (fun K hK => ?_) AllReadyH.nil)
          go_simp
          go_at_call 57
          refine (HCA.out _).mono ?_
          rintro e wq2 ⟨rfl, rfl⟩
          go_wp2_with fail
          refine hK.out _ _ (by exact ⟨s4, h0, y1⟩) (fun hHe2 => ?_)
          clear hK K
          try simp only [Act.put, List.setIfInBounds_toArray, List.set_cons_zero, List.set_cons_succ]
          refine wpAnyH_ready (rs := [6]) (by kernel_rfl) (by simp) (AllReadyH.cons (by simp only [List.getElem?_toArray, List.getElem?_cons_succ, List.getElem?_cons_zero]; rfl) (fun K hK => ?_) AllReadyH.nil)
          go_simp
          go_at_call 57
          refine (HCM.out _).mono ?_
          rintro e wq3 ⟨rfl, rfl⟩
          go_wp2_with fail
          refine hK.out _ _ (by exact ⟨s4, h0, y1⟩) (fun hHe3 => ?_)
          clear hK K
          try simp only [Act.put, List.setIfInBounds_toArray, List.set_cons_zero, List.set_cons_succ]
          refine Hd.tk 7 ?_
          try simp only [Act.put, List.setIfInBounds_toArray, List.set_cons_zero, List.set_cons_succ]
          refine wpAnyH_ready (rs := [14]) (by kernel_rfl) (by simp) (AllReadyH.cons (by simp only [List.getElem?_toArray, List.getElem?_cons_succ, List.getElem?_cons_zero]; rfl) (fun K hK => ?_) AllReadyH.nil)
          go_simp
          go_at_call 57
          refine (HCL.out _).mono ?_
          rintro e wq4 ⟨rfl, rfl⟩
          go_wp2_with fail
          refine hK.out _ _ (by exact ⟨s4, h0, y1⟩) (fun hHe4 => ?_)
          clear hK K
          try simp only [Act.put, List.setIfInBounds_toArray, List.set_cons_zero, List.set_cons_succ]
          refine Hd.tk 15 ?_
          try simp only [Act.put, List.setIfInBounds_toArray, List.set_cons_zero, List.set_cons_succ]
          refine Hd.tk 16 ?_
          try simp only [Act.put, List.setIfInBounds_toArray, List.set_cons_zero, List.set_cons_succ]
          refine wpAnyH_done (by kernel_rfl) ?_ _
          go_wp2_with fail
          go_roundg (gk - 1)
          case rel => exact ⟨k + 1, by go_num, by omega, Lib.hid (by have := HQ.out; omega), Lib.hid (fun j i2 hj hi2 => by
            rcases Nat.lt_succ_iff_lt_or_eq.1 hj with h9 | rfl
            · exact HNO.out j i2 h9 hi2
            · rw [HIK.out] at hi2; cases hi2; exact HD.out), Lib.hid HBQ.out.drew⟩
          case measure => have := HQ.out; have := HLT.out; omega
    · obtain rfl : k = vs.length := by omega
      have HD := Lib.hid (HEND.out (fun j i hi => HNO.out j i (List.getElem?_eq_some_iff.1 hi).1 hi))
      go_wp2_with fail
      rw [HD.out]
      go_ret
      exact ⟨rfl, HB2.out.trans (HBW.out.mono HB2.out.size)⟩
end Hy
end Go.Proofs.YtjijijjkkhpjnaaGreatDoor
end

