/- PROVED: HistoryTimes returns true for every input and leaves its arguments as they were. No condition beyond the statement's own (the listed variables read as the program's text lays them, which the card ties). -/
import Derived.Deep.DeepCutAuto
import Derived.Test.YtjijijjkkhpjnaaGreatDoorQcA
import Derived.Test.YtjijijjkkhpjnaaGreatDoorQcG
import Derived.Test.YtjijijjkkhpjnaaGreatDoorQcL
import Derived.Test.YtjijijjkkhpjnaaGreatDoorQcM
namespace Go.Proofs.YtjijijjkkhpjnaaGreatDoor.lawHistoryTimes
open Go.ChangeShapes Go.WideShapes Go.ChangeAt Go.RowKit Pl Ad A1 Hy Kr
open Go.ChangeMaps (open_string shut_string)
attribute [local go_sem] ba_get conv_one conv_one_drewN ba_append ba_extract
set_option maxRecDepth 100000
set_option maxHeartbeats 4000000
set_option linter.unusedVariables false
set_option linter.unusedSimpArgs false

def timesT (f : Nat → Nat) : Nat → Int
  | 0 => 0
  | k + 1 => timesT f k + ((f k : Int) + 1)
theorem timesT_le {f : Nat → Nat} (hf : ∀ j, f j ≤ 255) : ∀ k, 0 ≤ timesT f k ∧ timesT f k ≤ 256 * (k : Int)
  | 0 => ⟨by show (0 : Int) ≤ 0; omega, by show (0 : Int) ≤ _; omega⟩
  | k + 1 => by
    obtain ⟨h1, h2⟩ := timesT_le hf k
    have := hf k
    show 0 ≤ timesT f k + ((f k : Int) + 1) ∧ timesT f k + ((f k : Int) + 1) ≤ _
    omega
theorem u8_of {k : Nat} (h : k < 256) : ((UInt8.ofNat k).toNat : Int) = (k : Int) := by simp; omega
/-- What the law has published. -/
def TimesL (f : Nat → Nat) (lim : Int) (ps : List PubM) : Prop := ∀ i p, ps[i]? = some p → p.at_ = timesT f (i + 1) ∧ p.lim = lim ∧ p.addr = keyX ∧ p.tag = Lib.decDigits i ∧ p.body = [UInt8.ofNat i]
theorem TimesL.push {f : Nat → Nat} {lim : Int} {ps : List PubM} (h : TimesL f lim ps) (bv : Value) : TimesL f lim (ps ++ [⟨timesT f (ps.length + 1), lim, keyX, Lib.decDigits ps.length, bv, [UInt8.ofNat ps.length]⟩]) := fun i p hp => by
  by_cases hi : i < ps.length
  · rw [List.getElem?_append_left hi] at hp
    exact h i p hp
  · rw [List.getElem?_append_right (by omega)] at hp
    obtain ⟨h0, h1⟩ := List.getElem?_eq_some_iff.1 hp
    have : i = ps.length := by simp at h0; omega
    subst this
    simp at h1
    subst h1
    exact ⟨rfl, rfl, rfl, rfl, rfl⟩
structure TimesW (w1 w : World) (b0 : Nat) (pv : Value) (ps : List PubM) : Prop where
  bel : Below w1.heap.size w1 w
  h0 : w1.heap.size ≤ b0
  box : Bx w b0 69 #[pv, .slice none 0 0, .slice none 0 0, .slice none 0 0, .slice none 0 0, .int .i64 0, .int .i64 0]
  pub : OwnWin w w1.heap.size 86 5 pv ps.length (ps.flatMap pubR)
  bod : ∀ p ∈ ps, ∃ (g : Nat) (b : UInt8), p.bodyV = .slice (some ⟨g, 0, none⟩) 1 1 ∧ p.body = [b] ∧ Bx w g 5 #[.int .u8 b.toNat]
section
variable {w1 w w' : World} {b0 : Nat} {pv : Value} {ps : List PubM}
theorem TimesW.older (h : TimesW w1 w b0 pv ps) (hb : Below w.heap.size w w') : TimesW w1 w' b0 pv ps :=
  ⟨h.bel.trans (hb.mono h.bel.size), h.h0, h.box.older hb, h.pub.older hb, fun p hp => by
    obtain ⟨g, b, e1, e2, e3⟩ := h.bod p hp
    exact ⟨g, b, e1, e2, e3.older hb⟩⟩
theorem TimesW.boxP (h : TimesW w1 w b0 pv ps) (hg : w.grownBy w' pv.ownBlock) : Bx w' b0 69 #[pv, .slice none 0 0, .slice none 0 0, .slice none 0 0, .slice none 0 0, .int .i64 0, .int .i64 0] :=
  h.box.touch (Touch.of_grown (S := fun q => pv.ownBlock = some q) hg (fun k hk => hk)) (fun hq => h.box.neOwn h.pub (by decide) _ hq rfl)
theorem TimesW.add (h : TimesW w1 w b0 pv ps) {v : Value} {x : PubM} {g : Nat} {b : UInt8} (ho : OwnWin w' w1.heap.size 86 5 v (ps.length + 1) (ps.flatMap pubR ++ pubR x)) (hg : w.grownBy w' pv.ownBlock) (hv : v.ownBlock = pv.ownBlock ∨ v.ownBlock = some w.heap.size) (hx : x.bodyV = .slice (some ⟨g, 0, none⟩) 1 1) (hxb : x.body = [b]) (hb : Bx w g 5 #[.int .u8 b.toNat]) :
    TimesW w1 (w'.setCell ⟨b0, 0, none⟩ v) b0 v (ps ++ [x]) := by
  have ht := Touch.of_grown (S := fun q => pv.ownBlock = some q) hg (fun k hk => hk)
  have hb2 := h.boxP hg
  have hs := touch_set1 w' b0 0 v
  have hl : (ps ++ [x]).length = ps.length + 1 := by simp
  have hkeep : ∀ g' (b' : UInt8), Bx w g' 5 #[.int .u8 b'.toNat] → Bx (w'.setCell ⟨b0, 0, none⟩ v) g' 5 #[.int .u8 b'.toNat] := fun g' b' hB => by
    have h1 := hB.touch ht (fun hq => hB.neOwn h.pub (by decide) _ hq rfl)
    refine h1.touch hs (fun e => ?_)
    subst e
    exact absurd (h1.inj hb2).1 (by decide)
  refine ⟨?_, h.h0, hb2.set 0 v, ?_, fun p hp => ?_⟩
  · exact (h.bel.grown hg h.bel.size (fun q hq => (h.pub.lt q hq).1)).trans (hs.below (Nat.le_trans h.bel.size hg.size) (fun i hi => by rw [hi]; exact h.h0))
  · rw [hl, List.flatMap_append]
    have : [x].flatMap pubR = pubR x := by simp
    rw [this]
    exact ho.touch hs (fun q hq e => hb2.neOwn ho (by decide) q hq e)
  · rcases List.mem_append.1 hp with hp | hp
    · obtain ⟨g', b', e1, e2, e3⟩ := h.bod p hp
      exact ⟨g', b', e1, e2, hkeep g' b' e3⟩
    · rw [List.mem_singleton.1 hp]
      exact ⟨g, b, hx, hxb, hkeep g b hb⟩
end
structure TimesX (w1 w : World) (b0 : Nat) (pv : Value) (ps : List PubM) (B : Array Value) : Prop where
  bel : Below w1.heap.size w1 w
  h0 : w1.heap.size ≤ b0
  box : Bx w b0 69 B
  pub : OwnWin w w1.heap.size 86 5 pv ps.length (ps.flatMap pubR)
  bod : ∀ p ∈ ps, ∃ (g : Nat) (b : UInt8), p.bodyV = .slice (some ⟨g, 0, none⟩) 1 1 ∧ p.body = [b] ∧ Bx w g 5 #[.int .u8 b.toNat]
section
variable {w1 w w' : World} {b0 : Nat} {pv : Value} {ps : List PubM} {B : Array Value}
theorem TimesW.tox (h : TimesW w1 w b0 pv ps) : TimesX w1 w b0 pv ps #[pv, .slice none 0 0, .slice none 0 0, .slice none 0 0, .slice none 0 0, .int .i64 0, .int .i64 0] := ⟨h.bel, h.h0, h.box, h.pub, h.bod⟩
theorem TimesX.older (h : TimesX w1 w b0 pv ps B) (hb : Below w.heap.size w w') : TimesX w1 w' b0 pv ps B :=
  ⟨h.bel.trans (hb.mono h.bel.size), h.h0, h.box.older hb, h.pub.older hb, fun p hp => by
    obtain ⟨g, b, e1, e2, e3⟩ := h.bod p hp
    exact ⟨g, b, e1, e2, e3.older hb⟩⟩
theorem TimesX.al (h : TimesX w1 w b0 pv ps B) (o : Obj) : TimesX w1 (w.alloc o) b0 pv ps B := h.older ((Below.refl _ _).alloc (Nat.le_refl _) o)
theorem TimesX.set (h : TimesX w1 w b0 pv ps B) (i : Nat) (v : Value) : TimesX w1 (w.setCell ⟨b0, i, none⟩ v) b0 pv ps (B.setIfInBounds i v) := by
  have hs := touch_set1 w b0 i v
  refine ⟨?_, h.h0, h.box.set i v, h.pub.touch hs (fun q hq e => h.box.neOwn h.pub (by decide) q hq e), fun p hp => ?_⟩
  · exact h.bel.trans (hs.below h.bel.size (fun j hj => by rw [hj]; exact h.h0))
  · obtain ⟨g, b, e1, e2, e3⟩ := h.bod p hp
    exact ⟨g, b, e1, e2, e3.touch hs (fun e => by subst e; exact absurd (e3.inj h.box).1 (by decide))⟩
theorem TimesX.lt (h : TimesX w1 w b0 pv ps B) : b0 < w.heap.size := h.box.lt
theorem TimesX.setB (h : TimesX w1 w b0 pv ps B) {R T i : Nat} {cs : Array Value} {v : Value} (k : Bx w R T cs) (hT : ¬ T = 69) : Bx (w.setCell ⟨b0, i, none⟩ v) R T cs :=
  k.touch (touch_set1 w b0 i v) (fun e => by subst e; exact hT (k.inj h.box).1)
end
theorem decS {n : Nat} (h : n ≤ 1000) : (Lib.decDigits n).length ≤ 1000 := Nat.le_trans (dec_len19 (by omega)) (by decide)
theorem TimesL.mem {f : Nat → Nat} {lim : Int} {ps : List PubM} (h : TimesL f lim ps) {p : PubM} (hp : p ∈ ps) : ∃ i, i < ps.length ∧ p.at_ = timesT f (i + 1) ∧ p.lim = lim ∧ p.addr = keyX ∧ p.tag = Lib.decDigits i ∧ p.body = [UInt8.ofNat i] := by
  obtain ⟨i, hi, rfl⟩ := List.getElem_of_mem hp
  exact ⟨i, hi, h i _ (List.getElem?_eq_getElem hi)⟩
theorem times_at {w1 w : World} {b0 : Nat} {pv : Value} {ps : List PubM} {B : Array Value} (h : TimesX w1 w b0 pv ps B) (hl : ps.length ≤ 20) {f : Nat → Nat} {lim : Int} (htl : TimesL f lim ps) {g gs gp gr m : Nat} {u0 sk ord stl : Int} (hm : m < 20)
    (k1 : Bx w g 5 #[.int .u8 (m : Int)]) (k2 : Bx w gp 88 #[.int .i64 u0, .int .i64 0, .slice (some ⟨g, 0, none⟩) 1 1])
    (k3 : Bx w gs 82 #[.string ⟨#[]⟩, .string ⟨#[97, 46, 101, 120, 97, 109, 112, 108, 101, 47, 120]⟩, .string ⟨(Lib.decDigits m).toArray⟩, .int .i64 0, .int .i64 sk, .int .i64 u0, .int .i64 0, .int .i64 1, .slice none 0 0, .slice (some ⟨gp, 0, none⟩) 1 1, .bool true])
    (k4 : Bx w gr 97 #[.string ⟨#[112, 114, 101, 102, 105, 120, 32, 48, 32, 97, 46, 101, 120, 97, 109, 112, 108, 101, 47]⟩, .int .i64 ord, .int .i64 stl]) :
    HisAt w 1000 pv (.slice (some ⟨gr, 0, none⟩) 1 1) (.slice (some ⟨gs, 0, none⟩) 1 1) (.slice none 0 0) (.slice none 0 0) (timesH ps (timesS m u0 sk (.slice (some ⟨g, 0, none⟩) 1 1) (.slice none 0 0) (.slice (some ⟨gp, 0, none⟩) 1 1)) ord stl) := by
  have hk : keyX.length ≤ 1000 := by decide
  have hd : SrcAt w (.slice (some ⟨g, 0, none⟩) 1 1) 1 (bvals [UInt8.ofNat m]) := by
    have := src_cells (w := w) (n := 1) (c := 1) k1
    have e : bvals [UInt8.ofNat m] = [Value.int .u8 (m : Int)] := by show [Value.int .u8 ((UInt8.ofNat m).toNat : Int)] = _; rw [u8_of (by omega)]
    rw [e]; exact this
  refine ⟨rows_ownF h.pub pubR_len, Nat.le_trans hl (by decide), fun p hp => ?_, rows_bx k4 rfl prgR_len (Nat.le_refl _) rfl, by simp [timesH], fun x hx => ?_, rows_bx k3 rfl srvR_len (Nat.le_refl _) rfl, by simp [timesH], fun s hs => ?_, .inl ⟨rfl, .inl rfl⟩, by simp [timesH], fun p hp => (by cases hp), .inl ⟨rfl, .inl rfl⟩, by simp [timesH], fun p hp => (by cases hp)⟩
  · obtain ⟨i, hi, _, _, e3, e4, e5⟩ := htl.mem hp
    obtain ⟨q, b, f1, f2, f3⟩ := h.bod p hp
    refine ⟨by rw [e3]; exact hk, by rw [e4]; exact decS (by omega), ?_, by rw [f2]; simp, ?_⟩
    · rw [f1, f2]; exact src_cells f3
    · rw [f1, f2]; exact bytes_bx [b] f3 rfl (by simp) rfl
  · rw [List.mem_singleton.1 hx]; show prefT.length ≤ 1000; decide
  · rw [List.mem_singleton.1 hs]
    refine ⟨by simp [timesS], hk, decS (by omega), .inl ⟨rfl, .inl rfl⟩, by simp [timesS], fun t ht => (by cases ht), rows_bx k2 rfl partR_len (Nat.le_refl _) rfl, by simp [timesS], fun x hx => ?_⟩
    rw [List.mem_singleton.1 hx]
    exact ⟨hd, by simp⟩
theorem times_small {f : Nat → Nat} {lim : Int} {ps : List PubM} (hf : ∀ j, f j ≤ 255) (hl : ps.length ≤ 20) (htl : TimesL f lim ps) (ml : 0 ≤ lim ∧ lim < 256) {m : Nat} {u0 sk ord stl : Int} {dv tv pv : Value} (h0 : 0 ≤ u0 ∧ u0 < 4000) (h1 : 0 ≤ sk ∧ sk < 4000) (h2 : 0 ≤ ord ∧ ord < 4000) (h3 : 0 ≤ stl ∧ stl < 8000) :
    (timesH ps (timesS m u0 sk dv tv pv) ord stl).Small := by
  refine ⟨fun p hp => ?_, fun g hg => ?_, fun s hs => ?_, fun p hp => (by cases hp), fun p hp => (by cases hp), by unfold Hy.inB timesH; simp only; omega, by unfold Hy.inB timesH; simp only; omega, Nat.le_trans hl (by decide), by simp [timesH], by simp [timesH], by simp [timesH], by simp [timesH]⟩
  · obtain ⟨i, hi, e1, e2, _⟩ := htl.mem hp
    have := timesT_le hf (i + 1)
    unfold Hy.inB; rw [e1, e2]; omega
  · rw [List.mem_singleton.1 hg]; unfold Hy.inB; simp only; omega
  · rw [List.mem_singleton.1 hs]
    refine ⟨by unfold Hy.inB timesS; simp only; omega, by unfold Hy.inB timesS; simp only; omega, fun x hx => ?_⟩
    rw [List.mem_singleton.1 hx]; unfold Hy.inB; simp only; omega
theorem times_p {f : Nat → Nat} {lim : Int} {ps : List PubM} (htl : TimesL f lim ps) : TimesP (fun i => timesT f (i + 1)) lim ps :=
  ⟨fun i => by show timesT f (i + 1) < timesT f (i + 1) + ((f (i + 1) : Int) + 1); omega, htl⟩
theorem one_len {r : Int} {tx : Bs} {α : Type} {bad : Nat → α → Bool} {x : α} : (vioF r tx bad [x] 0).length = if bad 0 x = true then 1 else 0 := by
  unfold vioF vioF; cases bad 0 x <;> rfl
/-- What the four calls answer. -/
theorem times_rules {f : Nat → Nat} {lim : Int} {ps : List PubM} (htl : TimesL f lim ps) {m : Nat} (hm : m < ps.length) (ml : 0 ≤ lim ∧ lim < 256) {u0 sk ord stl : Int} {dv tv pv : Value} (h0 : 0 ≤ u0 ∧ u0 < 4000) (h1 : sk ≤ u0) (h2 : 0 ≤ ord ∧ ord < 4000) (h3 : 0 ≤ stl ∧ stl < ord + 100)
    {tm te : Int} (e1 : timesT f (m + 1) = tm) (e2 : endT (fun i => timesT f (i + 1)) ps.length m = te) :
    (ruleL (timesH ps (timesS m u0 sk dv tv pv) ord stl) 3).length = (if (decide (tm ≤ u0) && (decide (u0 < te) || decide (sk - (te - 1) ≤ lim))) = true then 0 else 1) ∧
    (ruleL (timesH ps (timesS m u0 sk dv tv pv) ord stl) 1).length = (if (decide (stl < u0) && decide (te ≤ ord)) = true then 1 else 0) ∧
    (ruleL (timesH ps (timesS m u0 sk dv tv pv) ord stl) 2).length = 0 ∧ (ruleL (timesH ps (timesS m u0 sk dv tv pv) ord stl) 4).length = 0 := by
  have hp := times_p htl
  refine ⟨?_, ?_, ?_, ?_⟩
  · show (vio3 _).length = _
    unfold vio3
    show (vioF 3 tx3 _ [timesS m u0 sk dv tv pv] 0).length = _
    rw [one_len, times_old hp hm ml.1 h1 (by omega)]
    simp only [e1, e2]
    generalize (decide (tm ≤ u0) && (decide (u0 < te) || decide (sk - (te - 1) ≤ lim))) = b
    cases b <;> rfl
  · show (vio1 _).length = _
    unfold vio1
    show (vioF 1 tx1 _ [timesS m u0 sk dv tv pv] 0).length = _
    rw [one_len, times_purged hp hm h3.1 (by omega)]
    rw [e2]
  · show (vio2 _).length = _
    unfold vio2
    show (vioF 2 tx2 _ [(⟨prefT, ord, stl⟩ : PrgM)] 0).length = _
    rw [one_len, times_late (by omega), if_neg (by simp; omega)]
  · show (vio4 _).length = _
    unfold vio4
    show (vioF 4 tx4 _ [timesS m u0 sk dv tv pv] 0).length = _
    rw [one_len, times_mixed hp hm]; rfl
theorem src_lits {w : World} {C : Array Value} {e : TypeId} {n : Nat} : SrcAt (w.alloc (.cells C e)) (.slice (some ⟨w.heap.size, 0, none⟩) n n) n C.toList := src_cells (heap_alloc_new w _)
theorem byte_row {H : Type} {enc : TypeId × Value → H} {w : World} {base n : Nat} {spare : Nat → Bool} {held : Bool} {cs : List Value} {y : DataW H × List MemPlace} (hl : cs.length = 1)
    (h : DataW.trod enc Tryz.prog w base spare held n 5 cs = some y) : ∃ b : UInt8, cs = Sg.byteC b ∧ True := by
  obtain ⟨b, hb⟩ := Sg.byte_trod hl h
  exact ⟨b, hb, trivial⟩
theorem walk (acts : Bs) (v : Value) (which lim : Int) (n0 n1 n2 n3 : Nat) (w : World) (hr : Ready w) (hp : A1.ParseAt w) (hx : RowsV Sg.byteC 1 w v acts) (hl : acts.length ≤ 9223372036854775807) (mw : 0 ≤ which ∧ which < 256) (ml : 0 ≤ lim ∧ lim < 256) (qn : n0 < 65536 ∧ n1 < 65536 ∧ n2 < 65536 ∧ n3 < 65536) :
    Calls Tryz.prog 9 #[v, .int .u8 which, .int .u8 lim, .agg #[.int .u16 n0, .int .u16 n1, .int .u16 n2, .int .u16 n3]] w fun e w' => e = .returned (.bool true) ∧ Below w.heap.size w w' := by
  obtain ⟨ua, uc, rfl, _⟩ := hx.form
  obtain ⟨ml1, ml2⟩ := ml
  obtain ⟨qn0, qn1, qn2, qn3⟩ := qn
  obtain ⟨wi, rfl⟩ : ∃ z : Nat, which = (z : Int) := ⟨which.toNat, by omega⟩
  have hwi : wi < 256 := by omega
  clear mw
  have HX := Lib.hid hx
  have HRY := Lib.hid hr
  have HPW := Lib.hid hp
  by_cases hlen : acts.length ≤ 20
  · by_cases hne : acts.length = 0
    · have hl1 : ¬ ((20 : Int) < (acts.length : Int)) := by omega
      have hl2 : decide ((20 : Int) < (acts.length : Int)) = false := decide_eq_false hl1
      have hl4 : (acts.length : Int) = 0 := by omega
      clear hr hp hx hl
      go_enter Tryz.func9, Tryz.ntmps9
      go_upto_region 1 with fail
      have HBX := Lib.hid ((Below.refl w.heap.size w).alloc (Nat.le_refl _) (.cells #[.int .u16 n0, .int .u16 n1, .int .u16 n2, .int .u16 n3] 94))
      obtain ⟨wX, hwX⟩ : ∃ z, w.alloc (.cells #[.int .u16 n0, .int .u16 n1, .int .u16 n2, .int .u16 n3] 94) = z := ⟨_, rfl⟩
      obtain ⟨bX, hbX⟩ : ∃ z, w.heap.size = z := ⟨_, rfl⟩
      rw [hwX] at HBX ⊢
      rw [hbX]
      clear hwX
      have HBY := Lib.hid (show Below w.heap.size w wX from HBX.out)
      clear hbX
      go_wp2_with (go_at_call 29; refine (awake58_any _ (HRY.out.below HBY.out) (HPW.out.below HBY.out)).mono ?_; rintro e w1 ⟨rfl, hb1⟩; have HB1 := Lib.hid hb1; clear hb1)
      go_ret
      exact ⟨rfl, HBY.out.trans (HB1.out.mono HBY.out.size)⟩
    · have hl1 : ¬ ((20 : Int) < (acts.length : Int)) := by omega
      have hl2 : decide ((20 : Int) < (acts.length : Int)) = false := decide_eq_false hl1
      have hl3 : decide (20 < acts.length) = false := decide_eq_false (by omega)
      have hl4 : ¬ ((acts.length : Int) = 0) := by omega
      have hl5 : ((acts.length : Int) == 0) = false := by rw [beq_eq_false_iff_ne]; omega
      have hl6 : (acts.length == 0) = false := by rw [beq_eq_false_iff_ne]; omega
      have y0 : IntKind.i64.wrap lim = lim := IntWalk.i64_in _ (by omega)
      clear hr hp hx hl
      go_enter Tryz.func9, Tryz.ntmps9
      go_upto_region 1 with fail
      have HBX := Lib.hid ((Below.refl w.heap.size w).alloc (Nat.le_refl _) (.cells #[.int .u16 n0, .int .u16 n1, .int .u16 n2, .int .u16 n3] 94))
      have HNX := Lib.hid (Bx.new w 94 #[.int .u16 n0, .int .u16 n1, .int .u16 n2, .int .u16 n3])
      obtain ⟨wX, hwX⟩ : ∃ z, w.alloc (.cells #[.int .u16 n0, .int .u16 n1, .int .u16 n2, .int .u16 n3] 94) = z := ⟨_, rfl⟩
      obtain ⟨bX, hbX⟩ : ∃ z, w.heap.size = z := ⟨_, rfl⟩
      rw [hwX] at HBX HNX ⊢
      rw [hbX] at HNX ⊢
      clear hwX
      have HBY := Lib.hid (show Below w.heap.size w wX from HBX.out)
      clear hbX
      go_upto_region 3 with (go_at_call 29; refine (awake58_any _ (HRY.out.below HBY.out) (HPW.out.below HBY.out)).mono ?_; rintro e w1 ⟨rfl, hb1⟩; have HB1 := Lib.hid hb1; clear hb1)
      obtain ⟨f, hf⟩ : ∃ f : Nat → Nat, f = fun j => ((acts[j]?).getD 0).toNat := ⟨_, rfl⟩
      have HF : Hid (∀ (j : Nat) (b : UInt8), acts[j]? = some b → f j = b.toNat) := Lib.hid (fun j b hb => by rw [hf]; simp [hb])
      have HF5 : Hid (∀ j, f j ≤ 255) := Lib.hid (fun j => by rw [hf]; have := ((acts[j]?).getD 0).toNat_lt; simp only; omega)
      clear hf
      have HS0 := Lib.hid (show TimesW w1 (w1.alloc (.cells #[.slice none 0 0, .slice none 0 0, .slice none 0 0, .slice none 0 0, .slice none 0 0, .int .i64 0, .int .i64 0] 69)) w1.heap.size (.slice none 0 0) [] from ⟨(Below.refl _ _).alloc (Nat.le_refl _) _, Nat.le_refl _, Bx.new w1 69 #[.slice none 0 0, .slice none 0 0, .slice none 0 0, .slice none 0 0, .slice none 0 0, .int .i64 0, .int .i64 0], OwnWin.nil _ _ _ _, fun p hp => (by cases hp)⟩)
      go_wp2_with fail
      obtain ⟨w2, hw2⟩ : ∃ z, w1.alloc (.cells #[.slice none 0 0, .slice none 0 0, .slice none 0 0, .slice none 0 0, .slice none 0 0, .int .i64 0, .int .i64 0] 69) = z := ⟨_, rfl⟩
      obtain ⟨b0, hb0⟩ : ∃ z, w1.heap.size = z := ⟨_, rfl⟩
      rw [hw2] at HS0 ⊢
      have HSX := Lib.hid (show TimesW w1 w2 b0 (.slice none 0 0) [] from hb0 ▸ HS0.out)
      clear HS0 hw2
      try rw [hb0]
      clear hb0
      go_loopg [37, 10] acts.length (fun gq iv s10 wr => ∃ (k : Nat) (pv : Value) (ps : List PubM), iv = .int .i64 k ∧ k ≤ acts.length ∧ Hid (acts.length ≤ gq + k) ∧ s10 = .int .i64 (timesT f k) ∧ ps.length = k ∧ Hid (TimesL f lim ps) ∧ Hid (TimesW w1 wr b0 pv ps))
      case atStart => exact ⟨0, _, [], rfl, Nat.zero_le _, Lib.hid (by omega), rfl, rfl, Lib.hid (fun i p hp => by simp at hp), HSX⟩
      case round =>
        obtain ⟨k, pv, ps, rfl, hk, HQ, rfl, hpk, HTL, HW⟩ := hrel
        have HPK := Lib.hid hpk
        obtain ⟨pa, pc, rfl, _⟩ := HW.out.pub.form
        have HPL := Lib.hid (show ps.length ≤ 20 by omega)
        have ht := timesT_le HF5.out k
        obtain ⟨tt, htt⟩ : ∃ z, timesT f k = z := ⟨_, rfl⟩
        have HTK := Lib.hid htt
        rw [htt] at ht ⊢
        obtain ⟨ht1, ht2⟩ := ht
        clear htt hpk
        by_cases hlt : k < acts.length
        · have HLT := Lib.hid hlt
          have hkb : k < 20 := by omega
          have HKB := Lib.hid hkb
          obtain ⟨b, hbk⟩ : ∃ b, acts[k]? = some b := ⟨_, List.getElem?_eq_getElem hlt⟩
          obtain ⟨b3, o3, e3, _, _, hrow⟩ := row_at (HX.out.below (HBY.out.trans ((HB1.out.trans (HW.out.bel.mono HB1.out.size)).mono HBY.out.size))) hbk
          cases e3
          have d0 := hrow 0 _ rfl
          rw [Nat.add_zero, Nat.mul_one] at d0
          have HFB := Lib.hid (HF.out k b hbk)
          obtain ⟨a, ha⟩ : ∃ a, b.toNat = a := ⟨_, rfl⟩
          rw [ha] at HFB d0
          have hal : a < 256 := by have := b.toNat_lt; omega
          have HTS : Hid (timesT f (k + 1) = tt + ((a : Int) + 1)) := Lib.hid (by show timesT f k + ((f k : Int) + 1) = _; rw [HTK.out, HFB.out])
          have y1 : IntKind.i64.wrap (a : Int) = a := IntWalk.i64_in _ (by omega)
          have y2 : IntKind.i64.wrap ((a : Int) + 1) = (a : Int) + 1 := IntWalk.i64_in _ (by omega)
          have y3 : IntKind.i64.wrap (tt + ((a : Int) + 1)) = tt + ((a : Int) + 1) := IntWalk.i64_in _ (by omega)
          have y4 : IntKind.u8.wrap (k : Int) = (k : Int) := by rw [IntKind.wrap_u8]; omega
          have HDIG : Hid (∀ w, Calls Tryz.prog 36 #[.int .i64 (k : Int)] w fun e w' => e = .returned (.string ⟨(Lib.decDigits k).toArray⟩) ∧ Below w.heap.size w w') := Lib.hid (fun w => digits_nat (k + 1) k (by omega) (by omega) w)
          clear hrow hbk ha
          go_upto_region 9 with fail
          refine wp_region_held_drew (S := (fun _ => True)) (by kernel_rfl) (by trivial) (fun hHeld => ?_)
          have HWD := Lib.hid (HW.out.older (Below.refl _ _).drew)
          obtain ⟨wd, hwd⟩ : ∃ z, wr.drew = z := ⟨_, rfl⟩
          rw [hwd] at HWD ⊢
          clear hwd
          have c3 := HWD.out.box.cell (i := 0) rfl
          have hz3 := HWD.out.box.lt
          refine Hd.tk 0 ?_
          try simp only [Act.put, List.setIfInBounds_toArray, List.set_cons_zero, List.set_cons_succ]
          refine Hd.tk 2 ?_
          try simp only [Act.put, List.setIfInBounds_toArray, List.set_cons_zero, List.set_cons_succ]
          refine Hd.tk 3 ?_
          try simp only [Act.put, List.setIfInBounds_toArray, List.set_cons_zero, List.set_cons_succ]
          refine Hd.tk 4 ?_
          try simp only [Act.put, List.setIfInBounds_toArray, List.set_cons_zero, List.set_cons_succ]
          refine Hd.tk 5 ?_
          try simp only [Act.put, List.setIfInBounds_toArray, List.set_cons_zero, List.set_cons_succ]
          refine Hd.tk 7 ?_
          try simp only [Act.put, List.setIfInBounds_toArray, List.set_cons_zero, List.set_cons_succ]
          refine Hd.tk 8 ?_
          try simp only [Act.put, List.setIfInBounds_toArray, List.set_cons_zero, List.set_cons_succ]
          refine wpAnyH_ready (rs := [1, 6, 9]) (by kernel_rfl) (by simp) (AllReadyH.cons (by simp only [List.getElem?_toArray, List.getElem?_cons_succ, List.getElem?_cons_zero]; rfl) (fun K hK => ?_) (AllReadyH.cons (by simp only [List.getElem?_toArray, List.getElem?_cons_succ, List.getElem?_cons_zero]; rfl) (fun K hK => ?_) (AllReadyH.cons (by simp only [List.getElem?_toArray, List.getElem?_cons_succ, List.getElem?_cons_zero]; rfl) (fun K hK => ?_) AllReadyH.nil)))
          · go_simp
            refine hK.out _ _ (by trivial) (fun hHe0 => ?_)
            clear hK K
            try simp only [Act.put, List.setIfInBounds_toArray, List.set_cons_zero, List.set_cons_succ]
            refine wpAnyH_ready (rs := [6, 9]) (by kernel_rfl) (by simp) (AllReadyH.cons (by simp only [List.getElem?_toArray, List.getElem?_cons_succ, List.getElem?_cons_zero]; rfl) (fun K hK => ?_) (AllReadyH.cons (by simp only [List.getElem?_toArray, List.getElem?_cons_succ, List.getElem?_cons_zero]; rfl) (fun K hK => ?_) AllReadyH.nil))
            · go_simp
              go_at_call 36
              refine (HDIG.out _).mono ?_
              rintro e wn2 ⟨rfl, hb2⟩
              have HN2 := Lib.hid (HWD.out.older hb2)
              have p2 := HN2.out.box.cell (i := 0) rfl
              have z2 := HN2.out.box.lt
              clear hb2
              go_wp2_with fail
              refine hK.out _ _ (by trivial) (fun hHe1 => ?_)
              clear hK K
              try simp only [Act.put, List.setIfInBounds_toArray, List.set_cons_zero, List.set_cons_succ]
              refine wpAnyH_ready (rs := [9]) (by kernel_rfl) (by simp) (AllReadyH.cons (by simp only [List.getElem?_toArray, List.getElem?_cons_succ, List.getElem?_cons_zero]; rfl) (fun K hK => ?_) AllReadyH.nil)
              go_simp
              have HN3 := Lib.hid (HN2.out.older ((Below.refl _ _).alloc (Nat.le_refl _) (.cells #[.int .u8 (k : Int)] 5)))
              have HG3 := Lib.hid (Bx.new wn2 5 #[.int .u8 (k : Int)])
              obtain ⟨wn3, hw3⟩ : ∃ z, wn2.alloc (.cells #[.int .u8 (k : Int)] 5) = z := ⟨_, rfl⟩
              rw [hw3] at HN3 HG3 ⊢
              clear hw3
              have p3 := HN3.out.box.cell (i := 0) rfl
              have z3 := HN3.out.box.lt
              refine hK.out _ _ (by trivial) (fun hHe2 => ?_)
              clear hK K
              try simp only [Act.put, List.setIfInBounds_toArray, List.set_cons_zero, List.set_cons_succ]
              refine Hd.tk 10 ?_
              try simp only [Act.put, List.setIfInBounds_toArray, List.set_cons_zero, List.set_cons_succ]
              refine wpAnyH_ready (rs := [11]) (by kernel_rfl) (by simp) (AllReadyH.cons (by simp only [List.getElem?_toArray, List.getElem?_cons_succ, List.getElem?_cons_zero]; rfl) (fun K hK => ?_) AllReadyH.nil)
              go_simp
              refine hK.out _ _ (by trivial) (fun hHe3 => ?_)
              clear hK K
              try simp only [Act.put, List.setIfInBounds_toArray, List.set_cons_zero, List.set_cons_succ]
              refine wpAnyH_ready (rs := [12]) (by kernel_rfl) (by simp) (AllReadyH.cons (by simp only [List.getElem?_toArray, List.getElem?_cons_succ, List.getElem?_cons_zero]; rfl) (fun K hK => ?_) AllReadyH.nil)
              have HWA := Lib.hid (HN3.out.older ((Below.refl _ _).alloc (Nat.le_refl _) (.cells #[.int .i64 (tt + ((a : Int) + 1)), .int .i64 lim, .string ⟨#[97, 46, 101, 120, 97, 109, 112, 108, 101, 47, 120]⟩, .string ⟨(Lib.decDigits k).toArray⟩, .slice (some ⟨wn2.heap.size, 0, none⟩) 1 1] 86)))
              have HGA := Lib.hid (HG3.out.older ((Below.refl _ _).alloc (Nat.le_refl _) (.cells #[.int .i64 (tt + ((a : Int) + 1)), .int .i64 lim, .string ⟨#[97, 46, 101, 120, 97, 109, 112, 108, 101, 47, 120]⟩, .string ⟨(Lib.decDigits k).toArray⟩, .slice (some ⟨wn2.heap.size, 0, none⟩) 1 1] 86)))
              refine step_appB tyPub (by rfl) _ _ (by rfl) w1.heap.size (.slice pa ps.length pc) ps.length _ (by rfl) HWA.out.pub HWA.out.bel.size (.slice (some ⟨wn3.heap.size, 0, none⟩) 1 1) 1 [.int .i64 (tt + ((a : Int) + 1)), .int .i64 lim, .string ⟨#[97, 46, 101, 120, 97, 109, 112, 108, 101, 47, 120]⟩, .string ⟨(Lib.decDigits k).toArray⟩, .slice (some ⟨wn2.heap.size, 0, none⟩) 1 1] (by rfl) src_lits (by rfl) (by simp [Value.oneCell']) (by have := HPL.out; omega) ?_
              intro v4 w4 hown4 hgrow4 hlies4
              have HWN := Lib.hid (HWA.out.add (x := ⟨tt + ((a : Int) + 1), lim, keyX, Lib.decDigits k, .slice (some ⟨wn2.heap.size, 0, none⟩) 1 1, [UInt8.ofNat k]⟩) (b := UInt8.ofNat k) hown4 hgrow4 hlies4 rfl rfl (by rw [u8_of (by have := HKB.out; omega)]; exact HGA.out))
              have hb4 := HWA.out.boxP hgrow4
              obtain ⟨va, vc, rfl, _⟩ := hown4.form
              have c43 := hb4.cell (i := 0) rfl
              have f43 := hb4.frz 0
              have hz4 := hb4.lt
              clear hown4 hgrow4 hlies4 hb4
              refine hK.out _ _ (by trivial) (fun hHe4 => ?_)
              clear hK K
              try simp only [Act.put, List.setIfInBounds_toArray, List.set_cons_zero, List.set_cons_succ]
              refine Hd.tk 13 ?_
              try simp only [Act.put, List.setIfInBounds_toArray, List.set_cons_zero, List.set_cons_succ]
              refine wpAnyH_ready (rs := [14]) (by kernel_rfl) (by simp) (AllReadyH.cons (by simp only [List.getElem?_toArray, List.getElem?_cons_succ, List.getElem?_cons_zero]; rfl) (fun K hK => ?_) AllReadyH.nil)
              go_simp
              refine hK.out _ _ (by trivial) (fun hHe5 => ?_)
              clear hK K
              try simp only [Act.put, List.setIfInBounds_toArray, List.set_cons_zero, List.set_cons_succ]
              refine wpAnyH_done (by kernel_rfl) ?_ _
              go_wp2_with fail
              go_roundg (gk - 1)
              case rel => exact ⟨k + 1, _, ps ++ [⟨tt + ((a : Int) + 1), lim, keyX, Lib.decDigits k, .slice (some ⟨wn2.heap.size, 0, none⟩) 1 1, [UInt8.ofNat k]⟩], by go_num, by have := HLT.out; omega, Lib.hid (by have := HQ.out; omega), by rw [HTS.out], by simp [HPK.out], Lib.hid (by have := HTL.out.push (.slice (some ⟨wn2.heap.size, 0, none⟩) 1 1); rw [HPK.out, HTS.out] at this; exact this), HWN⟩
              case measure => have := HQ.out; have := HLT.out; omega
            · go_simp
              have HN7 := Lib.hid (HWD.out.older ((Below.refl _ _).alloc (Nat.le_refl _) (.cells #[.int .u8 (k : Int)] 5)))
              have HG7 := Lib.hid (Bx.new wd 5 #[.int .u8 (k : Int)])
              obtain ⟨wn7, hw7⟩ : ∃ z, wd.alloc (.cells #[.int .u8 (k : Int)] 5) = z := ⟨_, rfl⟩
              rw [hw7] at HN7 HG7 ⊢
              clear hw7
              have p7 := HN7.out.box.cell (i := 0) rfl
              have z7 := HN7.out.box.lt
              refine hK.out _ _ (by trivial) (fun hHe1 => ?_)
              clear hK K
              try simp only [Act.put, List.setIfInBounds_toArray, List.set_cons_zero, List.set_cons_succ]
              refine wpAnyH_ready (rs := [6]) (by kernel_rfl) (by simp) (AllReadyH.cons (by simp only [List.getElem?_toArray, List.getElem?_cons_succ, List.getElem?_cons_zero]; rfl) (fun K hK => ?_) AllReadyH.nil)
              go_simp
              go_at_call 36
              refine (HDIG.out _).mono ?_
              rintro e wn8 ⟨rfl, hb8⟩
              have HN8 := Lib.hid (HN7.out.older hb8)
              have HG8 := Lib.hid (HG7.out.older hb8)
              have p8 := HN8.out.box.cell (i := 0) rfl
              have z8 := HN8.out.box.lt
              clear hb8
              go_wp2_with fail
              refine hK.out _ _ (by trivial) (fun hHe2 => ?_)
              clear hK K
              try simp only [Act.put, List.setIfInBounds_toArray, List.set_cons_zero, List.set_cons_succ]
              refine Hd.tk 10 ?_
              try simp only [Act.put, List.setIfInBounds_toArray, List.set_cons_zero, List.set_cons_succ]
              refine wpAnyH_ready (rs := [11]) (by kernel_rfl) (by simp) (AllReadyH.cons (by simp only [List.getElem?_toArray, List.getElem?_cons_succ, List.getElem?_cons_zero]; rfl) (fun K hK => ?_) AllReadyH.nil)
              go_simp
              refine hK.out _ _ (by trivial) (fun hHe3 => ?_)
              clear hK K
              try simp only [Act.put, List.setIfInBounds_toArray, List.set_cons_zero, List.set_cons_succ]
              refine wpAnyH_ready (rs := [12]) (by kernel_rfl) (by simp) (AllReadyH.cons (by simp only [List.getElem?_toArray, List.getElem?_cons_succ, List.getElem?_cons_zero]; rfl) (fun K hK => ?_) AllReadyH.nil)
              have HWA := Lib.hid (HN8.out.older ((Below.refl _ _).alloc (Nat.le_refl _) (.cells #[.int .i64 (tt + ((a : Int) + 1)), .int .i64 lim, .string ⟨#[97, 46, 101, 120, 97, 109, 112, 108, 101, 47, 120]⟩, .string ⟨(Lib.decDigits k).toArray⟩, .slice (some ⟨wd.heap.size, 0, none⟩) 1 1] 86)))
              have HGA := Lib.hid (HG8.out.older ((Below.refl _ _).alloc (Nat.le_refl _) (.cells #[.int .i64 (tt + ((a : Int) + 1)), .int .i64 lim, .string ⟨#[97, 46, 101, 120, 97, 109, 112, 108, 101, 47, 120]⟩, .string ⟨(Lib.decDigits k).toArray⟩, .slice (some ⟨wd.heap.size, 0, none⟩) 1 1] 86)))
              refine step_appB tyPub (by rfl) _ _ (by rfl) w1.heap.size (.slice pa ps.length pc) ps.length _ (by rfl) HWA.out.pub HWA.out.bel.size (.slice (some ⟨wn8.heap.size, 0, none⟩) 1 1) 1 [.int .i64 (tt + ((a : Int) + 1)), .int .i64 lim, .string ⟨#[97, 46, 101, 120, 97, 109, 112, 108, 101, 47, 120]⟩, .string ⟨(Lib.decDigits k).toArray⟩, .slice (some ⟨wd.heap.size, 0, none⟩) 1 1] (by rfl) src_lits (by rfl) (by simp [Value.oneCell']) (by have := HPL.out; omega) ?_
              intro v4 w4 hown4 hgrow4 hlies4
              have HWN := Lib.hid (HWA.out.add (x := ⟨tt + ((a : Int) + 1), lim, keyX, Lib.decDigits k, .slice (some ⟨wd.heap.size, 0, none⟩) 1 1, [UInt8.ofNat k]⟩) (b := UInt8.ofNat k) hown4 hgrow4 hlies4 rfl rfl (by rw [u8_of (by have := HKB.out; omega)]; exact HGA.out))
              have hb4 := HWA.out.boxP hgrow4
              obtain ⟨va, vc, rfl, _⟩ := hown4.form
              have c43 := hb4.cell (i := 0) rfl
              have f43 := hb4.frz 0
              have hz4 := hb4.lt
              clear hown4 hgrow4 hlies4 hb4
              refine hK.out _ _ (by trivial) (fun hHe4 => ?_)
              clear hK K
              try simp only [Act.put, List.setIfInBounds_toArray, List.set_cons_zero, List.set_cons_succ]
              refine Hd.tk 13 ?_
              try simp only [Act.put, List.setIfInBounds_toArray, List.set_cons_zero, List.set_cons_succ]
              refine wpAnyH_ready (rs := [14]) (by kernel_rfl) (by simp) (AllReadyH.cons (by simp only [List.getElem?_toArray, List.getElem?_cons_succ, List.getElem?_cons_zero]; rfl) (fun K hK => ?_) AllReadyH.nil)
              go_simp
              refine hK.out _ _ (by trivial) (fun hHe5 => ?_)
              clear hK K
              try simp only [Act.put, List.setIfInBounds_toArray, List.set_cons_zero, List.set_cons_succ]
              refine wpAnyH_done (by kernel_rfl) ?_ _
              go_wp2_with fail
              go_roundg (gk - 1)
              case rel => exact ⟨k + 1, _, ps ++ [⟨tt + ((a : Int) + 1), lim, keyX, Lib.decDigits k, .slice (some ⟨wd.heap.size, 0, none⟩) 1 1, [UInt8.ofNat k]⟩], by go_num, by have := HLT.out; omega, Lib.hid (by have := HQ.out; omega), by rw [HTS.out], by simp [HPK.out], Lib.hid (by have := HTL.out.push (.slice (some ⟨wd.heap.size, 0, none⟩) 1 1); rw [HPK.out, HTS.out] at this; exact this), HWN⟩
              case measure => have := HQ.out; have := HLT.out; omega
          · go_simp
            go_at_call 36
            refine (HDIG.out _).mono ?_
            rintro e wn12 ⟨rfl, hb12⟩
            have HN12 := Lib.hid (HWD.out.older hb12)
            have p12 := HN12.out.box.cell (i := 0) rfl
            have z12 := HN12.out.box.lt
            clear hb12
            go_wp2_with fail
            refine hK.out _ _ (by trivial) (fun hHe0 => ?_)
            clear hK K
            try simp only [Act.put, List.setIfInBounds_toArray, List.set_cons_zero, List.set_cons_succ]
            refine wpAnyH_ready (rs := [1, 9]) (by kernel_rfl) (by simp) (AllReadyH.cons (by simp only [List.getElem?_toArray, List.getElem?_cons_succ, List.getElem?_cons_zero]; rfl) (fun K hK => ?_) (AllReadyH.cons (by simp only [List.getElem?_toArray, List.getElem?_cons_succ, List.getElem?_cons_zero]; rfl) (fun K hK => ?_) AllReadyH.nil))
            · go_simp
              refine hK.out _ _ (by trivial) (fun hHe1 => ?_)
              clear hK K
              try simp only [Act.put, List.setIfInBounds_toArray, List.set_cons_zero, List.set_cons_succ]
              refine wpAnyH_ready (rs := [9]) (by kernel_rfl) (by simp) (AllReadyH.cons (by simp only [List.getElem?_toArray, List.getElem?_cons_succ, List.getElem?_cons_zero]; rfl) (fun K hK => ?_) AllReadyH.nil)
              go_simp
              have HN14 := Lib.hid (HN12.out.older ((Below.refl _ _).alloc (Nat.le_refl _) (.cells #[.int .u8 (k : Int)] 5)))
              have HG14 := Lib.hid (Bx.new wn12 5 #[.int .u8 (k : Int)])
              obtain ⟨wn14, hw14⟩ : ∃ z, wn12.alloc (.cells #[.int .u8 (k : Int)] 5) = z := ⟨_, rfl⟩
              rw [hw14] at HN14 HG14 ⊢
              clear hw14
              have p14 := HN14.out.box.cell (i := 0) rfl
              have z14 := HN14.out.box.lt
              refine hK.out _ _ (by trivial) (fun hHe2 => ?_)
              clear hK K
              try simp only [Act.put, List.setIfInBounds_toArray, List.set_cons_zero, List.set_cons_succ]
              refine Hd.tk 10 ?_
              try simp only [Act.put, List.setIfInBounds_toArray, List.set_cons_zero, List.set_cons_succ]
              refine wpAnyH_ready (rs := [11]) (by kernel_rfl) (by simp) (AllReadyH.cons (by simp only [List.getElem?_toArray, List.getElem?_cons_succ, List.getElem?_cons_zero]; rfl) (fun K hK => ?_) AllReadyH.nil)
              go_simp
              refine hK.out _ _ (by trivial) (fun hHe3 => ?_)
              clear hK K
              try simp only [Act.put, List.setIfInBounds_toArray, List.set_cons_zero, List.set_cons_succ]
              refine wpAnyH_ready (rs := [12]) (by kernel_rfl) (by simp) (AllReadyH.cons (by simp only [List.getElem?_toArray, List.getElem?_cons_succ, List.getElem?_cons_zero]; rfl) (fun K hK => ?_) AllReadyH.nil)
              have HWA := Lib.hid (HN14.out.older ((Below.refl _ _).alloc (Nat.le_refl _) (.cells #[.int .i64 (tt + ((a : Int) + 1)), .int .i64 lim, .string ⟨#[97, 46, 101, 120, 97, 109, 112, 108, 101, 47, 120]⟩, .string ⟨(Lib.decDigits k).toArray⟩, .slice (some ⟨wn12.heap.size, 0, none⟩) 1 1] 86)))
              have HGA := Lib.hid (HG14.out.older ((Below.refl _ _).alloc (Nat.le_refl _) (.cells #[.int .i64 (tt + ((a : Int) + 1)), .int .i64 lim, .string ⟨#[97, 46, 101, 120, 97, 109, 112, 108, 101, 47, 120]⟩, .string ⟨(Lib.decDigits k).toArray⟩, .slice (some ⟨wn12.heap.size, 0, none⟩) 1 1] 86)))
              refine step_appB tyPub (by rfl) _ _ (by rfl) w1.heap.size (.slice pa ps.length pc) ps.length _ (by rfl) HWA.out.pub HWA.out.bel.size (.slice (some ⟨wn14.heap.size, 0, none⟩) 1 1) 1 [.int .i64 (tt + ((a : Int) + 1)), .int .i64 lim, .string ⟨#[97, 46, 101, 120, 97, 109, 112, 108, 101, 47, 120]⟩, .string ⟨(Lib.decDigits k).toArray⟩, .slice (some ⟨wn12.heap.size, 0, none⟩) 1 1] (by rfl) src_lits (by rfl) (by simp [Value.oneCell']) (by have := HPL.out; omega) ?_
              intro v4 w4 hown4 hgrow4 hlies4
              have HWN := Lib.hid (HWA.out.add (x := ⟨tt + ((a : Int) + 1), lim, keyX, Lib.decDigits k, .slice (some ⟨wn12.heap.size, 0, none⟩) 1 1, [UInt8.ofNat k]⟩) (b := UInt8.ofNat k) hown4 hgrow4 hlies4 rfl rfl (by rw [u8_of (by have := HKB.out; omega)]; exact HGA.out))
              have hb4 := HWA.out.boxP hgrow4
              obtain ⟨va, vc, rfl, _⟩ := hown4.form
              have c43 := hb4.cell (i := 0) rfl
              have f43 := hb4.frz 0
              have hz4 := hb4.lt
              clear hown4 hgrow4 hlies4 hb4
              refine hK.out _ _ (by trivial) (fun hHe4 => ?_)
              clear hK K
              try simp only [Act.put, List.setIfInBounds_toArray, List.set_cons_zero, List.set_cons_succ]
              refine Hd.tk 13 ?_
              try simp only [Act.put, List.setIfInBounds_toArray, List.set_cons_zero, List.set_cons_succ]
              refine wpAnyH_ready (rs := [14]) (by kernel_rfl) (by simp) (AllReadyH.cons (by simp only [List.getElem?_toArray, List.getElem?_cons_succ, List.getElem?_cons_zero]; rfl) (fun K hK => ?_) AllReadyH.nil)
              go_simp
              refine hK.out _ _ (by trivial) (fun hHe5 => ?_)
              clear hK K
              try simp only [Act.put, List.setIfInBounds_toArray, List.set_cons_zero, List.set_cons_succ]
              refine wpAnyH_done (by kernel_rfl) ?_ _
              go_wp2_with fail
              go_roundg (gk - 1)
              case rel => exact ⟨k + 1, _, ps ++ [⟨tt + ((a : Int) + 1), lim, keyX, Lib.decDigits k, .slice (some ⟨wn12.heap.size, 0, none⟩) 1 1, [UInt8.ofNat k]⟩], by go_num, by have := HLT.out; omega, Lib.hid (by have := HQ.out; omega), by rw [HTS.out], by simp [HPK.out], Lib.hid (by have := HTL.out.push (.slice (some ⟨wn12.heap.size, 0, none⟩) 1 1); rw [HPK.out, HTS.out] at this; exact this), HWN⟩
              case measure => have := HQ.out; have := HLT.out; omega
            · go_simp
              have HN18 := Lib.hid (HN12.out.older ((Below.refl _ _).alloc (Nat.le_refl _) (.cells #[.int .u8 (k : Int)] 5)))
              have HG18 := Lib.hid (Bx.new wn12 5 #[.int .u8 (k : Int)])
              obtain ⟨wn18, hw18⟩ : ∃ z, wn12.alloc (.cells #[.int .u8 (k : Int)] 5) = z := ⟨_, rfl⟩
              rw [hw18] at HN18 HG18 ⊢
              clear hw18
              have p18 := HN18.out.box.cell (i := 0) rfl
              have z18 := HN18.out.box.lt
              refine hK.out _ _ (by trivial) (fun hHe1 => ?_)
              clear hK K
              try simp only [Act.put, List.setIfInBounds_toArray, List.set_cons_zero, List.set_cons_succ]
              refine Hd.tk 10 ?_
              try simp only [Act.put, List.setIfInBounds_toArray, List.set_cons_zero, List.set_cons_succ]
              refine wpAnyH_ready (rs := [1, 11]) (by kernel_rfl) (by simp) (AllReadyH.cons (by simp only [List.getElem?_toArray, List.getElem?_cons_succ, List.getElem?_cons_zero]; rfl) (fun K hK => ?_) (AllReadyH.cons (by simp only [List.getElem?_toArray, List.getElem?_cons_succ, List.getElem?_cons_zero]; rfl) (fun K hK => ?_) AllReadyH.nil))
              · go_simp
                refine hK.out _ _ (by trivial) (fun hHe2 => ?_)
                clear hK K
                try simp only [Act.put, List.setIfInBounds_toArray, List.set_cons_zero, List.set_cons_succ]
                refine wpAnyH_ready (rs := [11]) (by kernel_rfl) (by simp) (AllReadyH.cons (by simp only [List.getElem?_toArray, List.getElem?_cons_succ, List.getElem?_cons_zero]; rfl) (fun K hK => ?_) AllReadyH.nil)
                go_simp
                refine hK.out _ _ (by trivial) (fun hHe3 => ?_)
                clear hK K
                try simp only [Act.put, List.setIfInBounds_toArray, List.set_cons_zero, List.set_cons_succ]
                refine wpAnyH_ready (rs := [12]) (by kernel_rfl) (by simp) (AllReadyH.cons (by simp only [List.getElem?_toArray, List.getElem?_cons_succ, List.getElem?_cons_zero]; rfl) (fun K hK => ?_) AllReadyH.nil)
                have HWA := Lib.hid (HN18.out.older ((Below.refl _ _).alloc (Nat.le_refl _) (.cells #[.int .i64 (tt + ((a : Int) + 1)), .int .i64 lim, .string ⟨#[97, 46, 101, 120, 97, 109, 112, 108, 101, 47, 120]⟩, .string ⟨(Lib.decDigits k).toArray⟩, .slice (some ⟨wn12.heap.size, 0, none⟩) 1 1] 86)))
                have HGA := Lib.hid (HG18.out.older ((Below.refl _ _).alloc (Nat.le_refl _) (.cells #[.int .i64 (tt + ((a : Int) + 1)), .int .i64 lim, .string ⟨#[97, 46, 101, 120, 97, 109, 112, 108, 101, 47, 120]⟩, .string ⟨(Lib.decDigits k).toArray⟩, .slice (some ⟨wn12.heap.size, 0, none⟩) 1 1] 86)))
                refine step_appB tyPub (by rfl) _ _ (by rfl) w1.heap.size (.slice pa ps.length pc) ps.length _ (by rfl) HWA.out.pub HWA.out.bel.size (.slice (some ⟨wn18.heap.size, 0, none⟩) 1 1) 1 [.int .i64 (tt + ((a : Int) + 1)), .int .i64 lim, .string ⟨#[97, 46, 101, 120, 97, 109, 112, 108, 101, 47, 120]⟩, .string ⟨(Lib.decDigits k).toArray⟩, .slice (some ⟨wn12.heap.size, 0, none⟩) 1 1] (by rfl) src_lits (by rfl) (by simp [Value.oneCell']) (by have := HPL.out; omega) ?_
                intro v4 w4 hown4 hgrow4 hlies4
                have HWN := Lib.hid (HWA.out.add (x := ⟨tt + ((a : Int) + 1), lim, keyX, Lib.decDigits k, .slice (some ⟨wn12.heap.size, 0, none⟩) 1 1, [UInt8.ofNat k]⟩) (b := UInt8.ofNat k) hown4 hgrow4 hlies4 rfl rfl (by rw [u8_of (by have := HKB.out; omega)]; exact HGA.out))
                have hb4 := HWA.out.boxP hgrow4
                obtain ⟨va, vc, rfl, _⟩ := hown4.form
                have c43 := hb4.cell (i := 0) rfl
                have f43 := hb4.frz 0
                have hz4 := hb4.lt
                clear hown4 hgrow4 hlies4 hb4
                refine hK.out _ _ (by trivial) (fun hHe4 => ?_)
                clear hK K
                try simp only [Act.put, List.setIfInBounds_toArray, List.set_cons_zero, List.set_cons_succ]
                refine Hd.tk 13 ?_
                try simp only [Act.put, List.setIfInBounds_toArray, List.set_cons_zero, List.set_cons_succ]
                refine wpAnyH_ready (rs := [14]) (by kernel_rfl) (by simp) (AllReadyH.cons (by simp only [List.getElem?_toArray, List.getElem?_cons_succ, List.getElem?_cons_zero]; rfl) (fun K hK => ?_) AllReadyH.nil)
                go_simp
                refine hK.out _ _ (by trivial) (fun hHe5 => ?_)
                clear hK K
                try simp only [Act.put, List.setIfInBounds_toArray, List.set_cons_zero, List.set_cons_succ]
                refine wpAnyH_done (by kernel_rfl) ?_ _
                go_wp2_with fail
                go_roundg (gk - 1)
                case rel => exact ⟨k + 1, _, ps ++ [⟨tt + ((a : Int) + 1), lim, keyX, Lib.decDigits k, .slice (some ⟨wn12.heap.size, 0, none⟩) 1 1, [UInt8.ofNat k]⟩], by go_num, by have := HLT.out; omega, Lib.hid (by have := HQ.out; omega), by rw [HTS.out], by simp [HPK.out], Lib.hid (by have := HTL.out.push (.slice (some ⟨wn12.heap.size, 0, none⟩) 1 1); rw [HPK.out, HTS.out] at this; exact this), HWN⟩
                case measure => have := HQ.out; have := HLT.out; omega
              · go_simp
                refine hK.out _ _ (by trivial) (fun hHe2 => ?_)
                clear hK K
                try simp only [Act.put, List.setIfInBounds_toArray, List.set_cons_zero, List.set_cons_succ]
                refine wpAnyH_ready (rs := [1]) (by kernel_rfl) (by simp) (AllReadyH.cons (by simp only [List.getElem?_toArray, List.getElem?_cons_succ, List.getElem?_cons_zero]; rfl) (fun K hK => ?_) AllReadyH.nil)
                go_simp
                refine hK.out _ _ (by trivial) (fun hHe3 => ?_)
                clear hK K
                try simp only [Act.put, List.setIfInBounds_toArray, List.set_cons_zero, List.set_cons_succ]
                refine wpAnyH_ready (rs := [12]) (by kernel_rfl) (by simp) (AllReadyH.cons (by simp only [List.getElem?_toArray, List.getElem?_cons_succ, List.getElem?_cons_zero]; rfl) (fun K hK => ?_) AllReadyH.nil)
                have HWA := Lib.hid (HN18.out.older ((Below.refl _ _).alloc (Nat.le_refl _) (.cells #[.int .i64 (tt + ((a : Int) + 1)), .int .i64 lim, .string ⟨#[97, 46, 101, 120, 97, 109, 112, 108, 101, 47, 120]⟩, .string ⟨(Lib.decDigits k).toArray⟩, .slice (some ⟨wn12.heap.size, 0, none⟩) 1 1] 86)))
                have HGA := Lib.hid (HG18.out.older ((Below.refl _ _).alloc (Nat.le_refl _) (.cells #[.int .i64 (tt + ((a : Int) + 1)), .int .i64 lim, .string ⟨#[97, 46, 101, 120, 97, 109, 112, 108, 101, 47, 120]⟩, .string ⟨(Lib.decDigits k).toArray⟩, .slice (some ⟨wn12.heap.size, 0, none⟩) 1 1] 86)))
                refine step_appB tyPub (by rfl) _ _ (by rfl) w1.heap.size (.slice pa ps.length pc) ps.length _ (by rfl) HWA.out.pub HWA.out.bel.size (.slice (some ⟨wn18.heap.size, 0, none⟩) 1 1) 1 [.int .i64 (tt + ((a : Int) + 1)), .int .i64 lim, .string ⟨#[97, 46, 101, 120, 97, 109, 112, 108, 101, 47, 120]⟩, .string ⟨(Lib.decDigits k).toArray⟩, .slice (some ⟨wn12.heap.size, 0, none⟩) 1 1] (by rfl) src_lits (by rfl) (by simp [Value.oneCell']) (by have := HPL.out; omega) ?_
                intro v4 w4 hown4 hgrow4 hlies4
                have HWN := Lib.hid (HWA.out.add (x := ⟨tt + ((a : Int) + 1), lim, keyX, Lib.decDigits k, .slice (some ⟨wn12.heap.size, 0, none⟩) 1 1, [UInt8.ofNat k]⟩) (b := UInt8.ofNat k) hown4 hgrow4 hlies4 rfl rfl (by rw [u8_of (by have := HKB.out; omega)]; exact HGA.out))
                have hb4 := HWA.out.boxP hgrow4
                obtain ⟨va, vc, rfl, _⟩ := hown4.form
                have c43 := hb4.cell (i := 0) rfl
                have f43 := hb4.frz 0
                have hz4 := hb4.lt
                clear hown4 hgrow4 hlies4 hb4
                refine hK.out _ _ (by trivial) (fun hHe4 => ?_)
                clear hK K
                try simp only [Act.put, List.setIfInBounds_toArray, List.set_cons_zero, List.set_cons_succ]
                refine Hd.tk 13 ?_
                try simp only [Act.put, List.setIfInBounds_toArray, List.set_cons_zero, List.set_cons_succ]
                refine wpAnyH_ready (rs := [14]) (by kernel_rfl) (by simp) (AllReadyH.cons (by simp only [List.getElem?_toArray, List.getElem?_cons_succ, List.getElem?_cons_zero]; rfl) (fun K hK => ?_) AllReadyH.nil)
                go_simp
                refine hK.out _ _ (by trivial) (fun hHe5 => ?_)
                clear hK K
                try simp only [Act.put, List.setIfInBounds_toArray, List.set_cons_zero, List.set_cons_succ]
                refine wpAnyH_done (by kernel_rfl) ?_ _
                go_wp2_with fail
                go_roundg (gk - 1)
                case rel => exact ⟨k + 1, _, ps ++ [⟨tt + ((a : Int) + 1), lim, keyX, Lib.decDigits k, .slice (some ⟨wn12.heap.size, 0, none⟩) 1 1, [UInt8.ofNat k]⟩], by go_num, by have := HLT.out; omega, Lib.hid (by have := HQ.out; omega), by rw [HTS.out], by simp [HPK.out], Lib.hid (by have := HTL.out.push (.slice (some ⟨wn12.heap.size, 0, none⟩) 1 1); rw [HPK.out, HTS.out] at this; exact this), HWN⟩
                case measure => have := HQ.out; have := HLT.out; omega
          · go_simp
            have HN27 := Lib.hid (HWD.out.older ((Below.refl _ _).alloc (Nat.le_refl _) (.cells #[.int .u8 (k : Int)] 5)))
            have HG27 := Lib.hid (Bx.new wd 5 #[.int .u8 (k : Int)])
            obtain ⟨wn27, hw27⟩ : ∃ z, wd.alloc (.cells #[.int .u8 (k : Int)] 5) = z := ⟨_, rfl⟩
            rw [hw27] at HN27 HG27 ⊢
            clear hw27
            have p27 := HN27.out.box.cell (i := 0) rfl
            have z27 := HN27.out.box.lt
            refine hK.out _ _ (by trivial) (fun hHe0 => ?_)
            clear hK K
            try simp only [Act.put, List.setIfInBounds_toArray, List.set_cons_zero, List.set_cons_succ]
            refine wpAnyH_ready (rs := [1, 6]) (by kernel_rfl) (by simp) (AllReadyH.cons (by simp only [List.getElem?_toArray, List.getElem?_cons_succ, List.getElem?_cons_zero]; rfl) (fun K hK => ?_) (AllReadyH.cons (by simp only [List.getElem?_toArray, List.getElem?_cons_succ, List.getElem?_cons_zero]; rfl) (fun K hK => ?_) AllReadyH.nil))
            · go_simp
              refine hK.out _ _ (by trivial) (fun hHe1 => ?_)
              clear hK K
              try simp only [Act.put, List.setIfInBounds_toArray, List.set_cons_zero, List.set_cons_succ]
              refine wpAnyH_ready (rs := [6]) (by kernel_rfl) (by simp) (AllReadyH.cons (by simp only [List.getElem?_toArray, List.getElem?_cons_succ, List.getElem?_cons_zero]; rfl) (fun K hK => ?_) AllReadyH.nil)
              go_simp
              go_at_call 36
              refine (HDIG.out _).mono ?_
              rintro e wn29 ⟨rfl, hb29⟩
              have HN29 := Lib.hid (HN27.out.older hb29)
              have HG29 := Lib.hid (HG27.out.older hb29)
              have p29 := HN29.out.box.cell (i := 0) rfl
              have z29 := HN29.out.box.lt
              clear hb29
              go_wp2_with fail
              refine hK.out _ _ (by trivial) (fun hHe2 => ?_)
              clear hK K
              try simp only [Act.put, List.setIfInBounds_toArray, List.set_cons_zero, List.set_cons_succ]
              refine Hd.tk 10 ?_
              try simp only [Act.put, List.setIfInBounds_toArray, List.set_cons_zero, List.set_cons_succ]
              refine wpAnyH_ready (rs := [11]) (by kernel_rfl) (by simp) (AllReadyH.cons (by simp only [List.getElem?_toArray, List.getElem?_cons_succ, List.getElem?_cons_zero]; rfl) (fun K hK => ?_) AllReadyH.nil)
              go_simp
              refine hK.out _ _ (by trivial) (fun hHe3 => ?_)
              clear hK K
              try simp only [Act.put, List.setIfInBounds_toArray, List.set_cons_zero, List.set_cons_succ]
              refine wpAnyH_ready (rs := [12]) (by kernel_rfl) (by simp) (AllReadyH.cons (by simp only [List.getElem?_toArray, List.getElem?_cons_succ, List.getElem?_cons_zero]; rfl) (fun K hK => ?_) AllReadyH.nil)
              have HWA := Lib.hid (HN29.out.older ((Below.refl _ _).alloc (Nat.le_refl _) (.cells #[.int .i64 (tt + ((a : Int) + 1)), .int .i64 lim, .string ⟨#[97, 46, 101, 120, 97, 109, 112, 108, 101, 47, 120]⟩, .string ⟨(Lib.decDigits k).toArray⟩, .slice (some ⟨wd.heap.size, 0, none⟩) 1 1] 86)))
              have HGA := Lib.hid (HG29.out.older ((Below.refl _ _).alloc (Nat.le_refl _) (.cells #[.int .i64 (tt + ((a : Int) + 1)), .int .i64 lim, .string ⟨#[97, 46, 101, 120, 97, 109, 112, 108, 101, 47, 120]⟩, .string ⟨(Lib.decDigits k).toArray⟩, .slice (some ⟨wd.heap.size, 0, none⟩) 1 1] 86)))
              refine step_appB tyPub (by rfl) _ _ (by rfl) w1.heap.size (.slice pa ps.length pc) ps.length _ (by rfl) HWA.out.pub HWA.out.bel.size (.slice (some ⟨wn29.heap.size, 0, none⟩) 1 1) 1 [.int .i64 (tt + ((a : Int) + 1)), .int .i64 lim, .string ⟨#[97, 46, 101, 120, 97, 109, 112, 108, 101, 47, 120]⟩, .string ⟨(Lib.decDigits k).toArray⟩, .slice (some ⟨wd.heap.size, 0, none⟩) 1 1] (by rfl) src_lits (by rfl) (by simp [Value.oneCell']) (by have := HPL.out; omega) ?_
              intro v4 w4 hown4 hgrow4 hlies4
              have HWN := Lib.hid (HWA.out.add (x := ⟨tt + ((a : Int) + 1), lim, keyX, Lib.decDigits k, .slice (some ⟨wd.heap.size, 0, none⟩) 1 1, [UInt8.ofNat k]⟩) (b := UInt8.ofNat k) hown4 hgrow4 hlies4 rfl rfl (by rw [u8_of (by have := HKB.out; omega)]; exact HGA.out))
              have hb4 := HWA.out.boxP hgrow4
              obtain ⟨va, vc, rfl, _⟩ := hown4.form
              have c43 := hb4.cell (i := 0) rfl
              have f43 := hb4.frz 0
              have hz4 := hb4.lt
              clear hown4 hgrow4 hlies4 hb4
              refine hK.out _ _ (by trivial) (fun hHe4 => ?_)
              clear hK K
              try simp only [Act.put, List.setIfInBounds_toArray, List.set_cons_zero, List.set_cons_succ]
              refine Hd.tk 13 ?_
              try simp only [Act.put, List.setIfInBounds_toArray, List.set_cons_zero, List.set_cons_succ]
              refine wpAnyH_ready (rs := [14]) (by kernel_rfl) (by simp) (AllReadyH.cons (by simp only [List.getElem?_toArray, List.getElem?_cons_succ, List.getElem?_cons_zero]; rfl) (fun K hK => ?_) AllReadyH.nil)
              go_simp
              refine hK.out _ _ (by trivial) (fun hHe5 => ?_)
              clear hK K
              try simp only [Act.put, List.setIfInBounds_toArray, List.set_cons_zero, List.set_cons_succ]
              refine wpAnyH_done (by kernel_rfl) ?_ _
              go_wp2_with fail
              go_roundg (gk - 1)
              case rel => exact ⟨k + 1, _, ps ++ [⟨tt + ((a : Int) + 1), lim, keyX, Lib.decDigits k, .slice (some ⟨wd.heap.size, 0, none⟩) 1 1, [UInt8.ofNat k]⟩], by go_num, by have := HLT.out; omega, Lib.hid (by have := HQ.out; omega), by rw [HTS.out], by simp [HPK.out], Lib.hid (by have := HTL.out.push (.slice (some ⟨wd.heap.size, 0, none⟩) 1 1); rw [HPK.out, HTS.out] at this; exact this), HWN⟩
              case measure => have := HQ.out; have := HLT.out; omega
            · go_simp
              go_at_call 36
              refine (HDIG.out _).mono ?_
              rintro e wn33 ⟨rfl, hb33⟩
              have HN33 := Lib.hid (HN27.out.older hb33)
              have HG33 := Lib.hid (HG27.out.older hb33)
              have p33 := HN33.out.box.cell (i := 0) rfl
              have z33 := HN33.out.box.lt
              clear hb33
              go_wp2_with fail
              refine hK.out _ _ (by trivial) (fun hHe1 => ?_)
              clear hK K
              try simp only [Act.put, List.setIfInBounds_toArray, List.set_cons_zero, List.set_cons_succ]
              refine Hd.tk 10 ?_
              try simp only [Act.put, List.setIfInBounds_toArray, List.set_cons_zero, List.set_cons_succ]
              refine wpAnyH_ready (rs := [1, 11]) (by kernel_rfl) (by simp) (AllReadyH.cons (by simp only [List.getElem?_toArray, List.getElem?_cons_succ, List.getElem?_cons_zero]; rfl) (fun K hK => ?_) (AllReadyH.cons (by simp only [List.getElem?_toArray, List.getElem?_cons_succ, List.getElem?_cons_zero]; rfl) (fun K hK => ?_) AllReadyH.nil))
              · go_simp
                refine hK.out _ _ (by trivial) (fun hHe2 => ?_)
                clear hK K
                try simp only [Act.put, List.setIfInBounds_toArray, List.set_cons_zero, List.set_cons_succ]
                refine wpAnyH_ready (rs := [11]) (by kernel_rfl) (by simp) (AllReadyH.cons (by simp only [List.getElem?_toArray, List.getElem?_cons_succ, List.getElem?_cons_zero]; rfl) (fun K hK => ?_) AllReadyH.nil)
                go_simp
                refine hK.out _ _ (by trivial) (fun hHe3 => ?_)
                clear hK K
                try simp only [Act.put, List.setIfInBounds_toArray, List.set_cons_zero, List.set_cons_succ]
                refine wpAnyH_ready (rs := [12]) (by kernel_rfl) (by simp) (AllReadyH.cons (by simp only [List.getElem?_toArray, List.getElem?_cons_succ, List.getElem?_cons_zero]; rfl) (fun K hK => ?_) AllReadyH.nil)
                have HWA := Lib.hid (HN33.out.older ((Below.refl _ _).alloc (Nat.le_refl _) (.cells #[.int .i64 (tt + ((a : Int) + 1)), .int .i64 lim, .string ⟨#[97, 46, 101, 120, 97, 109, 112, 108, 101, 47, 120]⟩, .string ⟨(Lib.decDigits k).toArray⟩, .slice (some ⟨wd.heap.size, 0, none⟩) 1 1] 86)))
                have HGA := Lib.hid (HG33.out.older ((Below.refl _ _).alloc (Nat.le_refl _) (.cells #[.int .i64 (tt + ((a : Int) + 1)), .int .i64 lim, .string ⟨#[97, 46, 101, 120, 97, 109, 112, 108, 101, 47, 120]⟩, .string ⟨(Lib.decDigits k).toArray⟩, .slice (some ⟨wd.heap.size, 0, none⟩) 1 1] 86)))
                refine step_appB tyPub (by rfl) _ _ (by rfl) w1.heap.size (.slice pa ps.length pc) ps.length _ (by rfl) HWA.out.pub HWA.out.bel.size (.slice (some ⟨wn33.heap.size, 0, none⟩) 1 1) 1 [.int .i64 (tt + ((a : Int) + 1)), .int .i64 lim, .string ⟨#[97, 46, 101, 120, 97, 109, 112, 108, 101, 47, 120]⟩, .string ⟨(Lib.decDigits k).toArray⟩, .slice (some ⟨wd.heap.size, 0, none⟩) 1 1] (by rfl) src_lits (by rfl) (by simp [Value.oneCell']) (by have := HPL.out; omega) ?_
                intro v4 w4 hown4 hgrow4 hlies4
                have HWN := Lib.hid (HWA.out.add (x := ⟨tt + ((a : Int) + 1), lim, keyX, Lib.decDigits k, .slice (some ⟨wd.heap.size, 0, none⟩) 1 1, [UInt8.ofNat k]⟩) (b := UInt8.ofNat k) hown4 hgrow4 hlies4 rfl rfl (by rw [u8_of (by have := HKB.out; omega)]; exact HGA.out))
                have hb4 := HWA.out.boxP hgrow4
                obtain ⟨va, vc, rfl, _⟩ := hown4.form
                have c43 := hb4.cell (i := 0) rfl
                have f43 := hb4.frz 0
                have hz4 := hb4.lt
                clear hown4 hgrow4 hlies4 hb4
                refine hK.out _ _ (by trivial) (fun hHe4 => ?_)
                clear hK K
                try simp only [Act.put, List.setIfInBounds_toArray, List.set_cons_zero, List.set_cons_succ]
                refine Hd.tk 13 ?_
                try simp only [Act.put, List.setIfInBounds_toArray, List.set_cons_zero, List.set_cons_succ]
                refine wpAnyH_ready (rs := [14]) (by kernel_rfl) (by simp) (AllReadyH.cons (by simp only [List.getElem?_toArray, List.getElem?_cons_succ, List.getElem?_cons_zero]; rfl) (fun K hK => ?_) AllReadyH.nil)
                go_simp
                refine hK.out _ _ (by trivial) (fun hHe5 => ?_)
                clear hK K
                try simp only [Act.put, List.setIfInBounds_toArray, List.set_cons_zero, List.set_cons_succ]
                refine wpAnyH_done (by kernel_rfl) ?_ _
                go_wp2_with fail
                go_roundg (gk - 1)
                case rel => exact ⟨k + 1, _, ps ++ [⟨tt + ((a : Int) + 1), lim, keyX, Lib.decDigits k, .slice (some ⟨wd.heap.size, 0, none⟩) 1 1, [UInt8.ofNat k]⟩], by go_num, by have := HLT.out; omega, Lib.hid (by have := HQ.out; omega), by rw [HTS.out], by simp [HPK.out], Lib.hid (by have := HTL.out.push (.slice (some ⟨wd.heap.size, 0, none⟩) 1 1); rw [HPK.out, HTS.out] at this; exact this), HWN⟩
                case measure => have := HQ.out; have := HLT.out; omega
              · go_simp
                refine hK.out _ _ (by trivial) (fun hHe2 => ?_)
                clear hK K
                try simp only [Act.put, List.setIfInBounds_toArray, List.set_cons_zero, List.set_cons_succ]
                refine wpAnyH_ready (rs := [1]) (by kernel_rfl) (by simp) (AllReadyH.cons (by simp only [List.getElem?_toArray, List.getElem?_cons_succ, List.getElem?_cons_zero]; rfl) (fun K hK => ?_) AllReadyH.nil)
                go_simp
                refine hK.out _ _ (by trivial) (fun hHe3 => ?_)
                clear hK K
                try simp only [Act.put, List.setIfInBounds_toArray, List.set_cons_zero, List.set_cons_succ]
                refine wpAnyH_ready (rs := [12]) (by kernel_rfl) (by simp) (AllReadyH.cons (by simp only [List.getElem?_toArray, List.getElem?_cons_succ, List.getElem?_cons_zero]; rfl) (fun K hK => ?_) AllReadyH.nil)
                have HWA := Lib.hid (HN33.out.older ((Below.refl _ _).alloc (Nat.le_refl _) (.cells #[.int .i64 (tt + ((a : Int) + 1)), .int .i64 lim, .string ⟨#[97, 46, 101, 120, 97, 109, 112, 108, 101, 47, 120]⟩, .string ⟨(Lib.decDigits k).toArray⟩, .slice (some ⟨wd.heap.size, 0, none⟩) 1 1] 86)))
                have HGA := Lib.hid (HG33.out.older ((Below.refl _ _).alloc (Nat.le_refl _) (.cells #[.int .i64 (tt + ((a : Int) + 1)), .int .i64 lim, .string ⟨#[97, 46, 101, 120, 97, 109, 112, 108, 101, 47, 120]⟩, .string ⟨(Lib.decDigits k).toArray⟩, .slice (some ⟨wd.heap.size, 0, none⟩) 1 1] 86)))
                refine step_appB tyPub (by rfl) _ _ (by rfl) w1.heap.size (.slice pa ps.length pc) ps.length _ (by rfl) HWA.out.pub HWA.out.bel.size (.slice (some ⟨wn33.heap.size, 0, none⟩) 1 1) 1 [.int .i64 (tt + ((a : Int) + 1)), .int .i64 lim, .string ⟨#[97, 46, 101, 120, 97, 109, 112, 108, 101, 47, 120]⟩, .string ⟨(Lib.decDigits k).toArray⟩, .slice (some ⟨wd.heap.size, 0, none⟩) 1 1] (by rfl) src_lits (by rfl) (by simp [Value.oneCell']) (by have := HPL.out; omega) ?_
                intro v4 w4 hown4 hgrow4 hlies4
                have HWN := Lib.hid (HWA.out.add (x := ⟨tt + ((a : Int) + 1), lim, keyX, Lib.decDigits k, .slice (some ⟨wd.heap.size, 0, none⟩) 1 1, [UInt8.ofNat k]⟩) (b := UInt8.ofNat k) hown4 hgrow4 hlies4 rfl rfl (by rw [u8_of (by have := HKB.out; omega)]; exact HGA.out))
                have hb4 := HWA.out.boxP hgrow4
                obtain ⟨va, vc, rfl, _⟩ := hown4.form
                have c43 := hb4.cell (i := 0) rfl
                have f43 := hb4.frz 0
                have hz4 := hb4.lt
                clear hown4 hgrow4 hlies4 hb4
                refine hK.out _ _ (by trivial) (fun hHe4 => ?_)
                clear hK K
                try simp only [Act.put, List.setIfInBounds_toArray, List.set_cons_zero, List.set_cons_succ]
                refine Hd.tk 13 ?_
                try simp only [Act.put, List.setIfInBounds_toArray, List.set_cons_zero, List.set_cons_succ]
                refine wpAnyH_ready (rs := [14]) (by kernel_rfl) (by simp) (AllReadyH.cons (by simp only [List.getElem?_toArray, List.getElem?_cons_succ, List.getElem?_cons_zero]; rfl) (fun K hK => ?_) AllReadyH.nil)
                go_simp
                refine hK.out _ _ (by trivial) (fun hHe5 => ?_)
                clear hK K
                try simp only [Act.put, List.setIfInBounds_toArray, List.set_cons_zero, List.set_cons_succ]
                refine wpAnyH_done (by kernel_rfl) ?_ _
                go_wp2_with fail
                go_roundg (gk - 1)
                case rel => exact ⟨k + 1, _, ps ++ [⟨tt + ((a : Int) + 1), lim, keyX, Lib.decDigits k, .slice (some ⟨wd.heap.size, 0, none⟩) 1 1, [UInt8.ofNat k]⟩], by go_num, by have := HLT.out; omega, Lib.hid (by have := HQ.out; omega), by rw [HTS.out], by simp [HPK.out], Lib.hid (by have := HTL.out.push (.slice (some ⟨wd.heap.size, 0, none⟩) 1 1); rw [HPK.out, HTS.out] at this; exact this), HWN⟩
                case measure => have := HQ.out; have := HLT.out; omega
        · obtain rfl : k = acts.length := by omega
          have hn0 : 0 < acts.length := by omega
          obtain ⟨m, hm⟩ : ∃ z, wi % acts.length = z := ⟨_, rfl⟩
          have hml : m < acts.length := by rw [← hm]; exact Nat.mod_lt _ hn0
          have hmp : m < ps.length := by rw [HPK.out]; exact hml
          have mi : (wi : Int) % (acts.length : Int) = (m : Int) := by rw [← hm]; rfl
          have mt : Int.tmod (wi : Int) (acts.length : Int) = (m : Int) := by rw [Int.tmod_eq_emod_of_nonneg (by omega)]; exact mi
          have y0w : IntKind.i64.wrap (wi : Int) = (wi : Int) := IntWalk.i64_in _ (by omega)
          have y1m : IntKind.i64.wrap ((m : Int) + 1) = (m : Int) + 1 := IntWalk.i64_in _ (by omega)
          have HRW := Lib.hid (rows_ownF HW.out.pub pubR_len)
          obtain ⟨x, hxk⟩ : ∃ x, ps[m]? = some x := ⟨_, List.getElem?_eq_getElem hmp⟩
          obtain ⟨b4, o4, e4, _, _, hrow4⟩ := row_at HRW.out hxk
          cases e4
          have t0 := hrow4 0 _ rfl
          have hx0 := (HTL.out m x hxk).1
          rw [Nat.add_zero, hx0] at t0
          obtain ⟨tm, htm⟩ : ∃ z, timesT f (m + 1) = z := ⟨_, rfl⟩
          have HTM := Lib.hid htm
          have tm1 : 0 ≤ tm ∧ tm ≤ 6000 := by have := timesT_le HF5.out (m + 1); omega
          rw [htm] at t0
          have c0 := HW.out.box.cell (i := 0) rfl
          clear hrow4 hx0 hxk htm
          by_cases hm1 : m + 1 < acts.length
          · have hmp1 : m + 1 < ps.length := by rw [HPK.out]; exact hm1
            have hmi1 : (m : Int) + 1 < (acts.length : Int) := by omega
            obtain ⟨x1, hxk1⟩ : ∃ x, ps[m + 1]? = some x := ⟨_, List.getElem?_eq_getElem hmp1⟩
            obtain ⟨b5, o5, e5, _, _, hrow5⟩ := row_at HRW.out hxk1
            cases e5
            have t1 := hrow5 0 _ rfl
            have hx1 := (HTL.out (m + 1) x1 hxk1).1
            rw [Nat.add_zero, hx1] at t1
            obtain ⟨te, hte⟩ : ∃ z, timesT f (m + 1 + 1) = z := ⟨_, rfl⟩
            have HTE := Lib.hid (show endT (fun i => timesT f (i + 1)) acts.length m = te by unfold endT; rw [if_pos hm1]; exact hte)
            rw [hte] at t1
            have te1 : 0 ≤ te ∧ te ≤ 1099511627776 := by have := timesT_le HF5.out (m + 1 + 1); omega
            clear hrow5 hx1 hxk1 hte
            go_upto_region 15 with fail
            have HNR := Lib.hid (HNX.out.older ((HB1.out.trans (HW.out.bel.mono HB1.out.size))))
            have i0 := HNR.out.cell (i := 0) rfl
            have v0 : IntKind.i64.wrap (n0 : Int) = (n0 : Int) := IntWalk.i64_in _ (by omega)
            obtain ⟨u0, hu0⟩ : ∃ z, n0 % 2000 = z := ⟨_, rfl⟩
            have hul0 : u0 < 2000 := by omega
            have um0 : (n0 : Int) % 2000 = (u0 : Int) := by omega
            have ut0 : Int.tmod (n0 : Int) 2000 = (u0 : Int) := by rw [Int.tmod_eq_emod_of_nonneg (by omega)]; exact um0
            clear hu0
            have i1 := HNR.out.cell (i := 1) rfl
            have v1 : IntKind.i64.wrap (n1 : Int) = (n1 : Int) := IntWalk.i64_in _ (by omega)
            obtain ⟨u1, hu1⟩ : ∃ z, n1 % 2000 = z := ⟨_, rfl⟩
            have hul1 : u1 < 2000 := by omega
            have um1 : (n1 : Int) % 2000 = (u1 : Int) := by omega
            have ut1 : Int.tmod (n1 : Int) 2000 = (u1 : Int) := by rw [Int.tmod_eq_emod_of_nonneg (by omega)]; exact um1
            clear hu1
            have i2 := HNR.out.cell (i := 2) rfl
            have v2 : IntKind.i64.wrap (n2 : Int) = (n2 : Int) := IntWalk.i64_in _ (by omega)
            obtain ⟨u2, hu2⟩ : ∃ z, n2 % 100 = z := ⟨_, rfl⟩
            have hul2 : u2 < 100 := by omega
            have um2 : (n2 : Int) % 100 = (u2 : Int) := by omega
            have ut2 : Int.tmod (n2 : Int) 100 = (u2 : Int) := by rw [Int.tmod_eq_emod_of_nonneg (by omega)]; exact um2
            clear hu2
            have i3 := HNR.out.cell (i := 3) rfl
            have v3 : IntKind.i64.wrap (n3 : Int) = (n3 : Int) := IntWalk.i64_in _ (by omega)
            obtain ⟨u3, hu3⟩ : ∃ z, n3 % 50 = z := ⟨_, rfl⟩
            have hul3 : u3 < 50 := by omega
            have um3 : (n3 : Int) % 50 = (u3 : Int) := by omega
            have ut3 : Int.tmod (n3 : Int) 50 = (u3 : Int) := by rw [Int.tmod_eq_emod_of_nonneg (by omega)]; exact um3
            clear hu3
            have s1 : IntKind.i64.wrap ((u1 : Int) + (u2 : Int)) = (u1 : Int) + (u2 : Int) := IntWalk.i64_in _ (by omega)
            have s2 : IntKind.i64.wrap ((u0 : Int) - (u3 : Int)) = (u0 : Int) - (u3 : Int) := IntWalk.i64_in _ (by omega)
            obtain ⟨sk, hsk⟩ : ∃ z, max (0 : Int) ((u0 : Int) - (u3 : Int)) = z := ⟨_, rfl⟩
            have hsk1 : 0 ≤ sk ∧ sk ≤ (u0 : Int) := by omega
            refine wp_region_held_drew (S := (fun w' => w'.cell? ⟨bX, 0, none⟩ = some (.int .u16 (n0 : Int)) ∧ w'.cell? ⟨bX, 1, none⟩ = some (.int .u16 (n1 : Int)))) (by kernel_rfl) (by exact ⟨i0, i1⟩) (fun hHeld => ?_)
            refine Hd.tk 0 ?_
            try simp only [Act.put, List.setIfInBounds_toArray, List.set_cons_zero, List.set_cons_succ]
            refine Hd.tk 1 ?_
            try simp only [Act.put, List.setIfInBounds_toArray, List.set_cons_zero, List.set_cons_succ]
            refine Hd.tk 2 ?_
            try simp only [Act.put, List.setIfInBounds_toArray, List.set_cons_zero, List.set_cons_succ]
            refine Hd.tk 3 ?_
            try simp only [Act.put, List.setIfInBounds_toArray, List.set_cons_zero, List.set_cons_succ]
            refine Hd.tk 4 ?_
            try simp only [Act.put, List.setIfInBounds_toArray, List.set_cons_zero, List.set_cons_succ]
            refine Hd.tk 5 ?_
            try simp only [Act.put, List.setIfInBounds_toArray, List.set_cons_zero, List.set_cons_succ]
            refine Hd.tk 6 ?_
            try simp only [Act.put, List.setIfInBounds_toArray, List.set_cons_zero, List.set_cons_succ]
            refine Hd.tk 7 ?_
            try simp only [Act.put, List.setIfInBounds_toArray, List.set_cons_zero, List.set_cons_succ]
            refine Hd.tk 8 ?_
            try simp only [Act.put, List.setIfInBounds_toArray, List.set_cons_zero, List.set_cons_succ]
            refine Hd.tk 9 ?_
            try simp only [Act.put, List.setIfInBounds_toArray, List.set_cons_zero, List.set_cons_succ]
            refine wpAnyH_done (by kernel_rfl) ?_ _
            go_upto_region 18 with fail
            have HDM : Hid (∀ w, Calls Tryz.prog 36 #[.int .i64 (m : Int)] w fun e w' => e = .returned (.string ⟨(Lib.decDigits m).toArray⟩) ∧ Below w.heap.size w w') := Lib.hid (fun w => digits_nat (m + 1) m (by omega) (by omega) w)
            have y4m : IntKind.u8.wrap (m : Int) = (m : Int) := by rw [IntKind.wrap_u8]; omega
            have HWD := Lib.hid (HW.out.older (Below.refl _ _).drew)
            have HNR2 := Lib.hid (HNR.out.older (Below.refl _ _).drew)
            obtain ⟨wd, hwd⟩ : ∃ z, wr.drew = z := ⟨_, rfl⟩
            rw [hwd] at HWD HNR2 ⊢
            clear hwd c0 t0
            clear i0 i1 i2 i3 v0 v1 v2 v3 um0 um1 um2 um3 ut0 ut1 ut2 ut3 s1 s2 mt mi
            go_upto_region 19 with (go_at_call 36; refine (HDM.out _).mono ?_; rintro e wq ⟨rfl, hbq⟩; have HWQ := Lib.hid (HWD.out.older hbq); have q2 : (((wq.alloc (.cells #[.int .u8 (m : Int)] 5)).alloc (.cells #[.int .i64 (u0 : Int), .int .i64 0, .slice (some ⟨wq.heap.size, 0, none⟩) 1 1] 88)).alloc (.cells #[.string ⟨#[]⟩, .string ⟨#[97, 46, 101, 120, 97, 109, 112, 108, 101, 47, 120]⟩, .string ⟨(Lib.decDigits m).toArray⟩, .int .i64 0, .int .i64 sk, .int .i64 (u0 : Int), .int .i64 0, .int .i64 1, .slice none 0 0, .slice (some ⟨wq.heap.size + 1, 0, none⟩) 1 1, .bool true] 82)).cell? ⟨b0, 2, none⟩ = some (.slice none 0 0) := (((HWQ.out.tox.al (.cells #[.int .u8 (m : Int)] 5)).al (.cells #[.int .i64 (u0 : Int), .int .i64 0, .slice (some ⟨wq.heap.size, 0, none⟩) 1 1] 88)).al (.cells #[.string ⟨#[]⟩, .string ⟨#[97, 46, 101, 120, 97, 109, 112, 108, 101, 47, 120]⟩, .string ⟨(Lib.decDigits m).toArray⟩, .int .i64 0, .int .i64 sk, .int .i64 (u0 : Int), .int .i64 0, .int .i64 1, .slice none 0 0, .slice (some ⟨wq.heap.size + 1, 0, none⟩) 1 1, .bool true] 82)).box.cell (i := 2) rfl; have g2 : (((wq.alloc (.cells #[.int .u8 (m : Int)] 5)).alloc (.cells #[.int .i64 (u0 : Int), .int .i64 0, .slice (some ⟨wq.heap.size, 0, none⟩) 1 1] 88)).alloc (.cells #[.string ⟨#[]⟩, .string ⟨#[97, 46, 101, 120, 97, 109, 112, 108, 101, 47, 120]⟩, .string ⟨(Lib.decDigits m).toArray⟩, .int .i64 0, .int .i64 sk, .int .i64 (u0 : Int), .int .i64 0, .int .i64 1, .slice none 0 0, .slice (some ⟨wq.heap.size + 1, 0, none⟩) 1 1, .bool true] 82)).frozen? ⟨b0, 2, none⟩ = false := (((HWQ.out.tox.al (.cells #[.int .u8 (m : Int)] 5)).al (.cells #[.int .i64 (u0 : Int), .int .i64 0, .slice (some ⟨wq.heap.size, 0, none⟩) 1 1] 88)).al (.cells #[.string ⟨#[]⟩, .string ⟨#[97, 46, 101, 120, 97, 109, 112, 108, 101, 47, 120]⟩, .string ⟨(Lib.decDigits m).toArray⟩, .int .i64 0, .int .i64 sk, .int .i64 (u0 : Int), .int .i64 0, .int .i64 1, .slice none 0 0, .slice (some ⟨wq.heap.size + 1, 0, none⟩) 1 1, .bool true] 82)).box.frz 2; clear hbq)
            have hz0 : ∀ (o o' : Obj), ((wq.alloc o).alloc o').heap.size = wq.heap.size + 1 + 1 := fun o o' => by simp
            have hz1 : ∀ (o : Obj), (wq.alloc o).heap.size = wq.heap.size + 1 := fun o => by simp
            have HX1 : Hid (TimesX w1 ((((wq.alloc (.cells #[.int .u8 (m : Int)] 5)).alloc (.cells #[.int .i64 (u0 : Int), .int .i64 0, .slice (some ⟨wq.heap.size, 0, none⟩) 1 1] 88)).alloc (.cells #[.string ⟨#[]⟩, .string ⟨#[97, 46, 101, 120, 97, 109, 112, 108, 101, 47, 120]⟩, .string ⟨(Lib.decDigits m).toArray⟩, .int .i64 0, .int .i64 sk, .int .i64 (u0 : Int), .int .i64 0, .int .i64 1, .slice none 0 0, .slice (some ⟨wq.heap.size + 1, 0, none⟩) 1 1, .bool true] 82)).setCell ⟨b0, 2, none⟩ (.slice (some ⟨wq.heap.size + 1 + 1, 0, none⟩) 1 1)) b0 (.slice (some ⟨b4, o4, none⟩) ps.length pc) ps #[.slice (some ⟨b4, o4, none⟩) ps.length pc, .slice none 0 0, .slice (some ⟨wq.heap.size + 1 + 1, 0, none⟩) 1 1, .slice none 0 0, .slice none 0 0, .int .i64 0, .int .i64 0]) := Lib.hid ((((HWQ.out.tox.al (.cells #[.int .u8 (m : Int)] 5)).al (.cells #[.int .i64 (u0 : Int), .int .i64 0, .slice (some ⟨wq.heap.size, 0, none⟩) 1 1] 88)).al (.cells #[.string ⟨#[]⟩, .string ⟨#[97, 46, 101, 120, 97, 109, 112, 108, 101, 47, 120]⟩, .string ⟨(Lib.decDigits m).toArray⟩, .int .i64 0, .int .i64 sk, .int .i64 (u0 : Int), .int .i64 0, .int .i64 1, .slice none 0 0, .slice (some ⟨wq.heap.size + 1, 0, none⟩) 1 1, .bool true] 82)).set 2 (.slice (some ⟨wq.heap.size + 1 + 1, 0, none⟩) 1 1))
            have HK1 := Lib.hid ((((HWQ.out.tox.al (.cells #[.int .u8 (m : Int)] 5)).al (.cells #[.int .i64 (u0 : Int), .int .i64 0, .slice (some ⟨wq.heap.size, 0, none⟩) 1 1] 88)).al (.cells #[.string ⟨#[]⟩, .string ⟨#[97, 46, 101, 120, 97, 109, 112, 108, 101, 47, 120]⟩, .string ⟨(Lib.decDigits m).toArray⟩, .int .i64 0, .int .i64 sk, .int .i64 (u0 : Int), .int .i64 0, .int .i64 1, .slice none 0 0, .slice (some ⟨wq.heap.size + 1, 0, none⟩) 1 1, .bool true] 82)).setB (i := 2) (v := (.slice (some ⟨wq.heap.size + 1 + 1, 0, none⟩) 1 1)) (bx_allocH (bx_allocH (Bx.new wq 5 #[.int .u8 (m : Int)]) (.cells #[.int .i64 (u0 : Int), .int .i64 0, .slice (some ⟨wq.heap.size, 0, none⟩) 1 1] 88)) (.cells #[.string ⟨#[]⟩, .string ⟨#[97, 46, 101, 120, 97, 109, 112, 108, 101, 47, 120]⟩, .string ⟨(Lib.decDigits m).toArray⟩, .int .i64 0, .int .i64 sk, .int .i64 (u0 : Int), .int .i64 0, .int .i64 1, .slice none 0 0, .slice (some ⟨wq.heap.size + 1, 0, none⟩) 1 1, .bool true] 82)) (by decide))
            have HK2 := Lib.hid ((((HWQ.out.tox.al (.cells #[.int .u8 (m : Int)] 5)).al (.cells #[.int .i64 (u0 : Int), .int .i64 0, .slice (some ⟨wq.heap.size, 0, none⟩) 1 1] 88)).al (.cells #[.string ⟨#[]⟩, .string ⟨#[97, 46, 101, 120, 97, 109, 112, 108, 101, 47, 120]⟩, .string ⟨(Lib.decDigits m).toArray⟩, .int .i64 0, .int .i64 sk, .int .i64 (u0 : Int), .int .i64 0, .int .i64 1, .slice none 0 0, .slice (some ⟨wq.heap.size + 1, 0, none⟩) 1 1, .bool true] 82)).setB (i := 2) (v := (.slice (some ⟨wq.heap.size + 1 + 1, 0, none⟩) 1 1)) (bx_allocH (bx_newH (T := 88) (cs := #[.int .i64 (u0 : Int), .int .i64 0, .slice (some ⟨wq.heap.size, 0, none⟩) 1 1]) (hz1 (.cells #[.int .u8 (m : Int)] 5))) (.cells #[.string ⟨#[]⟩, .string ⟨#[97, 46, 101, 120, 97, 109, 112, 108, 101, 47, 120]⟩, .string ⟨(Lib.decDigits m).toArray⟩, .int .i64 0, .int .i64 sk, .int .i64 (u0 : Int), .int .i64 0, .int .i64 1, .slice none 0 0, .slice (some ⟨wq.heap.size + 1, 0, none⟩) 1 1, .bool true] 82)) (by decide))
            have HK3 := Lib.hid ((((HWQ.out.tox.al (.cells #[.int .u8 (m : Int)] 5)).al (.cells #[.int .i64 (u0 : Int), .int .i64 0, .slice (some ⟨wq.heap.size, 0, none⟩) 1 1] 88)).al (.cells #[.string ⟨#[]⟩, .string ⟨#[97, 46, 101, 120, 97, 109, 112, 108, 101, 47, 120]⟩, .string ⟨(Lib.decDigits m).toArray⟩, .int .i64 0, .int .i64 sk, .int .i64 (u0 : Int), .int .i64 0, .int .i64 1, .slice none 0 0, .slice (some ⟨wq.heap.size + 1, 0, none⟩) 1 1, .bool true] 82)).setB (i := 2) (v := (.slice (some ⟨wq.heap.size + 1 + 1, 0, none⟩) 1 1)) (bx_newH (T := 82) (cs := #[.string ⟨#[]⟩, .string ⟨#[97, 46, 101, 120, 97, 109, 112, 108, 101, 47, 120]⟩, .string ⟨(Lib.decDigits m).toArray⟩, .int .i64 0, .int .i64 sk, .int .i64 (u0 : Int), .int .i64 0, .int .i64 1, .slice none 0 0, .slice (some ⟨wq.heap.size + 1, 0, none⟩) 1 1, .bool true]) (hz0 (.cells #[.int .u8 (m : Int)] 5) (.cells #[.int .i64 (u0 : Int), .int .i64 0, .slice (some ⟨wq.heap.size, 0, none⟩) 1 1] 88))) (by decide))
            obtain ⟨w5, hw5⟩ : ∃ z, (((wq.alloc (.cells #[.int .u8 (m : Int)] 5)).alloc (.cells #[.int .i64 (u0 : Int), .int .i64 0, .slice (some ⟨wq.heap.size, 0, none⟩) 1 1] 88)).alloc (.cells #[.string ⟨#[]⟩, .string ⟨#[97, 46, 101, 120, 97, 109, 112, 108, 101, 47, 120]⟩, .string ⟨(Lib.decDigits m).toArray⟩, .int .i64 0, .int .i64 sk, .int .i64 (u0 : Int), .int .i64 0, .int .i64 1, .slice none 0 0, .slice (some ⟨wq.heap.size + 1, 0, none⟩) 1 1, .bool true] 82)).setCell ⟨b0, 2, none⟩ (.slice (some ⟨wq.heap.size + 1 + 1, 0, none⟩) 1 1) = z := ⟨_, rfl⟩
            rw [hw5] at HX1 HK1 HK2 HK3 ⊢
            obtain ⟨g, hg⟩ : ∃ z, wq.heap.size = z := ⟨_, rfl⟩
            rw [hg] at HX1 HK1 HK2 HK3 ⊢
            clear hw5 hg hz0 hz1 q2 g2 HWQ HDM HWD HW
            have e1 := HX1.out.box.cell (i := 1) rfl
            have e5 := HX1.out.box.cell (i := 5) rfl
            have g1 := HX1.out.box.frz 1
            have g5 := HX1.out.box.frz 5
            have hz5 := HX1.out.box.lt
            go_upto_region 20 with fail
            have HX2 : Hid (TimesX w1 ((w5.setCell ⟨b0, 1, none⟩ (.slice (some ⟨w5.heap.size, 0, none⟩) 1 1)).alloc (.cells #[.string ⟨#[112, 114, 101, 102, 105, 120, 32, 48, 32, 97, 46, 101, 120, 97, 109, 112, 108, 101, 47]⟩, .int .i64 (u1 : Int), .int .i64 ((u1 : Int) + (u2 : Int))] 97)) b0 (.slice (some ⟨b4, o4, none⟩) ps.length pc) ps #[.slice (some ⟨b4, o4, none⟩) ps.length pc, .slice (some ⟨w5.heap.size, 0, none⟩) 1 1, .slice (some ⟨g + 1 + 1, 0, none⟩) 1 1, .slice none 0 0, .slice none 0 0, .int .i64 0, .int .i64 0]) := Lib.hid ((HX1.out.set 1 (.slice (some ⟨w5.heap.size, 0, none⟩) 1 1)).al (.cells #[.string ⟨#[112, 114, 101, 102, 105, 120, 32, 48, 32, 97, 46, 101, 120, 97, 109, 112, 108, 101, 47]⟩, .int .i64 (u1 : Int), .int .i64 ((u1 : Int) + (u2 : Int))] 97))
            have HL1 := Lib.hid (bx_allocH (HX1.out.setB (i := 1) (v := (.slice (some ⟨w5.heap.size, 0, none⟩) 1 1)) HK1.out (by decide)) (.cells #[.string ⟨#[112, 114, 101, 102, 105, 120, 32, 48, 32, 97, 46, 101, 120, 97, 109, 112, 108, 101, 47]⟩, .int .i64 (u1 : Int), .int .i64 ((u1 : Int) + (u2 : Int))] 97))
            have HL2 := Lib.hid (bx_allocH (HX1.out.setB (i := 1) (v := (.slice (some ⟨w5.heap.size, 0, none⟩) 1 1)) HK2.out (by decide)) (.cells #[.string ⟨#[112, 114, 101, 102, 105, 120, 32, 48, 32, 97, 46, 101, 120, 97, 109, 112, 108, 101, 47]⟩, .int .i64 (u1 : Int), .int .i64 ((u1 : Int) + (u2 : Int))] 97))
            have HL3 := Lib.hid (bx_allocH (HX1.out.setB (i := 1) (v := (.slice (some ⟨w5.heap.size, 0, none⟩) 1 1)) HK3.out (by decide)) (.cells #[.string ⟨#[112, 114, 101, 102, 105, 120, 32, 48, 32, 97, 46, 101, 120, 97, 109, 112, 108, 101, 47]⟩, .int .i64 (u1 : Int), .int .i64 ((u1 : Int) + (u2 : Int))] 97))
            have HL4 := Lib.hid (bx_newH (w := w5.setCell ⟨b0, 1, none⟩ (.slice (some ⟨w5.heap.size, 0, none⟩) 1 1)) (n := w5.heap.size) (T := 97) (cs := #[.string ⟨#[112, 114, 101, 102, 105, 120, 32, 48, 32, 97, 46, 101, 120, 97, 109, 112, 108, 101, 47]⟩, .int .i64 (u1 : Int), .int .i64 ((u1 : Int) + (u2 : Int))]) (by simp))
            obtain ⟨w6, hw6⟩ : ∃ z, (w5.setCell ⟨b0, 1, none⟩ (.slice (some ⟨w5.heap.size, 0, none⟩) 1 1)).alloc (.cells #[.string ⟨#[112, 114, 101, 102, 105, 120, 32, 48, 32, 97, 46, 101, 120, 97, 109, 112, 108, 101, 47]⟩, .int .i64 (u1 : Int), .int .i64 ((u1 : Int) + (u2 : Int))] 97) = z := ⟨_, rfl⟩
            rw [hw6] at HX2 HL1 HL2 HL3 HL4 ⊢
            obtain ⟨gr, hgr⟩ : ∃ z, w5.heap.size = z := ⟨_, rfl⟩
            rw [hgr] at HX2 HL4 ⊢
            clear hw6 hgr e1 e5 g1 g5 hz5 HX1 HK1 HK2 HK3
            have e5 := HX2.out.box.cell (i := 5) rfl
            have g5 := HX2.out.box.frz 5
            have hz5 := HX2.out.box.lt
            go_upto_region 21 with fail
            have HX3 : Hid (TimesX w1 (w6.setCell ⟨b0, 5, none⟩ (.int .i64 100)) b0 (.slice (some ⟨b4, o4, none⟩) ps.length pc) ps #[.slice (some ⟨b4, o4, none⟩) ps.length pc, .slice (some ⟨gr, 0, none⟩) 1 1, .slice (some ⟨g + 1 + 1, 0, none⟩) 1 1, .slice none 0 0, .slice none 0 0, .int .i64 100, .int .i64 0]) := Lib.hid (HX2.out.set 5 (.int .i64 100))
            have HM1 := Lib.hid (HX2.out.setB (i := 5) (v := .int .i64 100) HL1.out (by decide))
            have HM2 := Lib.hid (HX2.out.setB (i := 5) (v := .int .i64 100) HL2.out (by decide))
            have HM3 := Lib.hid (HX2.out.setB (i := 5) (v := .int .i64 100) HL3.out (by decide))
            have HM4 := Lib.hid (HX2.out.setB (i := 5) (v := .int .i64 100) HL4.out (by decide))
            obtain ⟨w7, hw7⟩ : ∃ z, w6.setCell ⟨b0, 5, none⟩ (.int .i64 100) = z := ⟨_, rfl⟩
            rw [hw7] at HX3 HM1 HM2 HM3 HM4 ⊢
            clear hw7 e5 g5 hz5 HX2 HL1 HL2 HL3 HL4
            have HTA := Lib.hid (times_at HX3.out HPL.out HTL.out (by omega) HM1.out HM2.out HM3.out HM4.out)
            have HSM := Lib.hid (times_small (m := m) (u0 := (u0 : Int)) (sk := sk) (ord := (u1 : Int)) (stl := (u1 : Int) + (u2 : Int)) (dv := .slice (some ⟨g, 0, none⟩) 1 1) (tv := .slice none 0 0) (pv := .slice (some ⟨g + 1, 0, none⟩) 1 1) HF5.out HPL.out HTL.out ⟨ml1, ml2⟩ (by omega) (by omega) (by omega) (by omega))
            have HRL := Lib.hid (times_rules (tm := tm) (te := te) (u0 := (u0 : Int)) (sk := sk) (ord := (u1 : Int)) (stl := (u1 : Int) + (u2 : Int)) (dv := .slice (some ⟨g, 0, none⟩) 1 1) (tv := .slice none 0 0) (pv := .slice (some ⟨g + 1, 0, none⟩) 1 1) HTL.out hmp ⟨ml1, ml2⟩ (by omega) hsk1.2 (by omega) (by omega) HTM.out (by rw [HPK.out]; exact HTE.out))
            have hw1 : IntKind.i64.wrap (te - 1) = te - 1 := IntWalk.i64_in _ (by omega)
            have hw2 : IntKind.i64.wrap (sk - (te - 1)) = sk - (te - 1) := IntWalk.i64_in _ (by omega)
            obtain ⟨fr, hfr⟩ : ∃ z, (decide (tm ≤ (u0 : Int)) && (decide ((u0 : Int) < te) || decide (sk - (te - 1) ≤ lim))) = z := ⟨_, rfl⟩
            obtain ⟨tk, htk⟩ : ∃ z, (decide ((u1 : Int) + (u2 : Int) < (u0 : Int)) && decide (te ≤ (u1 : Int))) = z := ⟨_, rfl⟩
            have HFR := Lib.hid hfr
            have HTK2 := Lib.hid htk
            rw [hfr, htk] at HRL
            clear hfr htk HM1 HM2 HM3 HM4 HTL HTM HTE
            go_cut [20] (fun s20 wx => s20 = .bool fr ∧ w7 = wx)
            case first =>
              have q1 : tm ≤ (u0 : Int) ∨ ¬ tm ≤ (u0 : Int) := Decidable.em _
              rcases q1 with q1 | q1
              · rcases (Decidable.em ((u0 : Int) < te)) with q2 | q2
                · have HF : Hid (fr = true) := Lib.hid (by rw [← HFR.out]; simp [q1, q2])
                  go_wp2_with fail
                  go_meet
                  exact ⟨by rw [HF.out], rfl⟩
                · rcases (Decidable.em (sk - (te - 1) ≤ lim)) with q3 | q3
                  · have HF : Hid (fr = true) := Lib.hid (by rw [← HFR.out]; simp [q1, q2, q3])
                    go_wp2_with fail
                    go_meet
                    exact ⟨by rw [HF.out], rfl⟩
                  · have HF : Hid (fr = false) := Lib.hid (by rw [← HFR.out]; simp [q1, q2, q3])
                    go_wp2_with fail
                    go_meet
                    exact ⟨by rw [HF.out], rfl⟩
              · have HF : Hid (fr = false) := Lib.hid (by rw [← HFR.out]; simp [q1])
                go_wp2_with fail
                go_meet
                exact ⟨by rw [HF.out], rfl⟩
            case rest =>
              obtain ⟨rfl, rfl⟩ := hcut
              go_upto_region 22 with fail
              go_cut [21] (fun s21 wx => s21 = .bool tk ∧ w7 = wx)
              case first =>
                rcases (Decidable.em ((u1 : Int) + (u2 : Int) < (u0 : Int))) with q1 | q1
                · rcases (Decidable.em (te ≤ (u1 : Int))) with q2 | q2
                  · have HF : Hid (tk = true) := Lib.hid (by rw [← HTK2.out]; simp [q1, q2])
                    go_wp2_with fail
                    go_meet
                    exact ⟨by rw [HF.out], rfl⟩
                  · have HF : Hid (tk = false) := Lib.hid (by rw [← HTK2.out]; simp [q1, q2])
                    go_wp2_with fail
                    go_meet
                    exact ⟨by rw [HF.out], rfl⟩
                · have HF : Hid (tk = false) := Lib.hid (by rw [← HTK2.out]; simp [q1])
                  go_wp2_with fail
                  go_meet
                  exact ⟨by rw [HF.out], rfl⟩
              case rest =>
                obtain ⟨rfl, rfl⟩ := hcut
                obtain ⟨r3, r1, r2, r4⟩ := HRL.out
                have HA0 := Lib.hid HTA.out
                clear HRL
                have Rr3 := Lib.hid r3
                have Rr1 := Lib.hid r1
                have Rr2 := Lib.hid r2
                have Rr4 := Lib.hid r4
                clear r1 r2 r3 r4 HFR HTK2
                cases fr with
                | false =>
                  cases tk with
                  | false =>
                    replace Rr3 := Lib.hid (Rr3.out.trans (by rfl : _ = 1))
                    replace Rr1 := Lib.hid (Rr1.out.trans (by rfl : _ = 0))
                    have x0 := HX3.out.box.cell (i := 0) rfl
                    have x1 := HX3.out.box.cell (i := 1) rfl
                    have x2 := HX3.out.box.cell (i := 2) rfl
                    have x3 := HX3.out.box.cell (i := 3) rfl
                    have x4 := HX3.out.box.cell (i := 4) rfl
                    have x5 := HX3.out.box.cell (i := 5) rfl
                    have x6 := HX3.out.box.cell (i := 6) rfl
                    go_wp2_with fail
                    refine (Hy.rule_any (timesH ps (timesS m (u0 : Int) sk (.slice (some ⟨g, 0, none⟩) 1 1) (.slice none 0 0) (.slice (some ⟨g + 1, 0, none⟩) 1 1)) (u1 : Int) ((u1 : Int) + (u2 : Int))) _ _ _ _ _ 1000 3 _ (HRY.out.below (HBY.out.trans ((HB1.out.trans (HX3.out.bel.mono HB1.out.size)).mono HBY.out.size))) (HPW.out.below (HBY.out.trans ((HB1.out.trans (HX3.out.bel.mono HB1.out.size)).mono HBY.out.size))) HA0.out HSM.out (by decide)).mono ?_
                    rintro e y3 ⟨v3, rfl, hov3, hyb3⟩
                    obtain ⟨va3, vc3, rfl, _⟩ := hov3.form
                    have HX3' := Lib.hid (HX3.out.older hyb3)
                    have HA3' := Lib.hid (HA0.out.below hyb3)
                    clear hov3 hyb3 x0 x1 x2 x3 x4 x5 x6
                    simp only [Rr3.out] 
                    have x0 := HX3'.out.box.cell (i := 0) rfl
                    have x1 := HX3'.out.box.cell (i := 1) rfl
                    have x2 := HX3'.out.box.cell (i := 2) rfl
                    have x3 := HX3'.out.box.cell (i := 3) rfl
                    have x4 := HX3'.out.box.cell (i := 4) rfl
                    have x5 := HX3'.out.box.cell (i := 5) rfl
                    have x6 := HX3'.out.box.cell (i := 6) rfl
                    go_wp2_with fail
                    refine (Hy.rule_any (timesH ps (timesS m (u0 : Int) sk (.slice (some ⟨g, 0, none⟩) 1 1) (.slice none 0 0) (.slice (some ⟨g + 1, 0, none⟩) 1 1)) (u1 : Int) ((u1 : Int) + (u2 : Int))) _ _ _ _ _ 1000 1 _ (HRY.out.below (HBY.out.trans ((HB1.out.trans (HX3'.out.bel.mono HB1.out.size)).mono HBY.out.size))) (HPW.out.below (HBY.out.trans ((HB1.out.trans (HX3'.out.bel.mono HB1.out.size)).mono HBY.out.size))) HA3'.out HSM.out (by decide)).mono ?_
                    rintro e y1 ⟨v1, rfl, hov1, hyb1⟩
                    obtain ⟨va1, vc1, rfl, _⟩ := hov1.form
                    have HX1' := Lib.hid (HX3'.out.older hyb1)
                    have HA1' := Lib.hid (HA3'.out.below hyb1)
                    clear hov1 hyb1 x0 x1 x2 x3 x4 x5 x6
                    simp only [Rr1.out] 
                    have x0 := HX1'.out.box.cell (i := 0) rfl
                    have x1 := HX1'.out.box.cell (i := 1) rfl
                    have x2 := HX1'.out.box.cell (i := 2) rfl
                    have x3 := HX1'.out.box.cell (i := 3) rfl
                    have x4 := HX1'.out.box.cell (i := 4) rfl
                    have x5 := HX1'.out.box.cell (i := 5) rfl
                    have x6 := HX1'.out.box.cell (i := 6) rfl
                    go_wp2_with fail
                    refine (Hy.rule_any (timesH ps (timesS m (u0 : Int) sk (.slice (some ⟨g, 0, none⟩) 1 1) (.slice none 0 0) (.slice (some ⟨g + 1, 0, none⟩) 1 1)) (u1 : Int) ((u1 : Int) + (u2 : Int))) _ _ _ _ _ 1000 2 _ (HRY.out.below (HBY.out.trans ((HB1.out.trans (HX1'.out.bel.mono HB1.out.size)).mono HBY.out.size))) (HPW.out.below (HBY.out.trans ((HB1.out.trans (HX1'.out.bel.mono HB1.out.size)).mono HBY.out.size))) HA1'.out HSM.out (by decide)).mono ?_
                    rintro e y2 ⟨v2, rfl, hov2, hyb2⟩
                    obtain ⟨va2, vc2, rfl, _⟩ := hov2.form
                    have HX2' := Lib.hid (HX1'.out.older hyb2)
                    have HA2' := Lib.hid (HA1'.out.below hyb2)
                    clear hov2 hyb2 x0 x1 x2 x3 x4 x5 x6
                    simp only [Rr2.out] 
                    have x0 := HX2'.out.box.cell (i := 0) rfl
                    have x1 := HX2'.out.box.cell (i := 1) rfl
                    have x2 := HX2'.out.box.cell (i := 2) rfl
                    have x3 := HX2'.out.box.cell (i := 3) rfl
                    have x4 := HX2'.out.box.cell (i := 4) rfl
                    have x5 := HX2'.out.box.cell (i := 5) rfl
                    have x6 := HX2'.out.box.cell (i := 6) rfl
                    go_wp2_with fail
                    refine (Hy.rule_any (timesH ps (timesS m (u0 : Int) sk (.slice (some ⟨g, 0, none⟩) 1 1) (.slice none 0 0) (.slice (some ⟨g + 1, 0, none⟩) 1 1)) (u1 : Int) ((u1 : Int) + (u2 : Int))) _ _ _ _ _ 1000 4 _ (HRY.out.below (HBY.out.trans ((HB1.out.trans (HX2'.out.bel.mono HB1.out.size)).mono HBY.out.size))) (HPW.out.below (HBY.out.trans ((HB1.out.trans (HX2'.out.bel.mono HB1.out.size)).mono HBY.out.size))) HA2'.out HSM.out (by decide)).mono ?_
                    rintro e y4 ⟨v4, rfl, hov4, hyb4⟩
                    obtain ⟨va4, vc4, rfl, _⟩ := hov4.form
                    have HX4' := Lib.hid (HX2'.out.older hyb4)
                    have HA4' := Lib.hid (HA2'.out.below hyb4)
                    clear hov4 hyb4 x0 x1 x2 x3 x4 x5 x6
                    simp only [Rr4.out] 
                    go_wp2_with fail
                    go_ret
                    exact ⟨rfl, (HBY.out.trans ((HB1.out.trans (HX4'.out.bel.mono HB1.out.size)).mono HBY.out.size))⟩
                  | true =>
                    replace Rr3 := Lib.hid (Rr3.out.trans (by rfl : _ = 1))
                    replace Rr1 := Lib.hid (Rr1.out.trans (by rfl : _ = 1))
                    have x0 := HX3.out.box.cell (i := 0) rfl
                    have x1 := HX3.out.box.cell (i := 1) rfl
                    have x2 := HX3.out.box.cell (i := 2) rfl
                    have x3 := HX3.out.box.cell (i := 3) rfl
                    have x4 := HX3.out.box.cell (i := 4) rfl
                    have x5 := HX3.out.box.cell (i := 5) rfl
                    have x6 := HX3.out.box.cell (i := 6) rfl
                    go_wp2_with fail
                    refine (Hy.rule_any (timesH ps (timesS m (u0 : Int) sk (.slice (some ⟨g, 0, none⟩) 1 1) (.slice none 0 0) (.slice (some ⟨g + 1, 0, none⟩) 1 1)) (u1 : Int) ((u1 : Int) + (u2 : Int))) _ _ _ _ _ 1000 3 _ (HRY.out.below (HBY.out.trans ((HB1.out.trans (HX3.out.bel.mono HB1.out.size)).mono HBY.out.size))) (HPW.out.below (HBY.out.trans ((HB1.out.trans (HX3.out.bel.mono HB1.out.size)).mono HBY.out.size))) HA0.out HSM.out (by decide)).mono ?_
                    rintro e y3 ⟨v3, rfl, hov3, hyb3⟩
                    obtain ⟨va3, vc3, rfl, _⟩ := hov3.form
                    have HX3' := Lib.hid (HX3.out.older hyb3)
                    have HA3' := Lib.hid (HA0.out.below hyb3)
                    clear hov3 hyb3 x0 x1 x2 x3 x4 x5 x6
                    simp only [Rr3.out] 
                    have x0 := HX3'.out.box.cell (i := 0) rfl
                    have x1 := HX3'.out.box.cell (i := 1) rfl
                    have x2 := HX3'.out.box.cell (i := 2) rfl
                    have x3 := HX3'.out.box.cell (i := 3) rfl
                    have x4 := HX3'.out.box.cell (i := 4) rfl
                    have x5 := HX3'.out.box.cell (i := 5) rfl
                    have x6 := HX3'.out.box.cell (i := 6) rfl
                    go_wp2_with fail
                    refine (Hy.rule_any (timesH ps (timesS m (u0 : Int) sk (.slice (some ⟨g, 0, none⟩) 1 1) (.slice none 0 0) (.slice (some ⟨g + 1, 0, none⟩) 1 1)) (u1 : Int) ((u1 : Int) + (u2 : Int))) _ _ _ _ _ 1000 1 _ (HRY.out.below (HBY.out.trans ((HB1.out.trans (HX3'.out.bel.mono HB1.out.size)).mono HBY.out.size))) (HPW.out.below (HBY.out.trans ((HB1.out.trans (HX3'.out.bel.mono HB1.out.size)).mono HBY.out.size))) HA3'.out HSM.out (by decide)).mono ?_
                    rintro e y1 ⟨v1, rfl, hov1, hyb1⟩
                    obtain ⟨va1, vc1, rfl, _⟩ := hov1.form
                    have HX1' := Lib.hid (HX3'.out.older hyb1)
                    have HA1' := Lib.hid (HA3'.out.below hyb1)
                    clear hov1 hyb1 x0 x1 x2 x3 x4 x5 x6
                    simp only [Rr1.out] 
                    have x0 := HX1'.out.box.cell (i := 0) rfl
                    have x1 := HX1'.out.box.cell (i := 1) rfl
                    have x2 := HX1'.out.box.cell (i := 2) rfl
                    have x3 := HX1'.out.box.cell (i := 3) rfl
                    have x4 := HX1'.out.box.cell (i := 4) rfl
                    have x5 := HX1'.out.box.cell (i := 5) rfl
                    have x6 := HX1'.out.box.cell (i := 6) rfl
                    go_wp2_with fail
                    refine (Hy.rule_any (timesH ps (timesS m (u0 : Int) sk (.slice (some ⟨g, 0, none⟩) 1 1) (.slice none 0 0) (.slice (some ⟨g + 1, 0, none⟩) 1 1)) (u1 : Int) ((u1 : Int) + (u2 : Int))) _ _ _ _ _ 1000 2 _ (HRY.out.below (HBY.out.trans ((HB1.out.trans (HX1'.out.bel.mono HB1.out.size)).mono HBY.out.size))) (HPW.out.below (HBY.out.trans ((HB1.out.trans (HX1'.out.bel.mono HB1.out.size)).mono HBY.out.size))) HA1'.out HSM.out (by decide)).mono ?_
                    rintro e y2 ⟨v2, rfl, hov2, hyb2⟩
                    obtain ⟨va2, vc2, rfl, _⟩ := hov2.form
                    have HX2' := Lib.hid (HX1'.out.older hyb2)
                    have HA2' := Lib.hid (HA1'.out.below hyb2)
                    clear hov2 hyb2 x0 x1 x2 x3 x4 x5 x6
                    simp only [Rr2.out] 
                    have x0 := HX2'.out.box.cell (i := 0) rfl
                    have x1 := HX2'.out.box.cell (i := 1) rfl
                    have x2 := HX2'.out.box.cell (i := 2) rfl
                    have x3 := HX2'.out.box.cell (i := 3) rfl
                    have x4 := HX2'.out.box.cell (i := 4) rfl
                    have x5 := HX2'.out.box.cell (i := 5) rfl
                    have x6 := HX2'.out.box.cell (i := 6) rfl
                    go_wp2_with fail
                    refine (Hy.rule_any (timesH ps (timesS m (u0 : Int) sk (.slice (some ⟨g, 0, none⟩) 1 1) (.slice none 0 0) (.slice (some ⟨g + 1, 0, none⟩) 1 1)) (u1 : Int) ((u1 : Int) + (u2 : Int))) _ _ _ _ _ 1000 4 _ (HRY.out.below (HBY.out.trans ((HB1.out.trans (HX2'.out.bel.mono HB1.out.size)).mono HBY.out.size))) (HPW.out.below (HBY.out.trans ((HB1.out.trans (HX2'.out.bel.mono HB1.out.size)).mono HBY.out.size))) HA2'.out HSM.out (by decide)).mono ?_
                    rintro e y4 ⟨v4, rfl, hov4, hyb4⟩
                    obtain ⟨va4, vc4, rfl, _⟩ := hov4.form
                    have HX4' := Lib.hid (HX2'.out.older hyb4)
                    have HA4' := Lib.hid (HA2'.out.below hyb4)
                    clear hov4 hyb4 x0 x1 x2 x3 x4 x5 x6
                    simp only [Rr4.out] 
                    go_wp2_with fail
                    go_ret
                    exact ⟨rfl, (HBY.out.trans ((HB1.out.trans (HX4'.out.bel.mono HB1.out.size)).mono HBY.out.size))⟩
                | true =>
                  cases tk with
                  | false =>
                    replace Rr3 := Lib.hid (Rr3.out.trans (by rfl : _ = 0))
                    replace Rr1 := Lib.hid (Rr1.out.trans (by rfl : _ = 0))
                    have x0 := HX3.out.box.cell (i := 0) rfl
                    have x1 := HX3.out.box.cell (i := 1) rfl
                    have x2 := HX3.out.box.cell (i := 2) rfl
                    have x3 := HX3.out.box.cell (i := 3) rfl
                    have x4 := HX3.out.box.cell (i := 4) rfl
                    have x5 := HX3.out.box.cell (i := 5) rfl
                    have x6 := HX3.out.box.cell (i := 6) rfl
                    go_wp2_with fail
                    refine (Hy.rule_any (timesH ps (timesS m (u0 : Int) sk (.slice (some ⟨g, 0, none⟩) 1 1) (.slice none 0 0) (.slice (some ⟨g + 1, 0, none⟩) 1 1)) (u1 : Int) ((u1 : Int) + (u2 : Int))) _ _ _ _ _ 1000 3 _ (HRY.out.below (HBY.out.trans ((HB1.out.trans (HX3.out.bel.mono HB1.out.size)).mono HBY.out.size))) (HPW.out.below (HBY.out.trans ((HB1.out.trans (HX3.out.bel.mono HB1.out.size)).mono HBY.out.size))) HA0.out HSM.out (by decide)).mono ?_
                    rintro e y3 ⟨v3, rfl, hov3, hyb3⟩
                    obtain ⟨va3, vc3, rfl, _⟩ := hov3.form
                    have HX3' := Lib.hid (HX3.out.older hyb3)
                    have HA3' := Lib.hid (HA0.out.below hyb3)
                    clear hov3 hyb3 x0 x1 x2 x3 x4 x5 x6
                    simp only [Rr3.out] 
                    have x0 := HX3'.out.box.cell (i := 0) rfl
                    have x1 := HX3'.out.box.cell (i := 1) rfl
                    have x2 := HX3'.out.box.cell (i := 2) rfl
                    have x3 := HX3'.out.box.cell (i := 3) rfl
                    have x4 := HX3'.out.box.cell (i := 4) rfl
                    have x5 := HX3'.out.box.cell (i := 5) rfl
                    have x6 := HX3'.out.box.cell (i := 6) rfl
                    go_wp2_with fail
                    refine (Hy.rule_any (timesH ps (timesS m (u0 : Int) sk (.slice (some ⟨g, 0, none⟩) 1 1) (.slice none 0 0) (.slice (some ⟨g + 1, 0, none⟩) 1 1)) (u1 : Int) ((u1 : Int) + (u2 : Int))) _ _ _ _ _ 1000 1 _ (HRY.out.below (HBY.out.trans ((HB1.out.trans (HX3'.out.bel.mono HB1.out.size)).mono HBY.out.size))) (HPW.out.below (HBY.out.trans ((HB1.out.trans (HX3'.out.bel.mono HB1.out.size)).mono HBY.out.size))) HA3'.out HSM.out (by decide)).mono ?_
                    rintro e y1 ⟨v1, rfl, hov1, hyb1⟩
                    obtain ⟨va1, vc1, rfl, _⟩ := hov1.form
                    have HX1' := Lib.hid (HX3'.out.older hyb1)
                    have HA1' := Lib.hid (HA3'.out.below hyb1)
                    clear hov1 hyb1 x0 x1 x2 x3 x4 x5 x6
                    simp only [Rr1.out] 
                    have x0 := HX1'.out.box.cell (i := 0) rfl
                    have x1 := HX1'.out.box.cell (i := 1) rfl
                    have x2 := HX1'.out.box.cell (i := 2) rfl
                    have x3 := HX1'.out.box.cell (i := 3) rfl
                    have x4 := HX1'.out.box.cell (i := 4) rfl
                    have x5 := HX1'.out.box.cell (i := 5) rfl
                    have x6 := HX1'.out.box.cell (i := 6) rfl
                    go_wp2_with fail
                    refine (Hy.rule_any (timesH ps (timesS m (u0 : Int) sk (.slice (some ⟨g, 0, none⟩) 1 1) (.slice none 0 0) (.slice (some ⟨g + 1, 0, none⟩) 1 1)) (u1 : Int) ((u1 : Int) + (u2 : Int))) _ _ _ _ _ 1000 2 _ (HRY.out.below (HBY.out.trans ((HB1.out.trans (HX1'.out.bel.mono HB1.out.size)).mono HBY.out.size))) (HPW.out.below (HBY.out.trans ((HB1.out.trans (HX1'.out.bel.mono HB1.out.size)).mono HBY.out.size))) HA1'.out HSM.out (by decide)).mono ?_
                    rintro e y2 ⟨v2, rfl, hov2, hyb2⟩
                    obtain ⟨va2, vc2, rfl, _⟩ := hov2.form
                    have HX2' := Lib.hid (HX1'.out.older hyb2)
                    have HA2' := Lib.hid (HA1'.out.below hyb2)
                    clear hov2 hyb2 x0 x1 x2 x3 x4 x5 x6
                    simp only [Rr2.out] 
                    have x0 := HX2'.out.box.cell (i := 0) rfl
                    have x1 := HX2'.out.box.cell (i := 1) rfl
                    have x2 := HX2'.out.box.cell (i := 2) rfl
                    have x3 := HX2'.out.box.cell (i := 3) rfl
                    have x4 := HX2'.out.box.cell (i := 4) rfl
                    have x5 := HX2'.out.box.cell (i := 5) rfl
                    have x6 := HX2'.out.box.cell (i := 6) rfl
                    go_wp2_with fail
                    refine (Hy.rule_any (timesH ps (timesS m (u0 : Int) sk (.slice (some ⟨g, 0, none⟩) 1 1) (.slice none 0 0) (.slice (some ⟨g + 1, 0, none⟩) 1 1)) (u1 : Int) ((u1 : Int) + (u2 : Int))) _ _ _ _ _ 1000 4 _ (HRY.out.below (HBY.out.trans ((HB1.out.trans (HX2'.out.bel.mono HB1.out.size)).mono HBY.out.size))) (HPW.out.below (HBY.out.trans ((HB1.out.trans (HX2'.out.bel.mono HB1.out.size)).mono HBY.out.size))) HA2'.out HSM.out (by decide)).mono ?_
                    rintro e y4 ⟨v4, rfl, hov4, hyb4⟩
                    obtain ⟨va4, vc4, rfl, _⟩ := hov4.form
                    have HX4' := Lib.hid (HX2'.out.older hyb4)
                    have HA4' := Lib.hid (HA2'.out.below hyb4)
                    clear hov4 hyb4 x0 x1 x2 x3 x4 x5 x6
                    simp only [Rr4.out] 
                    go_wp2_with fail
                    go_ret
                    exact ⟨rfl, (HBY.out.trans ((HB1.out.trans (HX4'.out.bel.mono HB1.out.size)).mono HBY.out.size))⟩
                  | true =>
                    replace Rr3 := Lib.hid (Rr3.out.trans (by rfl : _ = 0))
                    replace Rr1 := Lib.hid (Rr1.out.trans (by rfl : _ = 1))
                    have x0 := HX3.out.box.cell (i := 0) rfl
                    have x1 := HX3.out.box.cell (i := 1) rfl
                    have x2 := HX3.out.box.cell (i := 2) rfl
                    have x3 := HX3.out.box.cell (i := 3) rfl
                    have x4 := HX3.out.box.cell (i := 4) rfl
                    have x5 := HX3.out.box.cell (i := 5) rfl
                    have x6 := HX3.out.box.cell (i := 6) rfl
                    go_wp2_with fail
                    refine (Hy.rule_any (timesH ps (timesS m (u0 : Int) sk (.slice (some ⟨g, 0, none⟩) 1 1) (.slice none 0 0) (.slice (some ⟨g + 1, 0, none⟩) 1 1)) (u1 : Int) ((u1 : Int) + (u2 : Int))) _ _ _ _ _ 1000 3 _ (HRY.out.below (HBY.out.trans ((HB1.out.trans (HX3.out.bel.mono HB1.out.size)).mono HBY.out.size))) (HPW.out.below (HBY.out.trans ((HB1.out.trans (HX3.out.bel.mono HB1.out.size)).mono HBY.out.size))) HA0.out HSM.out (by decide)).mono ?_
                    rintro e y3 ⟨v3, rfl, hov3, hyb3⟩
                    obtain ⟨va3, vc3, rfl, _⟩ := hov3.form
                    have HX3' := Lib.hid (HX3.out.older hyb3)
                    have HA3' := Lib.hid (HA0.out.below hyb3)
                    clear hov3 hyb3 x0 x1 x2 x3 x4 x5 x6
                    simp only [Rr3.out] 
                    have x0 := HX3'.out.box.cell (i := 0) rfl
                    have x1 := HX3'.out.box.cell (i := 1) rfl
                    have x2 := HX3'.out.box.cell (i := 2) rfl
                    have x3 := HX3'.out.box.cell (i := 3) rfl
                    have x4 := HX3'.out.box.cell (i := 4) rfl
                    have x5 := HX3'.out.box.cell (i := 5) rfl
                    have x6 := HX3'.out.box.cell (i := 6) rfl
                    go_wp2_with fail
                    refine (Hy.rule_any (timesH ps (timesS m (u0 : Int) sk (.slice (some ⟨g, 0, none⟩) 1 1) (.slice none 0 0) (.slice (some ⟨g + 1, 0, none⟩) 1 1)) (u1 : Int) ((u1 : Int) + (u2 : Int))) _ _ _ _ _ 1000 1 _ (HRY.out.below (HBY.out.trans ((HB1.out.trans (HX3'.out.bel.mono HB1.out.size)).mono HBY.out.size))) (HPW.out.below (HBY.out.trans ((HB1.out.trans (HX3'.out.bel.mono HB1.out.size)).mono HBY.out.size))) HA3'.out HSM.out (by decide)).mono ?_
                    rintro e y1 ⟨v1, rfl, hov1, hyb1⟩
                    obtain ⟨va1, vc1, rfl, _⟩ := hov1.form
                    have HX1' := Lib.hid (HX3'.out.older hyb1)
                    have HA1' := Lib.hid (HA3'.out.below hyb1)
                    clear hov1 hyb1 x0 x1 x2 x3 x4 x5 x6
                    simp only [Rr1.out] 
                    have x0 := HX1'.out.box.cell (i := 0) rfl
                    have x1 := HX1'.out.box.cell (i := 1) rfl
                    have x2 := HX1'.out.box.cell (i := 2) rfl
                    have x3 := HX1'.out.box.cell (i := 3) rfl
                    have x4 := HX1'.out.box.cell (i := 4) rfl
                    have x5 := HX1'.out.box.cell (i := 5) rfl
                    have x6 := HX1'.out.box.cell (i := 6) rfl
                    go_wp2_with fail
                    refine (Hy.rule_any (timesH ps (timesS m (u0 : Int) sk (.slice (some ⟨g, 0, none⟩) 1 1) (.slice none 0 0) (.slice (some ⟨g + 1, 0, none⟩) 1 1)) (u1 : Int) ((u1 : Int) + (u2 : Int))) _ _ _ _ _ 1000 2 _ (HRY.out.below (HBY.out.trans ((HB1.out.trans (HX1'.out.bel.mono HB1.out.size)).mono HBY.out.size))) (HPW.out.below (HBY.out.trans ((HB1.out.trans (HX1'.out.bel.mono HB1.out.size)).mono HBY.out.size))) HA1'.out HSM.out (by decide)).mono ?_
                    rintro e y2 ⟨v2, rfl, hov2, hyb2⟩
                    obtain ⟨va2, vc2, rfl, _⟩ := hov2.form
                    have HX2' := Lib.hid (HX1'.out.older hyb2)
                    have HA2' := Lib.hid (HA1'.out.below hyb2)
                    clear hov2 hyb2 x0 x1 x2 x3 x4 x5 x6
                    simp only [Rr2.out] 
                    have x0 := HX2'.out.box.cell (i := 0) rfl
                    have x1 := HX2'.out.box.cell (i := 1) rfl
                    have x2 := HX2'.out.box.cell (i := 2) rfl
                    have x3 := HX2'.out.box.cell (i := 3) rfl
                    have x4 := HX2'.out.box.cell (i := 4) rfl
                    have x5 := HX2'.out.box.cell (i := 5) rfl
                    have x6 := HX2'.out.box.cell (i := 6) rfl
                    go_wp2_with fail
                    refine (Hy.rule_any (timesH ps (timesS m (u0 : Int) sk (.slice (some ⟨g, 0, none⟩) 1 1) (.slice none 0 0) (.slice (some ⟨g + 1, 0, none⟩) 1 1)) (u1 : Int) ((u1 : Int) + (u2 : Int))) _ _ _ _ _ 1000 4 _ (HRY.out.below (HBY.out.trans ((HB1.out.trans (HX2'.out.bel.mono HB1.out.size)).mono HBY.out.size))) (HPW.out.below (HBY.out.trans ((HB1.out.trans (HX2'.out.bel.mono HB1.out.size)).mono HBY.out.size))) HA2'.out HSM.out (by decide)).mono ?_
                    rintro e y4 ⟨v4, rfl, hov4, hyb4⟩
                    obtain ⟨va4, vc4, rfl, _⟩ := hov4.form
                    have HX4' := Lib.hid (HX2'.out.older hyb4)
                    have HA4' := Lib.hid (HA2'.out.below hyb4)
                    clear hov4 hyb4 x0 x1 x2 x3 x4 x5 x6
                    simp only [Rr4.out] 
                    go_wp2_with fail
                    go_ret
                    exact ⟨rfl, (HBY.out.trans ((HB1.out.trans (HX4'.out.bel.mono HB1.out.size)).mono HBY.out.size))⟩
          · have hmi1 : ¬ (m : Int) + 1 < (acts.length : Int) := by omega
            obtain ⟨te, hte⟩ : ∃ z : Int, 1099511627776 = z := ⟨_, rfl⟩
            have HTE := Lib.hid (show endT (fun i => timesT f (i + 1)) acts.length m = te by unfold endT; rw [if_neg hm1]; exact hte)
            have te1 : 0 ≤ te ∧ te ≤ 1099511627776 := by omega
            have HT40 := Lib.hid hte
            clear hte
            go_upto_region 15 with fail
            rw [HT40.out]
            have HNR := Lib.hid (HNX.out.older ((HB1.out.trans (HW.out.bel.mono HB1.out.size))))
            have i0 := HNR.out.cell (i := 0) rfl
            have v0 : IntKind.i64.wrap (n0 : Int) = (n0 : Int) := IntWalk.i64_in _ (by omega)
            obtain ⟨u0, hu0⟩ : ∃ z, n0 % 2000 = z := ⟨_, rfl⟩
            have hul0 : u0 < 2000 := by omega
            have um0 : (n0 : Int) % 2000 = (u0 : Int) := by omega
            have ut0 : Int.tmod (n0 : Int) 2000 = (u0 : Int) := by rw [Int.tmod_eq_emod_of_nonneg (by omega)]; exact um0
            clear hu0
            have i1 := HNR.out.cell (i := 1) rfl
            have v1 : IntKind.i64.wrap (n1 : Int) = (n1 : Int) := IntWalk.i64_in _ (by omega)
            obtain ⟨u1, hu1⟩ : ∃ z, n1 % 2000 = z := ⟨_, rfl⟩
            have hul1 : u1 < 2000 := by omega
            have um1 : (n1 : Int) % 2000 = (u1 : Int) := by omega
            have ut1 : Int.tmod (n1 : Int) 2000 = (u1 : Int) := by rw [Int.tmod_eq_emod_of_nonneg (by omega)]; exact um1
            clear hu1
            have i2 := HNR.out.cell (i := 2) rfl
            have v2 : IntKind.i64.wrap (n2 : Int) = (n2 : Int) := IntWalk.i64_in _ (by omega)
            obtain ⟨u2, hu2⟩ : ∃ z, n2 % 100 = z := ⟨_, rfl⟩
            have hul2 : u2 < 100 := by omega
            have um2 : (n2 : Int) % 100 = (u2 : Int) := by omega
            have ut2 : Int.tmod (n2 : Int) 100 = (u2 : Int) := by rw [Int.tmod_eq_emod_of_nonneg (by omega)]; exact um2
            clear hu2
            have i3 := HNR.out.cell (i := 3) rfl
            have v3 : IntKind.i64.wrap (n3 : Int) = (n3 : Int) := IntWalk.i64_in _ (by omega)
            obtain ⟨u3, hu3⟩ : ∃ z, n3 % 50 = z := ⟨_, rfl⟩
            have hul3 : u3 < 50 := by omega
            have um3 : (n3 : Int) % 50 = (u3 : Int) := by omega
            have ut3 : Int.tmod (n3 : Int) 50 = (u3 : Int) := by rw [Int.tmod_eq_emod_of_nonneg (by omega)]; exact um3
            clear hu3
            have s1 : IntKind.i64.wrap ((u1 : Int) + (u2 : Int)) = (u1 : Int) + (u2 : Int) := IntWalk.i64_in _ (by omega)
            have s2 : IntKind.i64.wrap ((u0 : Int) - (u3 : Int)) = (u0 : Int) - (u3 : Int) := IntWalk.i64_in _ (by omega)
            obtain ⟨sk, hsk⟩ : ∃ z, max (0 : Int) ((u0 : Int) - (u3 : Int)) = z := ⟨_, rfl⟩
            have hsk1 : 0 ≤ sk ∧ sk ≤ (u0 : Int) := by omega
            refine wp_region_held_drew (S := (fun w' => w'.cell? ⟨bX, 0, none⟩ = some (.int .u16 (n0 : Int)) ∧ w'.cell? ⟨bX, 1, none⟩ = some (.int .u16 (n1 : Int)))) (by kernel_rfl) (by exact ⟨i0, i1⟩) (fun hHeld => ?_)
            refine Hd.tk 0 ?_
            try simp only [Act.put, List.setIfInBounds_toArray, List.set_cons_zero, List.set_cons_succ]
            refine Hd.tk 1 ?_
            try simp only [Act.put, List.setIfInBounds_toArray, List.set_cons_zero, List.set_cons_succ]
            refine Hd.tk 2 ?_
            try simp only [Act.put, List.setIfInBounds_toArray, List.set_cons_zero, List.set_cons_succ]
            refine Hd.tk 3 ?_
            try simp only [Act.put, List.setIfInBounds_toArray, List.set_cons_zero, List.set_cons_succ]
            refine Hd.tk 4 ?_
            try simp only [Act.put, List.setIfInBounds_toArray, List.set_cons_zero, List.set_cons_succ]
            refine Hd.tk 5 ?_
            try simp only [Act.put, List.setIfInBounds_toArray, List.set_cons_zero, List.set_cons_succ]
            refine Hd.tk 6 ?_
            try simp only [Act.put, List.setIfInBounds_toArray, List.set_cons_zero, List.set_cons_succ]
            refine Hd.tk 7 ?_
            try simp only [Act.put, List.setIfInBounds_toArray, List.set_cons_zero, List.set_cons_succ]
            refine Hd.tk 8 ?_
            try simp only [Act.put, List.setIfInBounds_toArray, List.set_cons_zero, List.set_cons_succ]
            refine Hd.tk 9 ?_
            try simp only [Act.put, List.setIfInBounds_toArray, List.set_cons_zero, List.set_cons_succ]
            refine wpAnyH_done (by kernel_rfl) ?_ _
            go_upto_region 18 with fail
            have HDM : Hid (∀ w, Calls Tryz.prog 36 #[.int .i64 (m : Int)] w fun e w' => e = .returned (.string ⟨(Lib.decDigits m).toArray⟩) ∧ Below w.heap.size w w') := Lib.hid (fun w => digits_nat (m + 1) m (by omega) (by omega) w)
            have y4m : IntKind.u8.wrap (m : Int) = (m : Int) := by rw [IntKind.wrap_u8]; omega
            have HWD := Lib.hid (HW.out.older (Below.refl _ _).drew)
            have HNR2 := Lib.hid (HNR.out.older (Below.refl _ _).drew)
            obtain ⟨wd, hwd⟩ : ∃ z, wr.drew = z := ⟨_, rfl⟩
            rw [hwd] at HWD HNR2 ⊢
            clear hwd c0 t0
            clear i0 i1 i2 i3 v0 v1 v2 v3 um0 um1 um2 um3 ut0 ut1 ut2 ut3 s1 s2 mt mi
            go_upto_region 19 with (go_at_call 36; refine (HDM.out _).mono ?_; rintro e wq ⟨rfl, hbq⟩; have HWQ := Lib.hid (HWD.out.older hbq); have q2 : (((wq.alloc (.cells #[.int .u8 (m : Int)] 5)).alloc (.cells #[.int .i64 (u0 : Int), .int .i64 0, .slice (some ⟨wq.heap.size, 0, none⟩) 1 1] 88)).alloc (.cells #[.string ⟨#[]⟩, .string ⟨#[97, 46, 101, 120, 97, 109, 112, 108, 101, 47, 120]⟩, .string ⟨(Lib.decDigits m).toArray⟩, .int .i64 0, .int .i64 sk, .int .i64 (u0 : Int), .int .i64 0, .int .i64 1, .slice none 0 0, .slice (some ⟨wq.heap.size + 1, 0, none⟩) 1 1, .bool true] 82)).cell? ⟨b0, 2, none⟩ = some (.slice none 0 0) := (((HWQ.out.tox.al (.cells #[.int .u8 (m : Int)] 5)).al (.cells #[.int .i64 (u0 : Int), .int .i64 0, .slice (some ⟨wq.heap.size, 0, none⟩) 1 1] 88)).al (.cells #[.string ⟨#[]⟩, .string ⟨#[97, 46, 101, 120, 97, 109, 112, 108, 101, 47, 120]⟩, .string ⟨(Lib.decDigits m).toArray⟩, .int .i64 0, .int .i64 sk, .int .i64 (u0 : Int), .int .i64 0, .int .i64 1, .slice none 0 0, .slice (some ⟨wq.heap.size + 1, 0, none⟩) 1 1, .bool true] 82)).box.cell (i := 2) rfl; have g2 : (((wq.alloc (.cells #[.int .u8 (m : Int)] 5)).alloc (.cells #[.int .i64 (u0 : Int), .int .i64 0, .slice (some ⟨wq.heap.size, 0, none⟩) 1 1] 88)).alloc (.cells #[.string ⟨#[]⟩, .string ⟨#[97, 46, 101, 120, 97, 109, 112, 108, 101, 47, 120]⟩, .string ⟨(Lib.decDigits m).toArray⟩, .int .i64 0, .int .i64 sk, .int .i64 (u0 : Int), .int .i64 0, .int .i64 1, .slice none 0 0, .slice (some ⟨wq.heap.size + 1, 0, none⟩) 1 1, .bool true] 82)).frozen? ⟨b0, 2, none⟩ = false := (((HWQ.out.tox.al (.cells #[.int .u8 (m : Int)] 5)).al (.cells #[.int .i64 (u0 : Int), .int .i64 0, .slice (some ⟨wq.heap.size, 0, none⟩) 1 1] 88)).al (.cells #[.string ⟨#[]⟩, .string ⟨#[97, 46, 101, 120, 97, 109, 112, 108, 101, 47, 120]⟩, .string ⟨(Lib.decDigits m).toArray⟩, .int .i64 0, .int .i64 sk, .int .i64 (u0 : Int), .int .i64 0, .int .i64 1, .slice none 0 0, .slice (some ⟨wq.heap.size + 1, 0, none⟩) 1 1, .bool true] 82)).box.frz 2; clear hbq)
            have hz0 : ∀ (o o' : Obj), ((wq.alloc o).alloc o').heap.size = wq.heap.size + 1 + 1 := fun o o' => by simp
            have hz1 : ∀ (o : Obj), (wq.alloc o).heap.size = wq.heap.size + 1 := fun o => by simp
            have HX1 : Hid (TimesX w1 ((((wq.alloc (.cells #[.int .u8 (m : Int)] 5)).alloc (.cells #[.int .i64 (u0 : Int), .int .i64 0, .slice (some ⟨wq.heap.size, 0, none⟩) 1 1] 88)).alloc (.cells #[.string ⟨#[]⟩, .string ⟨#[97, 46, 101, 120, 97, 109, 112, 108, 101, 47, 120]⟩, .string ⟨(Lib.decDigits m).toArray⟩, .int .i64 0, .int .i64 sk, .int .i64 (u0 : Int), .int .i64 0, .int .i64 1, .slice none 0 0, .slice (some ⟨wq.heap.size + 1, 0, none⟩) 1 1, .bool true] 82)).setCell ⟨b0, 2, none⟩ (.slice (some ⟨wq.heap.size + 1 + 1, 0, none⟩) 1 1)) b0 (.slice (some ⟨b4, o4, none⟩) ps.length pc) ps #[.slice (some ⟨b4, o4, none⟩) ps.length pc, .slice none 0 0, .slice (some ⟨wq.heap.size + 1 + 1, 0, none⟩) 1 1, .slice none 0 0, .slice none 0 0, .int .i64 0, .int .i64 0]) := Lib.hid ((((HWQ.out.tox.al (.cells #[.int .u8 (m : Int)] 5)).al (.cells #[.int .i64 (u0 : Int), .int .i64 0, .slice (some ⟨wq.heap.size, 0, none⟩) 1 1] 88)).al (.cells #[.string ⟨#[]⟩, .string ⟨#[97, 46, 101, 120, 97, 109, 112, 108, 101, 47, 120]⟩, .string ⟨(Lib.decDigits m).toArray⟩, .int .i64 0, .int .i64 sk, .int .i64 (u0 : Int), .int .i64 0, .int .i64 1, .slice none 0 0, .slice (some ⟨wq.heap.size + 1, 0, none⟩) 1 1, .bool true] 82)).set 2 (.slice (some ⟨wq.heap.size + 1 + 1, 0, none⟩) 1 1))
            have HK1 := Lib.hid ((((HWQ.out.tox.al (.cells #[.int .u8 (m : Int)] 5)).al (.cells #[.int .i64 (u0 : Int), .int .i64 0, .slice (some ⟨wq.heap.size, 0, none⟩) 1 1] 88)).al (.cells #[.string ⟨#[]⟩, .string ⟨#[97, 46, 101, 120, 97, 109, 112, 108, 101, 47, 120]⟩, .string ⟨(Lib.decDigits m).toArray⟩, .int .i64 0, .int .i64 sk, .int .i64 (u0 : Int), .int .i64 0, .int .i64 1, .slice none 0 0, .slice (some ⟨wq.heap.size + 1, 0, none⟩) 1 1, .bool true] 82)).setB (i := 2) (v := (.slice (some ⟨wq.heap.size + 1 + 1, 0, none⟩) 1 1)) (bx_allocH (bx_allocH (Bx.new wq 5 #[.int .u8 (m : Int)]) (.cells #[.int .i64 (u0 : Int), .int .i64 0, .slice (some ⟨wq.heap.size, 0, none⟩) 1 1] 88)) (.cells #[.string ⟨#[]⟩, .string ⟨#[97, 46, 101, 120, 97, 109, 112, 108, 101, 47, 120]⟩, .string ⟨(Lib.decDigits m).toArray⟩, .int .i64 0, .int .i64 sk, .int .i64 (u0 : Int), .int .i64 0, .int .i64 1, .slice none 0 0, .slice (some ⟨wq.heap.size + 1, 0, none⟩) 1 1, .bool true] 82)) (by decide))
            have HK2 := Lib.hid ((((HWQ.out.tox.al (.cells #[.int .u8 (m : Int)] 5)).al (.cells #[.int .i64 (u0 : Int), .int .i64 0, .slice (some ⟨wq.heap.size, 0, none⟩) 1 1] 88)).al (.cells #[.string ⟨#[]⟩, .string ⟨#[97, 46, 101, 120, 97, 109, 112, 108, 101, 47, 120]⟩, .string ⟨(Lib.decDigits m).toArray⟩, .int .i64 0, .int .i64 sk, .int .i64 (u0 : Int), .int .i64 0, .int .i64 1, .slice none 0 0, .slice (some ⟨wq.heap.size + 1, 0, none⟩) 1 1, .bool true] 82)).setB (i := 2) (v := (.slice (some ⟨wq.heap.size + 1 + 1, 0, none⟩) 1 1)) (bx_allocH (bx_newH (T := 88) (cs := #[.int .i64 (u0 : Int), .int .i64 0, .slice (some ⟨wq.heap.size, 0, none⟩) 1 1]) (hz1 (.cells #[.int .u8 (m : Int)] 5))) (.cells #[.string ⟨#[]⟩, .string ⟨#[97, 46, 101, 120, 97, 109, 112, 108, 101, 47, 120]⟩, .string ⟨(Lib.decDigits m).toArray⟩, .int .i64 0, .int .i64 sk, .int .i64 (u0 : Int), .int .i64 0, .int .i64 1, .slice none 0 0, .slice (some ⟨wq.heap.size + 1, 0, none⟩) 1 1, .bool true] 82)) (by decide))
            have HK3 := Lib.hid ((((HWQ.out.tox.al (.cells #[.int .u8 (m : Int)] 5)).al (.cells #[.int .i64 (u0 : Int), .int .i64 0, .slice (some ⟨wq.heap.size, 0, none⟩) 1 1] 88)).al (.cells #[.string ⟨#[]⟩, .string ⟨#[97, 46, 101, 120, 97, 109, 112, 108, 101, 47, 120]⟩, .string ⟨(Lib.decDigits m).toArray⟩, .int .i64 0, .int .i64 sk, .int .i64 (u0 : Int), .int .i64 0, .int .i64 1, .slice none 0 0, .slice (some ⟨wq.heap.size + 1, 0, none⟩) 1 1, .bool true] 82)).setB (i := 2) (v := (.slice (some ⟨wq.heap.size + 1 + 1, 0, none⟩) 1 1)) (bx_newH (T := 82) (cs := #[.string ⟨#[]⟩, .string ⟨#[97, 46, 101, 120, 97, 109, 112, 108, 101, 47, 120]⟩, .string ⟨(Lib.decDigits m).toArray⟩, .int .i64 0, .int .i64 sk, .int .i64 (u0 : Int), .int .i64 0, .int .i64 1, .slice none 0 0, .slice (some ⟨wq.heap.size + 1, 0, none⟩) 1 1, .bool true]) (hz0 (.cells #[.int .u8 (m : Int)] 5) (.cells #[.int .i64 (u0 : Int), .int .i64 0, .slice (some ⟨wq.heap.size, 0, none⟩) 1 1] 88))) (by decide))
            obtain ⟨w5, hw5⟩ : ∃ z, (((wq.alloc (.cells #[.int .u8 (m : Int)] 5)).alloc (.cells #[.int .i64 (u0 : Int), .int .i64 0, .slice (some ⟨wq.heap.size, 0, none⟩) 1 1] 88)).alloc (.cells #[.string ⟨#[]⟩, .string ⟨#[97, 46, 101, 120, 97, 109, 112, 108, 101, 47, 120]⟩, .string ⟨(Lib.decDigits m).toArray⟩, .int .i64 0, .int .i64 sk, .int .i64 (u0 : Int), .int .i64 0, .int .i64 1, .slice none 0 0, .slice (some ⟨wq.heap.size + 1, 0, none⟩) 1 1, .bool true] 82)).setCell ⟨b0, 2, none⟩ (.slice (some ⟨wq.heap.size + 1 + 1, 0, none⟩) 1 1) = z := ⟨_, rfl⟩
            rw [hw5] at HX1 HK1 HK2 HK3 ⊢
            obtain ⟨g, hg⟩ : ∃ z, wq.heap.size = z := ⟨_, rfl⟩
            rw [hg] at HX1 HK1 HK2 HK3 ⊢
            clear hw5 hg hz0 hz1 q2 g2 HWQ HDM HWD HW
            have e1 := HX1.out.box.cell (i := 1) rfl
            have e5 := HX1.out.box.cell (i := 5) rfl
            have g1 := HX1.out.box.frz 1
            have g5 := HX1.out.box.frz 5
            have hz5 := HX1.out.box.lt
            go_upto_region 20 with fail
            have HX2 : Hid (TimesX w1 ((w5.setCell ⟨b0, 1, none⟩ (.slice (some ⟨w5.heap.size, 0, none⟩) 1 1)).alloc (.cells #[.string ⟨#[112, 114, 101, 102, 105, 120, 32, 48, 32, 97, 46, 101, 120, 97, 109, 112, 108, 101, 47]⟩, .int .i64 (u1 : Int), .int .i64 ((u1 : Int) + (u2 : Int))] 97)) b0 (.slice (some ⟨b4, o4, none⟩) ps.length pc) ps #[.slice (some ⟨b4, o4, none⟩) ps.length pc, .slice (some ⟨w5.heap.size, 0, none⟩) 1 1, .slice (some ⟨g + 1 + 1, 0, none⟩) 1 1, .slice none 0 0, .slice none 0 0, .int .i64 0, .int .i64 0]) := Lib.hid ((HX1.out.set 1 (.slice (some ⟨w5.heap.size, 0, none⟩) 1 1)).al (.cells #[.string ⟨#[112, 114, 101, 102, 105, 120, 32, 48, 32, 97, 46, 101, 120, 97, 109, 112, 108, 101, 47]⟩, .int .i64 (u1 : Int), .int .i64 ((u1 : Int) + (u2 : Int))] 97))
            have HL1 := Lib.hid (bx_allocH (HX1.out.setB (i := 1) (v := (.slice (some ⟨w5.heap.size, 0, none⟩) 1 1)) HK1.out (by decide)) (.cells #[.string ⟨#[112, 114, 101, 102, 105, 120, 32, 48, 32, 97, 46, 101, 120, 97, 109, 112, 108, 101, 47]⟩, .int .i64 (u1 : Int), .int .i64 ((u1 : Int) + (u2 : Int))] 97))
            have HL2 := Lib.hid (bx_allocH (HX1.out.setB (i := 1) (v := (.slice (some ⟨w5.heap.size, 0, none⟩) 1 1)) HK2.out (by decide)) (.cells #[.string ⟨#[112, 114, 101, 102, 105, 120, 32, 48, 32, 97, 46, 101, 120, 97, 109, 112, 108, 101, 47]⟩, .int .i64 (u1 : Int), .int .i64 ((u1 : Int) + (u2 : Int))] 97))
            have HL3 := Lib.hid (bx_allocH (HX1.out.setB (i := 1) (v := (.slice (some ⟨w5.heap.size, 0, none⟩) 1 1)) HK3.out (by decide)) (.cells #[.string ⟨#[112, 114, 101, 102, 105, 120, 32, 48, 32, 97, 46, 101, 120, 97, 109, 112, 108, 101, 47]⟩, .int .i64 (u1 : Int), .int .i64 ((u1 : Int) + (u2 : Int))] 97))
            have HL4 := Lib.hid (bx_newH (w := w5.setCell ⟨b0, 1, none⟩ (.slice (some ⟨w5.heap.size, 0, none⟩) 1 1)) (n := w5.heap.size) (T := 97) (cs := #[.string ⟨#[112, 114, 101, 102, 105, 120, 32, 48, 32, 97, 46, 101, 120, 97, 109, 112, 108, 101, 47]⟩, .int .i64 (u1 : Int), .int .i64 ((u1 : Int) + (u2 : Int))]) (by simp))
            obtain ⟨w6, hw6⟩ : ∃ z, (w5.setCell ⟨b0, 1, none⟩ (.slice (some ⟨w5.heap.size, 0, none⟩) 1 1)).alloc (.cells #[.string ⟨#[112, 114, 101, 102, 105, 120, 32, 48, 32, 97, 46, 101, 120, 97, 109, 112, 108, 101, 47]⟩, .int .i64 (u1 : Int), .int .i64 ((u1 : Int) + (u2 : Int))] 97) = z := ⟨_, rfl⟩
            rw [hw6] at HX2 HL1 HL2 HL3 HL4 ⊢
            obtain ⟨gr, hgr⟩ : ∃ z, w5.heap.size = z := ⟨_, rfl⟩
            rw [hgr] at HX2 HL4 ⊢
            clear hw6 hgr e1 e5 g1 g5 hz5 HX1 HK1 HK2 HK3
            have e5 := HX2.out.box.cell (i := 5) rfl
            have g5 := HX2.out.box.frz 5
            have hz5 := HX2.out.box.lt
            go_upto_region 21 with fail
            have HX3 : Hid (TimesX w1 (w6.setCell ⟨b0, 5, none⟩ (.int .i64 100)) b0 (.slice (some ⟨b4, o4, none⟩) ps.length pc) ps #[.slice (some ⟨b4, o4, none⟩) ps.length pc, .slice (some ⟨gr, 0, none⟩) 1 1, .slice (some ⟨g + 1 + 1, 0, none⟩) 1 1, .slice none 0 0, .slice none 0 0, .int .i64 100, .int .i64 0]) := Lib.hid (HX2.out.set 5 (.int .i64 100))
            have HM1 := Lib.hid (HX2.out.setB (i := 5) (v := .int .i64 100) HL1.out (by decide))
            have HM2 := Lib.hid (HX2.out.setB (i := 5) (v := .int .i64 100) HL2.out (by decide))
            have HM3 := Lib.hid (HX2.out.setB (i := 5) (v := .int .i64 100) HL3.out (by decide))
            have HM4 := Lib.hid (HX2.out.setB (i := 5) (v := .int .i64 100) HL4.out (by decide))
            obtain ⟨w7, hw7⟩ : ∃ z, w6.setCell ⟨b0, 5, none⟩ (.int .i64 100) = z := ⟨_, rfl⟩
            rw [hw7] at HX3 HM1 HM2 HM3 HM4 ⊢
            clear hw7 e5 g5 hz5 HX2 HL1 HL2 HL3 HL4
            have HTA := Lib.hid (times_at HX3.out HPL.out HTL.out (by omega) HM1.out HM2.out HM3.out HM4.out)
            have HSM := Lib.hid (times_small (m := m) (u0 := (u0 : Int)) (sk := sk) (ord := (u1 : Int)) (stl := (u1 : Int) + (u2 : Int)) (dv := .slice (some ⟨g, 0, none⟩) 1 1) (tv := .slice none 0 0) (pv := .slice (some ⟨g + 1, 0, none⟩) 1 1) HF5.out HPL.out HTL.out ⟨ml1, ml2⟩ (by omega) (by omega) (by omega) (by omega))
            have HRL := Lib.hid (times_rules (tm := tm) (te := te) (u0 := (u0 : Int)) (sk := sk) (ord := (u1 : Int)) (stl := (u1 : Int) + (u2 : Int)) (dv := .slice (some ⟨g, 0, none⟩) 1 1) (tv := .slice none 0 0) (pv := .slice (some ⟨g + 1, 0, none⟩) 1 1) HTL.out hmp ⟨ml1, ml2⟩ (by omega) hsk1.2 (by omega) (by omega) HTM.out (by rw [HPK.out]; exact HTE.out))
            have hw1 : IntKind.i64.wrap (te - 1) = te - 1 := IntWalk.i64_in _ (by omega)
            have hw2 : IntKind.i64.wrap (sk - (te - 1)) = sk - (te - 1) := IntWalk.i64_in _ (by omega)
            obtain ⟨fr, hfr⟩ : ∃ z, (decide (tm ≤ (u0 : Int)) && (decide ((u0 : Int) < te) || decide (sk - (te - 1) ≤ lim))) = z := ⟨_, rfl⟩
            obtain ⟨tk, htk⟩ : ∃ z, (decide ((u1 : Int) + (u2 : Int) < (u0 : Int)) && decide (te ≤ (u1 : Int))) = z := ⟨_, rfl⟩
            have HFR := Lib.hid hfr
            have HTK2 := Lib.hid htk
            rw [hfr, htk] at HRL
            clear hfr htk HM1 HM2 HM3 HM4 HTL HTM HTE
            go_cut [20] (fun s20 wx => s20 = .bool fr ∧ w7 = wx)
            case first =>
              have q1 : tm ≤ (u0 : Int) ∨ ¬ tm ≤ (u0 : Int) := Decidable.em _
              rcases q1 with q1 | q1
              · rcases (Decidable.em ((u0 : Int) < te)) with q2 | q2
                · have HF : Hid (fr = true) := Lib.hid (by rw [← HFR.out]; simp [q1, q2])
                  go_wp2_with fail
                  go_meet
                  exact ⟨by rw [HF.out], rfl⟩
                · rcases (Decidable.em (sk - (te - 1) ≤ lim)) with q3 | q3
                  · have HF : Hid (fr = true) := Lib.hid (by rw [← HFR.out]; simp [q1, q2, q3])
                    go_wp2_with fail
                    go_meet
                    exact ⟨by rw [HF.out], rfl⟩
                  · have HF : Hid (fr = false) := Lib.hid (by rw [← HFR.out]; simp [q1, q2, q3])
                    go_wp2_with fail
                    go_meet
                    exact ⟨by rw [HF.out], rfl⟩
              · have HF : Hid (fr = false) := Lib.hid (by rw [← HFR.out]; simp [q1])
                go_wp2_with fail
                go_meet
                exact ⟨by rw [HF.out], rfl⟩
            case rest =>
              obtain ⟨rfl, rfl⟩ := hcut
              go_upto_region 22 with fail
              go_cut [21] (fun s21 wx => s21 = .bool tk ∧ w7 = wx)
              case first =>
                rcases (Decidable.em ((u1 : Int) + (u2 : Int) < (u0 : Int))) with q1 | q1
                · rcases (Decidable.em (te ≤ (u1 : Int))) with q2 | q2
                  · have HF : Hid (tk = true) := Lib.hid (by rw [← HTK2.out]; simp [q1, q2])
                    go_wp2_with fail
                    go_meet
                    exact ⟨by rw [HF.out], rfl⟩
                  · have HF : Hid (tk = false) := Lib.hid (by rw [← HTK2.out]; simp [q1, q2])
                    go_wp2_with fail
                    go_meet
                    exact ⟨by rw [HF.out], rfl⟩
                · have HF : Hid (tk = false) := Lib.hid (by rw [← HTK2.out]; simp [q1])
                  go_wp2_with fail
                  go_meet
                  exact ⟨by rw [HF.out], rfl⟩
              case rest =>
                obtain ⟨rfl, rfl⟩ := hcut
                obtain ⟨r3, r1, r2, r4⟩ := HRL.out
                have HA0 := Lib.hid HTA.out
                clear HRL
                have Rr3 := Lib.hid r3
                have Rr1 := Lib.hid r1
                have Rr2 := Lib.hid r2
                have Rr4 := Lib.hid r4
                clear r1 r2 r3 r4 HFR HTK2
                cases fr with
                | false =>
                  cases tk with
                  | false =>
                    replace Rr3 := Lib.hid (Rr3.out.trans (by rfl : _ = 1))
                    replace Rr1 := Lib.hid (Rr1.out.trans (by rfl : _ = 0))
                    have x0 := HX3.out.box.cell (i := 0) rfl
                    have x1 := HX3.out.box.cell (i := 1) rfl
                    have x2 := HX3.out.box.cell (i := 2) rfl
                    have x3 := HX3.out.box.cell (i := 3) rfl
                    have x4 := HX3.out.box.cell (i := 4) rfl
                    have x5 := HX3.out.box.cell (i := 5) rfl
                    have x6 := HX3.out.box.cell (i := 6) rfl
                    go_wp2_with fail
                    refine (Hy.rule_any (timesH ps (timesS m (u0 : Int) sk (.slice (some ⟨g, 0, none⟩) 1 1) (.slice none 0 0) (.slice (some ⟨g + 1, 0, none⟩) 1 1)) (u1 : Int) ((u1 : Int) + (u2 : Int))) _ _ _ _ _ 1000 3 _ (HRY.out.below (HBY.out.trans ((HB1.out.trans (HX3.out.bel.mono HB1.out.size)).mono HBY.out.size))) (HPW.out.below (HBY.out.trans ((HB1.out.trans (HX3.out.bel.mono HB1.out.size)).mono HBY.out.size))) HA0.out HSM.out (by decide)).mono ?_
                    rintro e y3 ⟨v3, rfl, hov3, hyb3⟩
                    obtain ⟨va3, vc3, rfl, _⟩ := hov3.form
                    have HX3' := Lib.hid (HX3.out.older hyb3)
                    have HA3' := Lib.hid (HA0.out.below hyb3)
                    clear hov3 hyb3 x0 x1 x2 x3 x4 x5 x6
                    simp only [Rr3.out] 
                    have x0 := HX3'.out.box.cell (i := 0) rfl
                    have x1 := HX3'.out.box.cell (i := 1) rfl
                    have x2 := HX3'.out.box.cell (i := 2) rfl
                    have x3 := HX3'.out.box.cell (i := 3) rfl
                    have x4 := HX3'.out.box.cell (i := 4) rfl
                    have x5 := HX3'.out.box.cell (i := 5) rfl
                    have x6 := HX3'.out.box.cell (i := 6) rfl
                    go_wp2_with fail
                    refine (Hy.rule_any (timesH ps (timesS m (u0 : Int) sk (.slice (some ⟨g, 0, none⟩) 1 1) (.slice none 0 0) (.slice (some ⟨g + 1, 0, none⟩) 1 1)) (u1 : Int) ((u1 : Int) + (u2 : Int))) _ _ _ _ _ 1000 1 _ (HRY.out.below (HBY.out.trans ((HB1.out.trans (HX3'.out.bel.mono HB1.out.size)).mono HBY.out.size))) (HPW.out.below (HBY.out.trans ((HB1.out.trans (HX3'.out.bel.mono HB1.out.size)).mono HBY.out.size))) HA3'.out HSM.out (by decide)).mono ?_
                    rintro e y1 ⟨v1, rfl, hov1, hyb1⟩
                    obtain ⟨va1, vc1, rfl, _⟩ := hov1.form
                    have HX1' := Lib.hid (HX3'.out.older hyb1)
                    have HA1' := Lib.hid (HA3'.out.below hyb1)
                    clear hov1 hyb1 x0 x1 x2 x3 x4 x5 x6
                    simp only [Rr1.out] 
                    have x0 := HX1'.out.box.cell (i := 0) rfl
                    have x1 := HX1'.out.box.cell (i := 1) rfl
                    have x2 := HX1'.out.box.cell (i := 2) rfl
                    have x3 := HX1'.out.box.cell (i := 3) rfl
                    have x4 := HX1'.out.box.cell (i := 4) rfl
                    have x5 := HX1'.out.box.cell (i := 5) rfl
                    have x6 := HX1'.out.box.cell (i := 6) rfl
                    go_wp2_with fail
                    refine (Hy.rule_any (timesH ps (timesS m (u0 : Int) sk (.slice (some ⟨g, 0, none⟩) 1 1) (.slice none 0 0) (.slice (some ⟨g + 1, 0, none⟩) 1 1)) (u1 : Int) ((u1 : Int) + (u2 : Int))) _ _ _ _ _ 1000 2 _ (HRY.out.below (HBY.out.trans ((HB1.out.trans (HX1'.out.bel.mono HB1.out.size)).mono HBY.out.size))) (HPW.out.below (HBY.out.trans ((HB1.out.trans (HX1'.out.bel.mono HB1.out.size)).mono HBY.out.size))) HA1'.out HSM.out (by decide)).mono ?_
                    rintro e y2 ⟨v2, rfl, hov2, hyb2⟩
                    obtain ⟨va2, vc2, rfl, _⟩ := hov2.form
                    have HX2' := Lib.hid (HX1'.out.older hyb2)
                    have HA2' := Lib.hid (HA1'.out.below hyb2)
                    clear hov2 hyb2 x0 x1 x2 x3 x4 x5 x6
                    simp only [Rr2.out] 
                    have x0 := HX2'.out.box.cell (i := 0) rfl
                    have x1 := HX2'.out.box.cell (i := 1) rfl
                    have x2 := HX2'.out.box.cell (i := 2) rfl
                    have x3 := HX2'.out.box.cell (i := 3) rfl
                    have x4 := HX2'.out.box.cell (i := 4) rfl
                    have x5 := HX2'.out.box.cell (i := 5) rfl
                    have x6 := HX2'.out.box.cell (i := 6) rfl
                    go_wp2_with fail
                    refine (Hy.rule_any (timesH ps (timesS m (u0 : Int) sk (.slice (some ⟨g, 0, none⟩) 1 1) (.slice none 0 0) (.slice (some ⟨g + 1, 0, none⟩) 1 1)) (u1 : Int) ((u1 : Int) + (u2 : Int))) _ _ _ _ _ 1000 4 _ (HRY.out.below (HBY.out.trans ((HB1.out.trans (HX2'.out.bel.mono HB1.out.size)).mono HBY.out.size))) (HPW.out.below (HBY.out.trans ((HB1.out.trans (HX2'.out.bel.mono HB1.out.size)).mono HBY.out.size))) HA2'.out HSM.out (by decide)).mono ?_
                    rintro e y4 ⟨v4, rfl, hov4, hyb4⟩
                    obtain ⟨va4, vc4, rfl, _⟩ := hov4.form
                    have HX4' := Lib.hid (HX2'.out.older hyb4)
                    have HA4' := Lib.hid (HA2'.out.below hyb4)
                    clear hov4 hyb4 x0 x1 x2 x3 x4 x5 x6
                    simp only [Rr4.out] 
                    go_wp2_with fail
                    go_ret
                    exact ⟨rfl, (HBY.out.trans ((HB1.out.trans (HX4'.out.bel.mono HB1.out.size)).mono HBY.out.size))⟩
                  | true =>
                    replace Rr3 := Lib.hid (Rr3.out.trans (by rfl : _ = 1))
                    replace Rr1 := Lib.hid (Rr1.out.trans (by rfl : _ = 1))
                    have x0 := HX3.out.box.cell (i := 0) rfl
                    have x1 := HX3.out.box.cell (i := 1) rfl
                    have x2 := HX3.out.box.cell (i := 2) rfl
                    have x3 := HX3.out.box.cell (i := 3) rfl
                    have x4 := HX3.out.box.cell (i := 4) rfl
                    have x5 := HX3.out.box.cell (i := 5) rfl
                    have x6 := HX3.out.box.cell (i := 6) rfl
                    go_wp2_with fail
                    refine (Hy.rule_any (timesH ps (timesS m (u0 : Int) sk (.slice (some ⟨g, 0, none⟩) 1 1) (.slice none 0 0) (.slice (some ⟨g + 1, 0, none⟩) 1 1)) (u1 : Int) ((u1 : Int) + (u2 : Int))) _ _ _ _ _ 1000 3 _ (HRY.out.below (HBY.out.trans ((HB1.out.trans (HX3.out.bel.mono HB1.out.size)).mono HBY.out.size))) (HPW.out.below (HBY.out.trans ((HB1.out.trans (HX3.out.bel.mono HB1.out.size)).mono HBY.out.size))) HA0.out HSM.out (by decide)).mono ?_
                    rintro e y3 ⟨v3, rfl, hov3, hyb3⟩
                    obtain ⟨va3, vc3, rfl, _⟩ := hov3.form
                    have HX3' := Lib.hid (HX3.out.older hyb3)
                    have HA3' := Lib.hid (HA0.out.below hyb3)
                    clear hov3 hyb3 x0 x1 x2 x3 x4 x5 x6
                    simp only [Rr3.out] 
                    have x0 := HX3'.out.box.cell (i := 0) rfl
                    have x1 := HX3'.out.box.cell (i := 1) rfl
                    have x2 := HX3'.out.box.cell (i := 2) rfl
                    have x3 := HX3'.out.box.cell (i := 3) rfl
                    have x4 := HX3'.out.box.cell (i := 4) rfl
                    have x5 := HX3'.out.box.cell (i := 5) rfl
                    have x6 := HX3'.out.box.cell (i := 6) rfl
                    go_wp2_with fail
                    refine (Hy.rule_any (timesH ps (timesS m (u0 : Int) sk (.slice (some ⟨g, 0, none⟩) 1 1) (.slice none 0 0) (.slice (some ⟨g + 1, 0, none⟩) 1 1)) (u1 : Int) ((u1 : Int) + (u2 : Int))) _ _ _ _ _ 1000 1 _ (HRY.out.below (HBY.out.trans ((HB1.out.trans (HX3'.out.bel.mono HB1.out.size)).mono HBY.out.size))) (HPW.out.below (HBY.out.trans ((HB1.out.trans (HX3'.out.bel.mono HB1.out.size)).mono HBY.out.size))) HA3'.out HSM.out (by decide)).mono ?_
                    rintro e y1 ⟨v1, rfl, hov1, hyb1⟩
                    obtain ⟨va1, vc1, rfl, _⟩ := hov1.form
                    have HX1' := Lib.hid (HX3'.out.older hyb1)
                    have HA1' := Lib.hid (HA3'.out.below hyb1)
                    clear hov1 hyb1 x0 x1 x2 x3 x4 x5 x6
                    simp only [Rr1.out] 
                    have x0 := HX1'.out.box.cell (i := 0) rfl
                    have x1 := HX1'.out.box.cell (i := 1) rfl
                    have x2 := HX1'.out.box.cell (i := 2) rfl
                    have x3 := HX1'.out.box.cell (i := 3) rfl
                    have x4 := HX1'.out.box.cell (i := 4) rfl
                    have x5 := HX1'.out.box.cell (i := 5) rfl
                    have x6 := HX1'.out.box.cell (i := 6) rfl
                    go_wp2_with fail
                    refine (Hy.rule_any (timesH ps (timesS m (u0 : Int) sk (.slice (some ⟨g, 0, none⟩) 1 1) (.slice none 0 0) (.slice (some ⟨g + 1, 0, none⟩) 1 1)) (u1 : Int) ((u1 : Int) + (u2 : Int))) _ _ _ _ _ 1000 2 _ (HRY.out.below (HBY.out.trans ((HB1.out.trans (HX1'.out.bel.mono HB1.out.size)).mono HBY.out.size))) (HPW.out.below (HBY.out.trans ((HB1.out.trans (HX1'.out.bel.mono HB1.out.size)).mono HBY.out.size))) HA1'.out HSM.out (by decide)).mono ?_
                    rintro e y2 ⟨v2, rfl, hov2, hyb2⟩
                    obtain ⟨va2, vc2, rfl, _⟩ := hov2.form
                    have HX2' := Lib.hid (HX1'.out.older hyb2)
                    have HA2' := Lib.hid (HA1'.out.below hyb2)
                    clear hov2 hyb2 x0 x1 x2 x3 x4 x5 x6
                    simp only [Rr2.out] 
                    have x0 := HX2'.out.box.cell (i := 0) rfl
                    have x1 := HX2'.out.box.cell (i := 1) rfl
                    have x2 := HX2'.out.box.cell (i := 2) rfl
                    have x3 := HX2'.out.box.cell (i := 3) rfl
                    have x4 := HX2'.out.box.cell (i := 4) rfl
                    have x5 := HX2'.out.box.cell (i := 5) rfl
                    have x6 := HX2'.out.box.cell (i := 6) rfl
                    go_wp2_with fail
                    refine (Hy.rule_any (timesH ps (timesS m (u0 : Int) sk (.slice (some ⟨g, 0, none⟩) 1 1) (.slice none 0 0) (.slice (some ⟨g + 1, 0, none⟩) 1 1)) (u1 : Int) ((u1 : Int) + (u2 : Int))) _ _ _ _ _ 1000 4 _ (HRY.out.below (HBY.out.trans ((HB1.out.trans (HX2'.out.bel.mono HB1.out.size)).mono HBY.out.size))) (HPW.out.below (HBY.out.trans ((HB1.out.trans (HX2'.out.bel.mono HB1.out.size)).mono HBY.out.size))) HA2'.out HSM.out (by decide)).mono ?_
                    rintro e y4 ⟨v4, rfl, hov4, hyb4⟩
                    obtain ⟨va4, vc4, rfl, _⟩ := hov4.form
                    have HX4' := Lib.hid (HX2'.out.older hyb4)
                    have HA4' := Lib.hid (HA2'.out.below hyb4)
                    clear hov4 hyb4 x0 x1 x2 x3 x4 x5 x6
                    simp only [Rr4.out] 
                    go_wp2_with fail
                    go_ret
                    exact ⟨rfl, (HBY.out.trans ((HB1.out.trans (HX4'.out.bel.mono HB1.out.size)).mono HBY.out.size))⟩
                | true =>
                  cases tk with
                  | false =>
                    replace Rr3 := Lib.hid (Rr3.out.trans (by rfl : _ = 0))
                    replace Rr1 := Lib.hid (Rr1.out.trans (by rfl : _ = 0))
                    have x0 := HX3.out.box.cell (i := 0) rfl
                    have x1 := HX3.out.box.cell (i := 1) rfl
                    have x2 := HX3.out.box.cell (i := 2) rfl
                    have x3 := HX3.out.box.cell (i := 3) rfl
                    have x4 := HX3.out.box.cell (i := 4) rfl
                    have x5 := HX3.out.box.cell (i := 5) rfl
                    have x6 := HX3.out.box.cell (i := 6) rfl
                    go_wp2_with fail
                    refine (Hy.rule_any (timesH ps (timesS m (u0 : Int) sk (.slice (some ⟨g, 0, none⟩) 1 1) (.slice none 0 0) (.slice (some ⟨g + 1, 0, none⟩) 1 1)) (u1 : Int) ((u1 : Int) + (u2 : Int))) _ _ _ _ _ 1000 3 _ (HRY.out.below (HBY.out.trans ((HB1.out.trans (HX3.out.bel.mono HB1.out.size)).mono HBY.out.size))) (HPW.out.below (HBY.out.trans ((HB1.out.trans (HX3.out.bel.mono HB1.out.size)).mono HBY.out.size))) HA0.out HSM.out (by decide)).mono ?_
                    rintro e y3 ⟨v3, rfl, hov3, hyb3⟩
                    obtain ⟨va3, vc3, rfl, _⟩ := hov3.form
                    have HX3' := Lib.hid (HX3.out.older hyb3)
                    have HA3' := Lib.hid (HA0.out.below hyb3)
                    clear hov3 hyb3 x0 x1 x2 x3 x4 x5 x6
                    simp only [Rr3.out] 
                    have x0 := HX3'.out.box.cell (i := 0) rfl
                    have x1 := HX3'.out.box.cell (i := 1) rfl
                    have x2 := HX3'.out.box.cell (i := 2) rfl
                    have x3 := HX3'.out.box.cell (i := 3) rfl
                    have x4 := HX3'.out.box.cell (i := 4) rfl
                    have x5 := HX3'.out.box.cell (i := 5) rfl
                    have x6 := HX3'.out.box.cell (i := 6) rfl
                    go_wp2_with fail
                    refine (Hy.rule_any (timesH ps (timesS m (u0 : Int) sk (.slice (some ⟨g, 0, none⟩) 1 1) (.slice none 0 0) (.slice (some ⟨g + 1, 0, none⟩) 1 1)) (u1 : Int) ((u1 : Int) + (u2 : Int))) _ _ _ _ _ 1000 1 _ (HRY.out.below (HBY.out.trans ((HB1.out.trans (HX3'.out.bel.mono HB1.out.size)).mono HBY.out.size))) (HPW.out.below (HBY.out.trans ((HB1.out.trans (HX3'.out.bel.mono HB1.out.size)).mono HBY.out.size))) HA3'.out HSM.out (by decide)).mono ?_
                    rintro e y1 ⟨v1, rfl, hov1, hyb1⟩
                    obtain ⟨va1, vc1, rfl, _⟩ := hov1.form
                    have HX1' := Lib.hid (HX3'.out.older hyb1)
                    have HA1' := Lib.hid (HA3'.out.below hyb1)
                    clear hov1 hyb1 x0 x1 x2 x3 x4 x5 x6
                    simp only [Rr1.out] 
                    have x0 := HX1'.out.box.cell (i := 0) rfl
                    have x1 := HX1'.out.box.cell (i := 1) rfl
                    have x2 := HX1'.out.box.cell (i := 2) rfl
                    have x3 := HX1'.out.box.cell (i := 3) rfl
                    have x4 := HX1'.out.box.cell (i := 4) rfl
                    have x5 := HX1'.out.box.cell (i := 5) rfl
                    have x6 := HX1'.out.box.cell (i := 6) rfl
                    go_wp2_with fail
                    refine (Hy.rule_any (timesH ps (timesS m (u0 : Int) sk (.slice (some ⟨g, 0, none⟩) 1 1) (.slice none 0 0) (.slice (some ⟨g + 1, 0, none⟩) 1 1)) (u1 : Int) ((u1 : Int) + (u2 : Int))) _ _ _ _ _ 1000 2 _ (HRY.out.below (HBY.out.trans ((HB1.out.trans (HX1'.out.bel.mono HB1.out.size)).mono HBY.out.size))) (HPW.out.below (HBY.out.trans ((HB1.out.trans (HX1'.out.bel.mono HB1.out.size)).mono HBY.out.size))) HA1'.out HSM.out (by decide)).mono ?_
                    rintro e y2 ⟨v2, rfl, hov2, hyb2⟩
                    obtain ⟨va2, vc2, rfl, _⟩ := hov2.form
                    have HX2' := Lib.hid (HX1'.out.older hyb2)
                    have HA2' := Lib.hid (HA1'.out.below hyb2)
                    clear hov2 hyb2 x0 x1 x2 x3 x4 x5 x6
                    simp only [Rr2.out] 
                    have x0 := HX2'.out.box.cell (i := 0) rfl
                    have x1 := HX2'.out.box.cell (i := 1) rfl
                    have x2 := HX2'.out.box.cell (i := 2) rfl
                    have x3 := HX2'.out.box.cell (i := 3) rfl
                    have x4 := HX2'.out.box.cell (i := 4) rfl
                    have x5 := HX2'.out.box.cell (i := 5) rfl
                    have x6 := HX2'.out.box.cell (i := 6) rfl
                    go_wp2_with fail
                    refine (Hy.rule_any (timesH ps (timesS m (u0 : Int) sk (.slice (some ⟨g, 0, none⟩) 1 1) (.slice none 0 0) (.slice (some ⟨g + 1, 0, none⟩) 1 1)) (u1 : Int) ((u1 : Int) + (u2 : Int))) _ _ _ _ _ 1000 4 _ (HRY.out.below (HBY.out.trans ((HB1.out.trans (HX2'.out.bel.mono HB1.out.size)).mono HBY.out.size))) (HPW.out.below (HBY.out.trans ((HB1.out.trans (HX2'.out.bel.mono HB1.out.size)).mono HBY.out.size))) HA2'.out HSM.out (by decide)).mono ?_
                    rintro e y4 ⟨v4, rfl, hov4, hyb4⟩
                    obtain ⟨va4, vc4, rfl, _⟩ := hov4.form
                    have HX4' := Lib.hid (HX2'.out.older hyb4)
                    have HA4' := Lib.hid (HA2'.out.below hyb4)
                    clear hov4 hyb4 x0 x1 x2 x3 x4 x5 x6
                    simp only [Rr4.out] 
                    go_wp2_with fail
                    go_ret
                    exact ⟨rfl, (HBY.out.trans ((HB1.out.trans (HX4'.out.bel.mono HB1.out.size)).mono HBY.out.size))⟩
                  | true =>
                    replace Rr3 := Lib.hid (Rr3.out.trans (by rfl : _ = 0))
                    replace Rr1 := Lib.hid (Rr1.out.trans (by rfl : _ = 1))
                    have x0 := HX3.out.box.cell (i := 0) rfl
                    have x1 := HX3.out.box.cell (i := 1) rfl
                    have x2 := HX3.out.box.cell (i := 2) rfl
                    have x3 := HX3.out.box.cell (i := 3) rfl
                    have x4 := HX3.out.box.cell (i := 4) rfl
                    have x5 := HX3.out.box.cell (i := 5) rfl
                    have x6 := HX3.out.box.cell (i := 6) rfl
                    go_wp2_with fail
                    refine (Hy.rule_any (timesH ps (timesS m (u0 : Int) sk (.slice (some ⟨g, 0, none⟩) 1 1) (.slice none 0 0) (.slice (some ⟨g + 1, 0, none⟩) 1 1)) (u1 : Int) ((u1 : Int) + (u2 : Int))) _ _ _ _ _ 1000 3 _ (HRY.out.below (HBY.out.trans ((HB1.out.trans (HX3.out.bel.mono HB1.out.size)).mono HBY.out.size))) (HPW.out.below (HBY.out.trans ((HB1.out.trans (HX3.out.bel.mono HB1.out.size)).mono HBY.out.size))) HA0.out HSM.out (by decide)).mono ?_
                    rintro e y3 ⟨v3, rfl, hov3, hyb3⟩
                    obtain ⟨va3, vc3, rfl, _⟩ := hov3.form
                    have HX3' := Lib.hid (HX3.out.older hyb3)
                    have HA3' := Lib.hid (HA0.out.below hyb3)
                    clear hov3 hyb3 x0 x1 x2 x3 x4 x5 x6
                    simp only [Rr3.out] 
                    have x0 := HX3'.out.box.cell (i := 0) rfl
                    have x1 := HX3'.out.box.cell (i := 1) rfl
                    have x2 := HX3'.out.box.cell (i := 2) rfl
                    have x3 := HX3'.out.box.cell (i := 3) rfl
                    have x4 := HX3'.out.box.cell (i := 4) rfl
                    have x5 := HX3'.out.box.cell (i := 5) rfl
                    have x6 := HX3'.out.box.cell (i := 6) rfl
                    go_wp2_with fail
                    refine (Hy.rule_any (timesH ps (timesS m (u0 : Int) sk (.slice (some ⟨g, 0, none⟩) 1 1) (.slice none 0 0) (.slice (some ⟨g + 1, 0, none⟩) 1 1)) (u1 : Int) ((u1 : Int) + (u2 : Int))) _ _ _ _ _ 1000 1 _ (HRY.out.below (HBY.out.trans ((HB1.out.trans (HX3'.out.bel.mono HB1.out.size)).mono HBY.out.size))) (HPW.out.below (HBY.out.trans ((HB1.out.trans (HX3'.out.bel.mono HB1.out.size)).mono HBY.out.size))) HA3'.out HSM.out (by decide)).mono ?_
                    rintro e y1 ⟨v1, rfl, hov1, hyb1⟩
                    obtain ⟨va1, vc1, rfl, _⟩ := hov1.form
                    have HX1' := Lib.hid (HX3'.out.older hyb1)
                    have HA1' := Lib.hid (HA3'.out.below hyb1)
                    clear hov1 hyb1 x0 x1 x2 x3 x4 x5 x6
                    simp only [Rr1.out] 
                    have x0 := HX1'.out.box.cell (i := 0) rfl
                    have x1 := HX1'.out.box.cell (i := 1) rfl
                    have x2 := HX1'.out.box.cell (i := 2) rfl
                    have x3 := HX1'.out.box.cell (i := 3) rfl
                    have x4 := HX1'.out.box.cell (i := 4) rfl
                    have x5 := HX1'.out.box.cell (i := 5) rfl
                    have x6 := HX1'.out.box.cell (i := 6) rfl
                    go_wp2_with fail
                    refine (Hy.rule_any (timesH ps (timesS m (u0 : Int) sk (.slice (some ⟨g, 0, none⟩) 1 1) (.slice none 0 0) (.slice (some ⟨g + 1, 0, none⟩) 1 1)) (u1 : Int) ((u1 : Int) + (u2 : Int))) _ _ _ _ _ 1000 2 _ (HRY.out.below (HBY.out.trans ((HB1.out.trans (HX1'.out.bel.mono HB1.out.size)).mono HBY.out.size))) (HPW.out.below (HBY.out.trans ((HB1.out.trans (HX1'.out.bel.mono HB1.out.size)).mono HBY.out.size))) HA1'.out HSM.out (by decide)).mono ?_
                    rintro e y2 ⟨v2, rfl, hov2, hyb2⟩
                    obtain ⟨va2, vc2, rfl, _⟩ := hov2.form
                    have HX2' := Lib.hid (HX1'.out.older hyb2)
                    have HA2' := Lib.hid (HA1'.out.below hyb2)
                    clear hov2 hyb2 x0 x1 x2 x3 x4 x5 x6
                    simp only [Rr2.out] 
                    have x0 := HX2'.out.box.cell (i := 0) rfl
                    have x1 := HX2'.out.box.cell (i := 1) rfl
                    have x2 := HX2'.out.box.cell (i := 2) rfl
                    have x3 := HX2'.out.box.cell (i := 3) rfl
                    have x4 := HX2'.out.box.cell (i := 4) rfl
                    have x5 := HX2'.out.box.cell (i := 5) rfl
                    have x6 := HX2'.out.box.cell (i := 6) rfl
                    go_wp2_with fail
                    refine (Hy.rule_any (timesH ps (timesS m (u0 : Int) sk (.slice (some ⟨g, 0, none⟩) 1 1) (.slice none 0 0) (.slice (some ⟨g + 1, 0, none⟩) 1 1)) (u1 : Int) ((u1 : Int) + (u2 : Int))) _ _ _ _ _ 1000 4 _ (HRY.out.below (HBY.out.trans ((HB1.out.trans (HX2'.out.bel.mono HB1.out.size)).mono HBY.out.size))) (HPW.out.below (HBY.out.trans ((HB1.out.trans (HX2'.out.bel.mono HB1.out.size)).mono HBY.out.size))) HA2'.out HSM.out (by decide)).mono ?_
                    rintro e y4 ⟨v4, rfl, hov4, hyb4⟩
                    obtain ⟨va4, vc4, rfl, _⟩ := hov4.form
                    have HX4' := Lib.hid (HX2'.out.older hyb4)
                    have HA4' := Lib.hid (HA2'.out.below hyb4)
                    clear hov4 hyb4 x0 x1 x2 x3 x4 x5 x6
                    simp only [Rr4.out] 
                    go_wp2_with fail
                    go_ret
                    exact ⟨rfl, (HBY.out.trans ((HB1.out.trans (HX4'.out.bel.mono HB1.out.size)).mono HBY.out.size))⟩
  · have hl1 : (20 : Int) < (acts.length : Int) := by omega
    clear hr hp hx hl
    go_enter Tryz.func9, Tryz.ntmps9
    go_upto_region 1 with fail
    have HBX := Lib.hid ((Below.refl w.heap.size w).alloc (Nat.le_refl _) (.cells #[.int .u16 n0, .int .u16 n1, .int .u16 n2, .int .u16 n3] 94))
    obtain ⟨wX, hwX⟩ : ∃ z, w.alloc (.cells #[.int .u16 n0, .int .u16 n1, .int .u16 n2, .int .u16 n3] 94) = z := ⟨_, rfl⟩
    obtain ⟨bX, hbX⟩ : ∃ z, w.heap.size = z := ⟨_, rfl⟩
    rw [hwX] at HBX ⊢
    rw [hbX]
    clear hwX
    have HBY := Lib.hid (show Below w.heap.size w wX from HBX.out)
    clear hbX
    go_wp2_with (go_at_call 29; refine (awake58_any _ (HRY.out.below HBY.out) (HPW.out.below HBY.out)).mono ?_; rintro e w1 ⟨rfl, hb1⟩; have HB1 := Lib.hid hb1; clear hb1)
    go_ret
    exact ⟨rfl, HBY.out.trans (HB1.out.mono HBY.out.size)⟩

/-- What the walk gives, for every argument. -/
theorem contract (H : Type) (enc : TypeId × Value → H) (W : World) (base : Nat) (args : Array Value) (ds gs : List (DataW H)) (before : List MemPlace)
    (hval : ∀ (j : Nat) t v, Tryz.f9.params[j]? = some t → args[j]? = some v → Value.okWide Tryz.prog W .any base t v)
    (hW : DataW.Whole enc Tryz.prog Tryz.f9.params.toList Rows.historyTimesSpec.vars false W args.toList ds gs before) (hsz : (DataW.weightsEach Tryz.prog Tryz.f9.params.toList (ds ++ gs)).all (· ≤ reachBytes) = true) (hr : Ready W) (hw : A1.ParseAt W) :
    Calls Tryz.prog 9 args W fun e W' => ∃ v, e = .returned v ∧ Rows.historyTimesSpec.post enc Tryz.prog Tryz.f9 false true false false W args v W' := by
  have hW' := hW
  have hlt := fun p hp => hW.lt p hp
  obtain ⟨p, q, hA0, hV, rfl, hfz, hnd⟩ := hW
  have hA : DataW.TrodAll enc Tryz.prog W 0 (fun _ => true) true Tryz.f9.params.toList args.toList ds p := hA0
  have hA1 := hA
  obtain ⟨rfl, rfl⟩ := trodVars_none hV
  rw [Tryz.params9] at hA hval
  obtain ⟨v0, vs0, d0, ds0, p0, q0, hargs, rfl, rfl, h0, r0⟩ := trodAll_cons hA
  obtain ⟨v1, vs1, d1, ds1, p1, q1, rfl, rfl, rfl, h1, r1⟩ := trodAll_cons r0
  obtain ⟨v2, vs2, d2, ds2, p2, q2, rfl, rfl, rfl, h2, r2⟩ := trodAll_cons r1
  obtain ⟨v3, vs3, d3, ds3, p3, q3, rfl, rfl, rfl, h3, r3⟩ := trodAll_cons r2
  obtain ⟨rfl, rfl, rfl⟩ := trodAll_nil r3
  obtain rfl : args = #[v0, v1, v2, v3] := by cases args; simp_all
  have fin : ∀ W', Below W.heap.size W W' → Rows.historyTimesSpec.post enc Tryz.prog Tryz.f9 false true false false W #[v0, v1, v2, v3] (.bool true) W' := fun W' hb => by
    simp only [List.append_nil] at hA1 hW' hlt
    exact ⟨_, _, _, [], _, [], hW', trodAll_cons_mk (shut_bool Tryz.underlying4 _) trodAll_mk0, Fr.trodAll_below (by kernel_rfl) _ (by kernel_rfl) hA1 hb hlt, rfl, hb.frame _, fun h => by cases h⟩
  clear hW' hA0 hA1 hlt
  rw [Tryz.params9, List.append_nil] at hsz
  obtain ⟨ua0, ul0, uc0, rfl⟩ := okWide_slice Tryz.underlying84 (hval 0 84 v0 rfl rfl)
  obtain ⟨fu0, hf0⟩ := h0
  obtain ⟨xs0, hx0, hl0, _⟩ := Op.open_rows (R := Sg.byteC) (k := 1) (fun _ => True) Tryz.underlying84 (by kernel_rfl) (by decide) (fun n cs y hl h => byte_row hl h) hf0
  obtain ⟨n1, rfl, rfl, rfl, wf1⟩ := open_int Tryz.underlying5 (hval 1 5 v1 rfl rfl) h1
  have m1 := Hy.u8_range wf1
  obtain ⟨n2, rfl, rfl, rfl, wf2⟩ := open_int Tryz.underlying5 (hval 2 5 v2 rfl rfl) h2
  have m2 := Hy.u8_range wf2
  obtain ⟨qa3, qb3, qc3, qd3, rfl, lq3⟩ := Hy.open_quad_arg (hval 3 94 v3 rfl rfl) h3
  refine  (walk xs0 (.slice ua0 ul0 uc0) n1 n2 qa3 qb3 qc3 qd3 W hr hw hx0 hl0 m1 m2 lq3).mono fun e W' ⟨he, hb⟩ => ?_
  subst he
  exact ⟨_, rfl, fin W' hb⟩

theorem laid_met (os : Os) : laidMet Tryz.prog Rows.historyTimesRow.laid ((Fr.laidE Rows.historyTimesRow.laid os).forCall (fun _ _ => 0) ⟨#[], #[.slice none 0 0, .int .u8 0, .int .u8 0, .agg #[.int .u16 0, .int .u16 0, .int .u16 0, .int .u16 0]], []⟩).memory :=
  laidMet_of_run' 8 (by kernel_rfl) (by kernel_rfl)
theorem reads (os : Os) {H : Type} (enc : TypeId × Value → H) : ∃ places, DataW.whole enc Tryz.prog ((Fr.laidE Rows.historyTimesRow.laid os).forCall (fun _ _ => 0) ⟨#[], #[.slice none 0 0, .int .u8 0, .int .u8 0, .agg #[.int .u16 0, .int .u16 0, .int .u16 0, .int .u16 0]], []⟩).memory Tryz.f9.params.toList Rows.historyTimesSpec.vars false (#[.slice none 0 0, .int .u8 0, .int .u8 0, .agg #[.int .u16 0, .int .u16 0, .int .u16 0, .int .u16 0]] : Array Value).toList 8 = some ([.nil, .lit (.int .u8 0), .lit (.int .u8 0), .agg [.lit (.int .u16 0), .lit (.int .u16 0), .lit (.int .u16 0), .lit (.int .u16 0)]], [], places) :=
  ⟨[], by kernel_rfl⟩

theorem lifted (os : Os) (started : os.Started) (H : Type) (enc : TypeId × Value → H) (F : Stop.Interp) :
    ReturnsInHanded {} Tryz.checked os 9 .any ((OpenSpec.ofChange Rows.historyTimesSpec).preRow enc Tryz.prog Tryz.f9 Rows.historyTimesRow.domain false Rows.historyTimesRow.laid) (((OpenSpec.ofChange Rows.historyTimesSpec).at F).post enc Tryz.prog Tryz.f9 false true false false) := by
  obtain ⟨places, hx⟩ := reads os enc
  refine returnsInHanded_of_row (C := Tryz.checked) (s := OpenSpec.ofChange Rows.historyTimesSpec) Fr.own started (by kernel_rfl) Tryz.func9
    (witness_row_at (enc := enc) (C := Tryz.checked) false (Fr.laidE Rows.historyTimesRow.laid os) #[.slice none 0 0, .int .u8 0, .int .u8 0, .agg #[.int .u16 0, .int .u16 0, .int .u16 0, .int .u16 0]] rfl (by kernel_rfl) (by kernel_rfl) (by kernel_rfl)
      (OpenSpec.preRow_of_cond 8 hx (by kernel_rfl) (fun k hk => by cases hk) (by kernel_rfl) (laid_met os))) ?_
  intro W base args ds gs before hval hW _ hcond hsz hlaid hsh _
  exact contract H enc W base args ds gs before hval hW (by have h9 : (DataW.weightsEach Tryz.prog (Tryz.f9.params.toList ++ []) (ds ++ gs)).all (· ≤ reachBytes) = true := hsz; rw [List.append_nil] at h9; exact h9) (Fr.ready hsh) (Fr.parse_laid hlaid (by kernel_rfl) (by repeat first | exact List.mem_cons_self .. | apply List.mem_cons_of_mem) (by repeat first | exact List.mem_cons_self .. | apply List.mem_cons_of_mem) (by repeat first | exact List.mem_cons_self .. | apply List.mem_cons_of_mem))

theorem k_0 : Rows.historyTimesRow.wf (OpenSpec.ofChange (OpenSpec.ofChange Rows.historyTimesSpec).bare) = true := by kernel_rfl
theorem k_1 : laidOutB Tryz.prog = true := Fr.sf_laidOut
theorem k_2 : mapsRowed Tryz.prog = true := Fr.sf_mapsRowed
theorem k_3 : Tryz.f9.params.all (Tryz.prog.readableRec ·) = true := by kernel_rfl
theorem k_4 : namedTie Tryz.prog Rows.historyTimesRow.named (OpenSpec.ofChange Rows.historyTimesSpec).bare.vars = true := by kernel_rfl
theorem k_5 : (Rows.historyTimesRow.stops == []) = true := by kernel_rfl
theorem k_6 : (Tryz.prog.stops == []) = true := Fr.sf_stops
theorem k_7 : (Rows.historyTimesRow.knobs == []) = true := by kernel_rfl
theorem k_8 : (Tryz.prog.stopKnobs == []) = true := Fr.sf_stopKnobs
theorem k_9 : (Rows.historyTimesRow.inPlace == Tryz.prog.inPlace 9) = true := by kernel_rfl
theorem k_10 : (Rows.historyTimesRow.unfollowed == Tryz.prog.unfollowed 9) = true := by kernel_rfl
theorem k_11 : (Rows.historyTimesRow.recurses == Tryz.prog.recurses 9) = true := by kernel_rfl
theorem k_12 : (Rows.historyTimesRow.named == Tryz.prog.varsNamed 9) = true := by kernel_rfl
theorem k_13 : (Rows.historyTimesRow.maps == (Tryz.f9.params.toList ++ (OpenSpec.ofChange Rows.historyTimesSpec).bare.plain.varTypes Tryz.prog).any (Tryz.prog.mapsRec ·)) = true := by kernel_rfl
theorem k_14 : (Rows.historyTimesRow.ifaces == (Tryz.f9.params.toList ++ (OpenSpec.ofChange Rows.historyTimesSpec).bare.plain.varTypes Tryz.prog).any (Tryz.prog.ifacesRec ·)) = true := by kernel_rfl
theorem k_15 : (Rows.historyTimesRow.mapsOut == Tryz.prog.mapsAmong Tryz.f9.resultTypes.toList) = true := by kernel_rfl
theorem k_16 : (Rows.historyTimesRow.loops == (Tryz.f9.params.toList ++ (OpenSpec.ofChange Rows.historyTimesSpec).bare.plain.varTypes Tryz.prog).any (Tryz.prog.loopsFrom ·)) = true := by kernel_rfl
theorem k_17 : (Rows.historyTimesRow.wideKeys == (Tryz.f9.params.toList ++ (OpenSpec.ofChange Rows.historyTimesSpec).bare.plain.varTypes Tryz.prog ++ Tryz.f9.resultTypes.toList).any (Tryz.prog.wideKeysFrom ·)) = true := by kernel_rfl
theorem k_18 : (OpenSpec.ofChange Rows.historyTimesSpec).bare.vars.all (Tryz.prog.varReadable ·) = true := by kernel_rfl
theorem k_19 : Tryz.f9.resultTypes.all (fun t => Tryz.prog.readableRec t && decide (t < Tryz.prog.types.size)) = true := by kernel_rfl
theorem k_20 : (Rows.historyTimesRow.ifacesOut == Tryz.f9.resultTypes.toList.any (Tryz.prog.ifacesRec ·)) = true := by kernel_rfl
theorem k_21 : (Rows.historyTimesRow.loopsOut == Tryz.f9.resultTypes.toList.any (Tryz.prog.loopsFrom ·)) = true := by kernel_rfl
theorem k_22 : (Rows.historyTimesRow.plainKeys == Tryz.prog.plainKeys) = true := Fr.sf_plainKeys
theorem k_23 : Rows.historyTimesRow.shortTexts.isNone = true := by kernel_rfl
theorem k_24 : Tryz.prog.stopsHeard = true := Fr.sf_heard
theorem k_25 : Tryz.prog.mayEnter = true := Fr.sf_mayEnter
theorem k_26 : (Rows.historyTimesRow.lifted == Tryz.prog.liftsFinal) = true := Fr.sf_lifted
theorem k_27 : (Tryz.prog.make == some Rows.historyTimesRow.make) = true := Fr.sf_make
theorem k_28 : (Rows.historyTimesRow.kinds == (if Rows.historyTimesRow.domain.isEmpty then [] else Tryz.f9.params.toList.map fun t => match Tryz.prog.underlying t with | some (.int k) => some k | _ => none)) = true := by kernel_rfl
theorem k_29 : (Rows.historyTimesRow.pinned == Rows.historyTimesRow.pinnedBy) = true := by kernel_rfl
theorem k_30 : (Rows.historyTimesRow.veiled == (Tryz.f9.params.toList ++ (OpenSpec.ofChange Rows.historyTimesSpec).bare.plain.varTypes Tryz.prog ++ Tryz.f9.resultTypes.toList).any (Tryz.prog.veiledRec ·)) = true := by kernel_rfl
theorem k_31 : Rows.historyTimesRow.veiledFits Tryz.prog Tryz.f9.params.toList (Tryz.f9.params.toList ++ (OpenSpec.ofChange Rows.historyTimesSpec).bare.plain.varTypes Tryz.prog ++ Tryz.f9.resultTypes.toList) = true := by kernel_rfl
theorem closed : joinedFacts Tryz.prog 9 Tryz.f9 (OpenSpec.ofChange Rows.historyTimesSpec).bare Rows.historyTimesRow = true := Op.andT (Op.andT (Op.andT (Op.andT (Op.andT (Op.andT (Op.andT (Op.andT (Op.andT (Op.andT (Op.andT (Op.andT (Op.andT (Op.andT (Op.andT (Op.andT (Op.andT (Op.andT (Op.andT (Op.andT (Op.andT (Op.andT (Op.andT (Op.andT (Op.andT (Op.andT (Op.andT (Op.andT (Op.andT (Op.andT (Op.andT (k_0) k_1) k_2) k_3) k_4) k_5) k_6) k_7) k_8) k_9) k_10) k_11) k_12) k_13) k_14) k_15) k_16) k_17) k_18) k_19) k_20) k_21) k_22) k_23) k_24) k_25) k_26) k_27) k_28) k_29) k_30) k_31

theorem said : Rows.HistoryTimesSaid :=
  OpenClaim.holds_of_cond 9 Tryz.f9 rfl rfl rfl rfl rfl rfl rfl ⟨rfl, rfl, rfl, rfl, rfl⟩ rfl rfl rfl rfl rfl (by kernel_rfl) Tryz.func9 closed
    (of_decide_eq_true (by kernel_rfl)) (by unfold Func.isWrapper; first | (rw [if_pos (by decide +kernel)]; kernel_rfl) | (rw [if_neg (by decide +kernel)]; exact ⟨rfl, rfl⟩))
    (fun os started H enc _ F => by rw [OpenClaim.pre_eq_preRow]; exact lifted os started H enc F)

theorem plain (b : Bool) (hb : b = Tryz.pinned.checked.prog.looks []) (f : FuncId) (fn : Func) (hf : Tryz.pinned.checked.prog.funcNamed "quayside/quaysidelaw58.HistoryTimes" = some f) (hfn : Tryz.pinned.checked.prog.funcs[f]? = some fn) :
    b = Tryz.pinned.checked.prog.looks [] ∧ ∀ (j : Nat) t, fn.params[j]? = some t → Tryz.pinned.checked.prog.wantsStandIn t = false := by
  obtain rfl : f = 9 := Option.some.inj ((show Tryz.prog.funcNamed "quayside/quaysidelaw58.HistoryTimes" = some 9 by kernel_rfl).symm.trans hf) |>.symm
  obtain rfl : fn = Tryz.f9 := (Option.some.inj (Tryz.func9.symm.trans hfn)).symm
  refine ⟨hb, fun j t ht => ?_⟩
  rw [Tryz.params9] at ht
  have hm : t ∈ [84, 5, 94] := by simpa using Array.mem_of_getElem? ht
  have hall : ([84, 5, 94].all fun u => !Tryz.prog.wantsStandIn u) = true := by kernel_rfl
  exact (show Tryz.prog.wantsStandIn t = false by simpa using List.all_eq_true.1 hall t hm)

theorem proved : Rows.HistoryTimesCardSaid :=
  Claim7.holds_tied_plain_at .later [] _ _ _ _ said (fun _ h => by cases h) (by kernel_rfl) (fun _ h => by cases h) historyTimes_row_tie rfl ⟨rfl, rfl⟩ (by kernel_rfl) rfl (plain _ (by kernel_rfl)) (by kernel_rfl)
#print axioms proved
end Go.Proofs.YtjijijjkkhpjnaaGreatDoor.lawHistoryTimes
