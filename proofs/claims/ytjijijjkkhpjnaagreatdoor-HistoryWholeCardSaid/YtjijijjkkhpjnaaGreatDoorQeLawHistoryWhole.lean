/- PROVED: HistoryWhole returns true for every input and leaves its arguments as they were. No condition beyond the statement's own (the listed variables read as the program's text lays them, which the card ties). -/
import Derived.Deep.DeepCutAuto
import Derived.Test.YtjijijjkkhpjnaaGreatDoorQeA
import Derived.Test.YtjijijjkkhpjnaaGreatDoorQeG
import Derived.Test.YtjijijjkkhpjnaaGreatDoorQeL
import Derived.Test.YtjijijjkkhpjnaaGreatDoorQeM
namespace Go.Proofs.YtjijijjkkhpjnaaGreatDoor.lawHistoryWhole
open Go.ChangeShapes Go.WideShapes Go.ChangeAt Go.RowKit Pl Ad A1 Hy Kr
open Go.ChangeMaps (open_string shut_string)
attribute [local go_sem] ba_get conv_one conv_one_drewN ba_append ba_extract
set_option maxRecDepth 100000
set_option maxHeartbeats 4000000
set_option linter.unusedVariables false
set_option linter.unusedSimpArgs false

/-- What the loop has built. -/
structure WholeW (w3 w : World) (b1 : Nat) (C : Array Value) (pv : Value) (l : List PartM) : Prop where
  bel : Below w3.heap.size w3 w
  h0 : w3.heap.size ≤ b1
  box : Bx w b1 82 C
  own : OwnWin w w3.heap.size 88 3 pv l.length (l.flatMap partR)
  dat : ∀ x ∈ l, OwnWin w w3.heap.size 5 1 x.dV x.data.length (bvals x.data)
  lim : ∀ x ∈ l, x.data.length ≤ 500 ∧ 0 ≤ x.at_ ∧ x.at_ ≤ 1000
section
variable {w3 w w' : World} {b1 : Nat} {C : Array Value} {pv : Value} {l : List PartM}
theorem WholeW.older (h : WholeW w3 w b1 C pv l) (hb : Below w.heap.size w w') : WholeW w3 w' b1 C pv l :=
  ⟨h.bel.trans (hb.mono h.bel.size), h.h0, h.box.older hb, h.own.older hb, fun x hx => (h.dat x hx).older hb, h.lim⟩
theorem WholeW.add (h : WholeW w3 w b1 C pv l) {v : Value} {x : PartM} (ho : OwnWin w' w3.heap.size 88 3 v (l.length + 1) (l.flatMap partR ++ partR x)) (hg : w.grownBy w' pv.ownBlock) (hd : OwnWin w w3.heap.size 5 1 x.dV x.data.length (bvals x.data)) (hx : x.data.length ≤ 500 ∧ 0 ≤ x.at_ ∧ x.at_ ≤ 1000) :
    WholeW w3 (w'.setCell ⟨b1, 9, none⟩ v) b1 (C.setIfInBounds 9 v) v (l ++ [x]) := by
  have ht := Touch.of_grown (S := fun q => pv.ownBlock = some q) hg (fun k hk => hk)
  have hb2 := h.box.touch ht (fun hq => h.box.neOwn h.own (by decide) _ hq rfl)
  have hs := touch_set1 w' b1 9 v
  have hl : (l ++ [x]).length = l.length + 1 := by simp
  have hkeep : ∀ y : PartM, OwnWin w w3.heap.size 5 1 y.dV y.data.length (bvals y.data) → OwnWin (w'.setCell ⟨b1, 9, none⟩ v) w3.heap.size 5 1 y.dV y.data.length (bvals y.data) := fun y hy => by
    have h1 := hy.touch ht (fun q hq hf => own_neOwn hy h.own (by decide) q hq hf)
    exact h1.touch hs (fun q hq e => hb2.neOwn h1 (by decide) q hq e)
  refine ⟨?_, h.h0, hb2.set 9 v, ?_, fun y hy => ?_, fun y hy => ?_⟩
  · exact (h.bel.grown hg h.bel.size (fun q hq => (h.own.lt q hq).1)).trans (hs.below (Nat.le_trans h.bel.size hg.size) (fun i hi => by rw [hi]; exact h.h0))
  · rw [hl, List.flatMap_append]
    have : [x].flatMap partR = partR x := by simp
    rw [this]
    exact ho.touch hs (fun q hq e => hb2.neOwn ho (by decide) q hq e)
  · rcases List.mem_append.1 hy with hy | hy
    · exact hkeep y (h.dat y hy)
    · rw [List.mem_singleton.1 hy]; exact hkeep x hd
  · rcases List.mem_append.1 hy with hy | hy
    · exact h.lim y hy
    · rw [List.mem_singleton.1 hy]; exact hx
theorem WholeW.setS {D : Array Value} {bs : Nat} (h : WholeW w3 w b1 C pv l) (k : Bx w bs 82 D) (hne : ¬ b1 = bs) (hge : w3.heap.size ≤ bs) (j : Nat) (v : Value) : WholeW w3 (w.setCell ⟨bs, j, none⟩ v) b1 C pv l := by
  have hs := touch_set1 w bs j v
  exact ⟨h.bel.trans (hs.below h.bel.size (fun i hi => by rw [hi]; exact hge)), h.h0, h.box.touch hs hne, h.own.touch hs (fun q hq e => k.neOwn h.own (by decide) q hq e), fun x hx => (h.dat x hx).touch hs (fun q hq e => k.neOwn (h.dat x hx) (by decide) q hq e), h.lim⟩
/-- What stands behind the loop: the pattern, the version, the response, the history. -/
structure WholeX (w3 w : World) (b1 bp bs bh : Nat) (C P D : Array Value) (pv : Value) (l : List PartM) : Prop where
  low : WholeW w3 w b1 C pv l
  pub : Bx w bp 86 P
  srv : Bx w bs 82 D
  his : Bx w bh 69 #[.slice (some ⟨bp, 0, none⟩) 1 1, .slice none 0 0, .slice (some ⟨bs, 0, none⟩) 1 1, .slice none 0 0, .slice none 0 0, .int .i64 0, .int .i64 0]
  ne : ¬ b1 = bs
  ge : w3.heap.size ≤ bs
variable {bp bs bh : Nat} {P D : Array Value}
theorem WholeX.older (h : WholeX w3 w b1 bp bs bh C P D pv l) (hb : Below w.heap.size w w') : WholeX w3 w' b1 bp bs bh C P D pv l :=
  ⟨h.low.older hb, h.pub.older hb, h.srv.older hb, h.his.older hb, h.ne, h.ge⟩
theorem WholeX.set (h : WholeX w3 w b1 bp bs bh C P D pv l) (j : Nat) (v : Value) : WholeX w3 (w.setCell ⟨bs, j, none⟩ v) b1 bp bs bh C P (D.setIfInBounds j v) pv l :=
  ⟨h.low.setS h.srv h.ne h.ge j v, h.pub.touch (touch_set1 w bs j v) (fun e => by subst e; exact absurd (h.pub.inj h.srv).1 (by decide)), h.srv.set j v, h.his.touch (touch_set1 w bs j v) (fun e => by subst e; exact absurd (h.his.inj h.srv).1 (by decide)), h.ne, h.ge⟩
end
def wS (fr til : Nat) (qv : Value) (ql : List PartM) (e : Bool) : SrvM := ⟨[], keyX, [49], 0, 5, 5, fr, til, .slice none 0 0, [], qv, ql, e⟩
def wP (bv : Value) (body : Bs) : PubM := ⟨1, 10, keyX, [49], bv, body⟩
theorem whole_at {w3 w : World} {b1 bp bs bh fr til : Nat} {C : Array Value} {pv qv bv : Value} {l ql : List PartM} {e : Bool} {body : Bs} (h : WholeX w3 w b1 bp bs bh C #[.int .i64 1, .int .i64 10, .string ⟨#[97, 46, 101, 120, 97, 109, 112, 108, 101, 47, 120]⟩, .string ⟨#[49]⟩, bv] #[.string ⟨#[]⟩, .string ⟨#[97, 46, 101, 120, 97, 109, 112, 108, 101, 47, 120]⟩, .string ⟨#[49]⟩, .int .i64 0, .int .i64 5, .int .i64 5, .int .i64 (fr : Int), .int .i64 (til : Int), .slice none 0 0, qv, .bool e] pv l) (hb : RowsV Sg.byteC 1 w bv body) (hbl : body.length ≤ 500)
    (hq : RowsV partR 3 w qv ql) (hql : ql.length ≤ 1000) (hqd : ∀ x ∈ ql, x ∈ l) : HisAt w 1000 (.slice (some ⟨bp, 0, none⟩) 1 1) (.slice none 0 0) (.slice (some ⟨bs, 0, none⟩) 1 1) (.slice none 0 0) (.slice none 0 0) (oneH (wP bv body) (wS fr til qv ql e)) := by
  have hk : keyX.length ≤ 1000 := by decide
  refine ⟨rows_bx h.pub rfl pubR_len (Nat.le_refl _) rfl, by simp [oneH], fun p hp => ?_, .inl ⟨rfl, .inl rfl⟩, by simp [oneH], fun p hp => (by cases hp), rows_bx h.srv rfl srvR_len (Nat.le_refl _) rfl, by simp [oneH], fun s hs => ?_, .inl ⟨rfl, .inl rfl⟩, by simp [oneH], fun p hp => (by cases hp), .inl ⟨rfl, .inl rfl⟩, by simp [oneH], fun p hp => (by cases hp)⟩
  · rw [List.mem_singleton.1 hp]
    exact ⟨hk, by simp [wP], by have := rows_src hb byteC_len (by decide); rw [bytes_flat] at this; exact this, by show body.length ≤ 1000; omega, hb⟩
  · rw [List.mem_singleton.1 hs]
    exact ⟨by simp [wS], hk, by simp [wS], .inl ⟨rfl, .inl rfl⟩, by simp [wS], fun t ht => (by cases ht), hq, hql, fun x hx => ⟨SrcAt.of (h.low.dat x (hqd x hx)), by have := (h.low.lim x (hqd x hx)).1; omega⟩⟩
theorem whole_small {fr til : Nat} {qv bv : Value} {ql : List PartM} {e : Bool} {body : Bs} (hq : ∀ x ∈ ql, 0 ≤ x.at_ ∧ x.at_ ≤ 1000) : (oneH (wP bv body) (wS fr til qv ql e)).Small := by
  refine ⟨fun p hp => ?_, fun g hg => (by cases hg), fun s hs => ?_, fun p hp => (by cases hp), fun p hp => (by cases hp), by unfold Hy.inB oneH; simp only; omega, by unfold Hy.inB oneH; simp only; omega, by simp [oneH], by simp [oneH], by simp [oneH], by simp [oneH], by simp [oneH]⟩
  · rw [List.mem_singleton.1 hp]; unfold Hy.inB wP; simp only; omega
  · rw [List.mem_singleton.1 hs]
    refine ⟨by unfold Hy.inB wS; simp only; omega, by unfold Hy.inB wS; simp only; omega, fun x hx => ?_⟩
    have := hq x hx
    unfold Hy.inB; omega
section
variable {fr til n : Nat} {bv qv : Value} {body : Bs} {l l0 : List PartM} {x : PartM}
theorem whole_1 (hb : BuiltP body til fr til l) (h1 : fr ≤ til) (h2 : til ≤ body.length) : checkL (oneH (wP bv body) (wS fr til qv l true)) = [] :=
  one_check rfl (by show (1 : Int) ≤ 5; decide) (by show (5 : Int) - 5 ≤ 10; decide) (whole_fits rfl rfl h1 h2 hb)
theorem whole_2 (h1 : fr ≤ til) (h2 : til ≤ body.length) (hr : runP body til fr l0 = some (n : Int)) (hn : n < til) : ruleL (oneH (wP bv body) (wS fr til qv l0 true)) 4 = [⟨4, 0, tx4⟩] :=
  one_bad rfl (by show fitsB body _ = false; rw [early_fits rfl rfl h1 h2 rfl hr hn]; rfl)
theorem whole_3 (h1 : fr ≤ til) (h2 : til ≤ body.length) (hr : runP body til fr l0 = some (n : Int)) (hn : n < til) : checkL (oneH (wP bv body) (wS fr til qv l0 false)) = [] :=
  one_check rfl (by show (1 : Int) ≤ 5; decide) (by show (5 : Int) - 5 ≤ 10; decide) (by show fitsB body _ = true; rw [early_fits rfl rfl h1 h2 rfl hr hn]; rfl)
theorem whole_4 (hb : BuiltP body til fr til (l0 ++ [x])) (h1 : fr ≤ til) (h2 : til ≤ body.length) (hx : x.off = (n : Int)) (hn : n < til) : ruleL (oneH (wP bv body) (wS fr til qv ((l0 ++ [x]) ++ [x]) false)) 4 = [⟨4, 0, tx4⟩] :=
  one_bad rfl (off_fits (e := til) rfl rfl h1 h2 rfl hb.run (by rw [hx]; omega))
theorem whole_5 (h1 : fr ≤ til) (h2 : til ≤ body.length) (hx : x.off = (n : Int)) (hn : fr < n) : ruleL (oneH (wP bv body) (wS fr til qv [x] false)) 4 = [⟨4, 0, tx4⟩] :=
  one_bad rfl (off_fits (e := fr) (l0 := []) rfl rfl h1 h2 rfl rfl (by rw [hx]; omega))
end
theorem bytes_mid {w : World} {b o n c i m c' : Nat} {l : Bs} (h : RowsV Sg.byteC 1 w (.slice (some ⟨b, o, none⟩) n c) l) (hm : i + m ≤ l.length) : SrcAt w (.slice (some ⟨b, o + i, none⟩) m c') m (bvals ((l.drop i).take m)) := by
  have hs := rows_src h byteC_len (by decide)
  rw [bytes_flat] at hs
  rcases hs with ⟨h1, _⟩ | ⟨a', c2, h1, h2⟩
  · cases h1
  · cases h1
    refine .inr ⟨_, _, rfl, fun j u hu => ?_⟩
    have hj : j < m := by have := (List.getElem?_eq_some_iff.1 hu).1; rw [bvals_len, List.length_take, List.length_drop] at this; omega
    unfold bvals at hu
    rw [List.getElem?_map, List.getElem?_take_of_lt hj, List.getElem?_drop] at hu
    have := h2 (i + j) u (by unfold bvals; rw [List.getElem?_map]; exact hu)
    rw [Addr.add_lit] at this ⊢
    rw [Nat.add_assoc]; exact this
theorem byte_row {H : Type} {enc : TypeId × Value → H} {w : World} {base n : Nat} {spare : Nat → Bool} {held : Bool} {cs : List Value} {y : DataW H × List MemPlace} (hl : cs.length = 1)
    (h : DataW.trod enc Tryz.prog w base spare held n 5 cs = some y) : ∃ b : UInt8, cs = Sg.byteC b ∧ True := by
  obtain ⟨b, hb⟩ := Sg.byte_trod hl h
  exact ⟨b, hb, trivial⟩
theorem own_setH {w : World} {B e size n g o c : Nat} {xs : List Value} (h : OwnWin w B e size (.slice (some ⟨g, o, none⟩) n c) n xs) {i : Nat} (hi : i < xs.length) (u : Value) : OwnWin (w.setCell ⟨g, o + i, none⟩ u) B e size (.slice (some ⟨g, o, none⟩) n c) n (xs.set i u) := by
  obtain ⟨hl, h⟩ := h
  refine ⟨by rw [List.length_set]; exact hl, .inr ?_⟩
  rcases h with ⟨h0, _⟩ | ⟨g', o', cap, cur, h0, h1, h2, h3, h4, h5, h6⟩
  · cases h0
  · cases h0
    refine ⟨g, o, c, cur.setIfInBounds (o + i) u, rfl, h1, Bx.set (cs := cur) h2 (o + i) u, h3, h4, by simpa using h5, ?_⟩
    rw [Array.toList_setIfInBounds, List.drop_set, if_neg (by omega), Nat.add_sub_cancel_left, List.take_set, h6]
theorem own_frzH {w : World} {B e size n g o c : Nat} {xs : List Value} (h : OwnWin w B e size (.slice (some ⟨g, o, none⟩) n c) n xs) (i : Nat) : w.frozen? ⟨g, i, none⟩ = false := by
  rcases h.2 with ⟨h0, _⟩ | ⟨g', o', cap, cur, h0, h1, h2, _⟩
  · cases h0
  · cases h0; exact Bx.frz h2 _
theorem own_some {w : World} {B e size n : Nat} {v : Value} {xs : List Value} (h : OwnWin w B e size v n xs) (hn : 0 < n) : ∃ g o c : Nat, v = .slice (some ⟨g, o, none⟩) n c ∧ B ≤ g := by
  rcases h.2 with ⟨_, h9⟩ | ⟨g, o, c, _, h9, h8, _⟩
  · omega
  · exact ⟨g, o, c, h9, h8⟩
theorem own_cellH {w : World} {B e n n' g o c : Nat} {l : List PartM} {m j : Nat} {x : PartM} {u : Value} (h : OwnWin w B e 3 (.slice (some ⟨g, o, none⟩) n c) n' (l.flatMap partR)) (hx : l[m]? = some x) (hu : (partR x)[j]? = some u) : w.cell? ⟨g, o + m * 3 + j, none⟩ = some u := by
  have hl := flat_at partR_len hx hu
  rcases h.2 with ⟨h9, _⟩ | ⟨g', o', cap, cur, h9, _, hg, _, _, hsz, htake⟩
  · cases h9
  · cases h9
    rw [cell_of_row w g _ cur e _ hg]
    rw [← htake, List.getElem?_take] at hl
    split at hl
    · rw [List.getElem?_drop] at hl
      rw [Nat.add_assoc, ← Array.getElem?_toList]; exact hl
    · cases hl
theorem rows_lastH {w : World} {B e n n' g o c : Nat} {l : List PartM} {m c' : Nat} {x : PartM} (h : OwnWin w B e 3 (.slice (some ⟨g, o, none⟩) n c) n' (l.flatMap partR)) (hx : l[m]? = some x) (hc : 1 ≤ c') : RowsV partR 3 w (.slice (some ⟨g, o + m * 3, none⟩) 1 c') [x] :=
  .inr ⟨g, o + m * 3, c', rfl, hc, (h.lt g rfl).2, fun i y hy j u hu => by
    cases i with
    | zero =>
      simp at hy; subst hy
      rw [Nat.zero_mul, Nat.zero_add]
      exact own_cellH h hx hu
    | succ i => simp at hy⟩
theorem mem_lastH {α : Type} {l : List α} {x z : α} (h : z ∈ [x]) : z ∈ l ++ [x] := List.mem_append_right _ h
theorem mem_twice {α : Type} {l : List α} {x z : α} (h : z ∈ (l ++ [x]) ++ [x]) : z ∈ l ++ [x] := by
  rcases List.mem_append.1 h with h | h
  · exact h
  · rw [List.mem_singleton.1 h]; simp
theorem walk (body : Bs) (v0 : Value) (cuts : Bs) (v1 : Value) (a b : Nat) (w : World) (hr : Ready w) (hp : A1.ParseAt w) (hx0 : RowsV Sg.byteC 1 w v0 body) (hl0 : body.length ≤ 9223372036854775807) (hx1 : RowsV Sg.byteC 1 w v1 cuts) (hl1 : cuts.length ≤ 9223372036854775807) (q : a < 256 ∧ b < 256) :
    Calls Tryz.prog 8 #[v0, v1, .agg #[.int .u8 (a : Int), .int .u8 (b : Int)]] w fun e w' => e = .returned (.bool true) ∧ Below w.heap.size w w' := by
  obtain ⟨ua, uc, rfl, huc⟩ := hx0.form
  obtain ⟨va, vc, rfl, hvc⟩ := hx1.form
  obtain ⟨qa, qb⟩ := q
  have HXA := Lib.hid hx0
  have HXB := Lib.hid hx1
  have HRY := Lib.hid hr
  have HPW := Lib.hid hp
  clear hx0 hx1 hr hp
  obtain ⟨L, hL⟩ : ∃ z, body.length = z := ⟨_, rfl⟩
  have HL := Lib.hid hL
  rw [hL] at HXA huc hl0 ⊢
  obtain ⟨M, hM⟩ : ∃ z, cuts.length = z := ⟨_, rfl⟩
  have HM := Lib.hid hM
  rw [hM] at HXB hvc hl1 ⊢
  clear hL hM
  by_cases h1 : L ≤ 500
  · have l1 : ¬ ((500 : Int) < (L : Int)) := by omega
    have l2 : decide ((500 : Int) < (L : Int)) = false := decide_eq_false l1
    have l3 : decide (500 < L) = false := decide_eq_false (by omega)
    by_cases h2 : M ≤ 30
    · have m1 : ¬ ((30 : Int) < (M : Int)) := by omega
      have m2 : decide ((30 : Int) < (M : Int)) = false := decide_eq_false m1
      have m3 : decide (30 < M) = false := decide_eq_false (by omega)
      go_enter Tryz.func8, Tryz.ntmps8
      go_upto_region 1 with fail
      have HN := Lib.hid (Bx.new w 48 #[.int .u8 (a : Int), .int .u8 (b : Int)])
      have HB0 := Lib.hid ((Below.refl w.heap.size w).alloc (Nat.le_refl _) (.cells #[.int .u8 (a : Int), .int .u8 (b : Int)] 48))
      obtain ⟨w0, hw0⟩ : ∃ z, w.alloc (.cells #[.int .u8 (a : Int), .int .u8 (b : Int)] 48) = z := ⟨_, rfl⟩
      obtain ⟨b0, hb0⟩ : ∃ z, w.heap.size = z := ⟨_, rfl⟩
      have HB00 : Hid (w.heap.size ≤ b0) := Lib.hid (by omega)
      rw [hw0] at HB0 HN ⊢
      rw [hb0] at HN ⊢
      clear hw0 hb0
      go_upto_region 3 with (go_at_call 29; refine (awake58_any _ (HRY.out.below HB0.out) (HPW.out.below HB0.out)).mono ?_; rintro e w2 ⟨rfl, hb2⟩; have HB2 := Lib.hid (HB0.out.trans (hb2.mono HB0.out.size)); have HN2 := Lib.hid (HN.out.older hb2); clear hb2)
      have m0 := HN2.out.cell (i := 0) rfl
      have m1' := HN2.out.cell (i := 1) rfl
      have y0 : IntKind.i64.wrap (a : Int) = (a : Int) := IntWalk.i64_in _ (by omega)
      have y1 : IntKind.i64.wrap (b : Int) = (b : Int) := IntWalk.i64_in _ (by omega)
      obtain ⟨p, hp'⟩ : ∃ z, min a L = z := ⟨_, rfl⟩
      obtain ⟨q, hq'⟩ : ∃ z, min b L = z := ⟨_, rfl⟩
      have n0 : min (a : Int) (L : Int) = (p : Int) := by omega
      have n1 : min (b : Int) (L : Int) = (q : Int) := by omega
      have hpl : p ≤ L := by omega
      have hql : q ≤ L := by omega
      clear hp' hq'
      refine wp_region_held_drew (S := (fun w' => w'.cell? ⟨b0, 0, none⟩ = some (.int .u8 (a : Int)) ∧ w'.cell? ⟨b0, 1, none⟩ = some (.int .u8 (b : Int)))) (by kernel_rfl) (by exact ⟨m0, m1'⟩) (fun hHeld => ?_)
      refine Hd.tk 0 ?_
      try simp only [Act.put, List.setIfInBounds_toArray, List.set_cons_zero, List.set_cons_succ]
      refine Hd.tk 1 ?_
      try simp only [Act.put, List.setIfInBounds_toArray, List.set_cons_zero, List.set_cons_succ]
      refine Hd.tk 2 ?_
      try simp only [Act.put, List.setIfInBounds_toArray, List.set_cons_zero, List.set_cons_succ]
      refine Hd.tk 3 ?_
      try simp only [Act.put, List.setIfInBounds_toArray, List.set_cons_zero, List.set_cons_succ]
      refine Hd.tk 4 ?_
      try simp only [Act.put, List.setIfInBounds_toArray, List.set_cons_zero, List.set_cons_succ]
      refine Hd.tk 5 ?_
      try simp only [Act.put, List.setIfInBounds_toArray, List.set_cons_zero, List.set_cons_succ]
      refine Hd.tk 6 ?_
      try simp only [Act.put, List.setIfInBounds_toArray, List.set_cons_zero, List.set_cons_succ]
      refine Hd.tk 7 ?_
      try simp only [Act.put, List.setIfInBounds_toArray, List.set_cons_zero, List.set_cons_succ]
      refine Hd.tk 8 ?_
      try simp only [Act.put, List.setIfInBounds_toArray, List.set_cons_zero, List.set_cons_succ]
      refine Hd.tk 9 ?_
      try simp only [Act.put, List.setIfInBounds_toArray, List.set_cons_zero, List.set_cons_succ]
      refine Hd.tk 10 ?_
      try simp only [Act.put, List.setIfInBounds_toArray, List.set_cons_zero, List.set_cons_succ]
      refine Hd.tk 11 ?_
      try simp only [Act.put, List.setIfInBounds_toArray, List.set_cons_zero, List.set_cons_succ]
      refine Hd.tk 12 ?_
      try simp only [Act.put, List.setIfInBounds_toArray, List.set_cons_zero, List.set_cons_succ]
      refine Hd.tk 13 ?_
      try simp only [Act.put, List.setIfInBounds_toArray, List.set_cons_zero, List.set_cons_succ]
      refine wpAnyH_done (by kernel_rfl) ?_ _
      have HB3 := Lib.hid HB2.out.drew
      obtain ⟨w3, hw3⟩ : ∃ z, w2.drew = z := ⟨_, rfl⟩
      rw [hw3] at HB3 ⊢
      clear hw3 m0 m1' n0 n1 y0 y1 HN2
      go_upto_if 43 with fail
      go_cut [7, 8] (fun s7 s8 wx => ∃ fr til : Nat, s7 = .int .i64 (fr : Int) ∧ s8 = .int .i64 (til : Int) ∧ fr ≤ til ∧ til ≤ L ∧ w3 = wx)
      case first =>
        by_cases hpq : q < p
        · have e1 : (q : Int) < (p : Int) := by omega
          have e2 : decide ((q : Int) < (p : Int)) = true := decide_eq_true e1
          have e3 : decide (q < p) = true := decide_eq_true hpq
          go_wp2_with fail
          go_meet
          exact ⟨q, p, rfl, rfl, by omega, hpl, rfl⟩
        · have e1 : ¬ (q : Int) < (p : Int) := by omega
          have e2 : decide ((q : Int) < (p : Int)) = false := decide_eq_false e1
          have e3 : decide (q < p) = false := decide_eq_false hpq
          go_wp2_with fail
          go_meet
          exact ⟨p, q, rfl, rfl, by omega, hql, rfl⟩
      case rest =>
        obtain ⟨fr, til, rfl, rfl, hft, htl, rfl⟩ := hcut
        clear hpl hql
        go_upto_region 7 with fail
        have HW0 := Lib.hid (show WholeW w3 (w3.alloc (.cells #[.string ⟨#[]⟩, .string ⟨#[97, 46, 101, 120, 97, 109, 112, 108, 101, 47, 120]⟩, .string ⟨#[49]⟩, .int .i64 0, .int .i64 5, .int .i64 5, .int .i64 (fr : Int), .int .i64 (til : Int), .slice none 0 0, .slice none 0 0, .bool true] 82)) w3.heap.size #[.string ⟨#[]⟩, .string ⟨#[97, 46, 101, 120, 97, 109, 112, 108, 101, 47, 120]⟩, .string ⟨#[49]⟩, .int .i64 0, .int .i64 5, .int .i64 5, .int .i64 (fr : Int), .int .i64 (til : Int), .slice none 0 0, .slice none 0 0, .bool true] (.slice none 0 0) [] from ⟨(Below.refl _ _).alloc (Nat.le_refl _) _, Nat.le_refl _, Bx.new w3 82 _, OwnWin.nil _ _ _ _, fun x hx => (by cases hx), fun x hx => (by cases hx)⟩)
        obtain ⟨w4, hw4⟩ : ∃ z, w3.alloc (.cells #[.string ⟨#[]⟩, .string ⟨#[97, 46, 101, 120, 97, 109, 112, 108, 101, 47, 120]⟩, .string ⟨#[49]⟩, .int .i64 0, .int .i64 5, .int .i64 5, .int .i64 (fr : Int), .int .i64 (til : Int), .slice none 0 0, .slice none 0 0, .bool true] 82) = z := ⟨_, rfl⟩
        rw [hw4] at HW0 ⊢
        obtain ⟨b1, hb1⟩ : ∃ z, w3.heap.size = z := ⟨_, rfl⟩
        have HW4 := Lib.hid (show WholeW w3 w4 b1 #[.string ⟨#[]⟩, .string ⟨#[97, 46, 101, 120, 97, 109, 112, 108, 101, 47, 120]⟩, .string ⟨#[49]⟩, .int .i64 0, .int .i64 5, .int .i64 5, .int .i64 (fr : Int), .int .i64 (til : Int), .slice none 0 0, .slice none 0 0, .bool true] (.slice none 0 0) [] from hb1 ▸ HW0.out)
        rw [hb1]
        clear hw4 hb1 HW0
        go_wp2_with fail
        go_loopg [11, 10] til (fun gq iv av wr => ∃ (k at_ : Nat) (pv : Value) (l : List PartM), iv = .int .i64 k ∧ av = .int .i64 at_ ∧ Hid (til ≤ gq + at_) ∧ fr ≤ at_ ∧ at_ ≤ til ∧ k ≤ at_ ∧ Hid (l.length = k) ∧ Hid (BuiltP body til fr at_ l) ∧ Hid (WholeW w3 wr b1 #[.string ⟨#[]⟩, .string ⟨#[97, 46, 101, 120, 97, 109, 112, 108, 101, 47, 120]⟩, .string ⟨#[49]⟩, .int .i64 0, .int .i64 5, .int .i64 5, .int .i64 (fr : Int), .int .i64 (til : Int), .slice none 0 0, pv, .bool true] pv l))
        case atStart => exact ⟨0, fr, _, [], rfl, rfl, Lib.hid (by omega), Nat.le_refl _, hft, Nat.zero_le _, Lib.hid rfl, Lib.hid (built_start body hft), HW4⟩
        case round =>
          obtain ⟨k, at_, pv, l, rfl, rfl, HQ, hfa, hat, hka, HK, HBP, HW⟩ := hrel
          obtain ⟨pa, pc, rfl, _⟩ := HW.out.own.form
          have HKL := Lib.hid (show l.length ≤ 500 by have := HK.out; omega)
          by_cases hlt : at_ < til
          · have HLT := Lib.hid hlt
            have e1 : (at_ : Int) < (til : Int) := by omega
            have e2 : decide ((at_ : Int) < (til : Int)) = true := decide_eq_true e1
            obtain ⟨n, hn⟩ : ∃ z, til - at_ = z := ⟨_, rfl⟩
            have y1 : IntKind.i64.wrap ((til : Int) - (at_ : Int)) = (n : Int) := by rw [IntWalk.i64_in _ (by omega)]; omega
            have hn0 : 0 < n := by omega
            have hnt : at_ + n ≤ til := by omega
            clear hn
            go_upto_if 61 with fail
            go_cut [12] (fun s12 wx => ∃ m : Nat, s12 = .int .i64 (m : Int) ∧ 0 < m ∧ m ≤ n ∧ wr = wx)
            case first =>
              by_cases hkM : k < M
              · have f1 : (k : Int) < (M : Int) := by omega
                have f2 : decide ((k : Int) < (M : Int)) = true := decide_eq_true f1
                have f3 : decide (k < M) = true := decide_eq_true hkM
                obtain ⟨c, hck⟩ : ∃ c, cuts[k]? = some c := ⟨_, List.getElem?_eq_getElem (by rw [HM.out]; exact hkM)⟩
                obtain ⟨b5, o5, e5, _, _, hrow⟩ := row_at (HXB.out.below (HB3.out.trans (HW.out.bel.mono HB3.out.size))) hck
                cases e5
                have d0 := hrow 0 _ rfl
                rw [Nat.add_zero, Nat.mul_one] at d0
                obtain ⟨cn, hcn⟩ : ∃ z, c.toNat = z := ⟨_, rfl⟩
                have hcl : cn < 256 := by have := c.toNat_lt; omega
                rw [hcn] at d0
                clear hrow hck hcn
                have z1 : IntKind.i64.wrap (cn : Int) = (cn : Int) := IntWalk.i64_in _ (by omega)
                obtain ⟨r, hr'⟩ : ∃ z, cn % 20 = z := ⟨_, rfl⟩
                have z2 : Int.tmod (cn : Int) 20 = (r : Int) := by rw [Int.tmod_eq_emod_of_nonneg (by omega)]; omega
                have z3 : (cn : Int) % 20 = (r : Int) := by omega
                have z4 : IntKind.i64.wrap ((r : Int) + 1) = (r : Int) + 1 := IntWalk.i64_in _ (by omega)
                obtain ⟨m, hm'⟩ : ∃ z, min n (r + 1) = z := ⟨_, rfl⟩
                have z5 : min (n : Int) ((r : Int) + 1) = (m : Int) := by omega
                have z6 : 0 < m ∧ m ≤ n := by omega
                clear hr' hm'
                go_wp2_with fail
                go_meet
                exact ⟨m, rfl, z6.1, z6.2, rfl⟩
              · have f1 : ¬ (k : Int) < (M : Int) := by omega
                have f2 : decide ((k : Int) < (M : Int)) = false := decide_eq_false f1
                have f3 : decide (k < M) = false := decide_eq_false hkM
                go_wp2_with fail
                go_meet
                exact ⟨n, rfl, hn0, Nat.le_refl _, rfl⟩
            case rest =>
              obtain ⟨m, rfl, hm0, hmn, rfl⟩ := hcut
              have w1' : IntKind.i64.wrap ((5 : Int) + (k : Int)) = 5 + (k : Int) := IntWalk.i64_in _ (by omega)
              have w2' : IntKind.i64.wrap ((at_ : Int) + (m : Int)) = (at_ : Int) + (m : Int) := IntWalk.i64_in _ (by omega)
              obtain ⟨bb, ob, huv, _⟩ : ∃ (x y : Nat), ua = some ⟨x, y, none⟩ ∧ True := by
                rcases HXA.out with ⟨h9, _⟩ | ⟨x, y, c, h9, _⟩
                · have := HL.out; rw [h9] at this; simp at this; omega
                · cases h9; exact ⟨x, y, rfl, trivial⟩
              subst huv
              have i1 : (0 : Int) ≤ (at_ : Int) := by omega
              have i2 : (at_ : Int) ≤ (at_ : Int) + (m : Int) := by omega
              have i3 : (at_ : Int) + (m : Int) ≤ (uc : Int) := by omega
              have i4 : (at_ : Int).toNat = at_ := by omega
              have i5 : ((at_ : Int) + (m : Int)).toNat = at_ + m := by omega
              have i6 : at_ + m - at_ = m := by omega
              have i7 : ¬ uc = at_ := by omega
              have i8 : ((at_ : Int) + (m : Int) - (at_ : Int)).toNat = m := by omega
              have i9 : ((at_ : Int) + (m : Int) - (at_ : Int)) = (m : Int) := by omega
              go_upto_region 14 with fail
              have HWD := Lib.hid (HW.out.older (Below.refl _ _).drew)
              refine wp_region_held_drew (S := (fun _ => True)) (by kernel_rfl) (by trivial) (fun hHeld => ?_)
              obtain ⟨wd, hwd⟩ : ∃ z, wr.drew = z := ⟨_, rfl⟩
              rw [hwd] at HWD ⊢
              clear hwd
              have HBz := Lib.hid (Below.refl wd.heap.size wd)
              have c9 := HWD.out.box.cell (i := 9) rfl
              have hz9 := HWD.out.box.lt
              refine Hd.tk 0 ?_
              try simp only [Act.put, List.setIfInBounds_toArray, List.set_cons_zero, List.set_cons_succ]
              refine Hd.tk 2 ?_
              try simp only [Act.put, List.setIfInBounds_toArray, List.set_cons_zero, List.set_cons_succ]
              refine Hd.tk 3 ?_
              try simp only [Act.put, List.setIfInBounds_toArray, List.set_cons_zero, List.set_cons_succ]
              refine Hd.tk 4 ?_
              try simp only [Act.put, List.setIfInBounds_toArray, List.set_cons_zero, List.set_cons_succ]
              refine Hd.tk 6 ?_
              try simp only [Act.put, List.setIfInBounds_toArray, List.set_cons_zero, List.set_cons_succ]
              refine Hd.tk 7 ?_
              try simp only [Act.put, List.setIfInBounds_toArray, List.set_cons_zero, List.set_cons_succ]
              refine Hd.tk 8 ?_
              try simp only [Act.put, List.setIfInBounds_toArray, List.set_cons_zero, List.set_cons_succ]
              refine Hd.tk 9 ?_
              try simp only [Act.put, List.setIfInBounds_toArray, List.set_cons_zero, List.set_cons_succ]
              refine Hd.tk 10 ?_
              try simp only [Act.put, List.setIfInBounds_toArray, List.set_cons_zero, List.set_cons_succ]
              refine Hd.tk 11 ?_
              try simp only [Act.put, List.setIfInBounds_toArray, List.set_cons_zero, List.set_cons_succ]
              refine wpAnyH_ready (rs := [1, 5]) (by kernel_rfl) (by simp) (AllReadyH.cons (by simp only [List.getElem?_toArray, List.getElem?_cons_succ, List.getElem?_cons_zero]; rfl) (fun K hK => ?_) (AllReadyH.cons (by simp only [List.getElem?_toArray, List.getElem?_cons_succ, List.getElem?_cons_zero]; rfl) (fun K hK => ?_) AllReadyH.nil))
              · go_simp
                refine hK.out _ _ (by trivial) (fun hHe0 => ?_)
                clear hK K
                try simp only [Act.put, List.setIfInBounds_toArray, List.set_cons_zero, List.set_cons_succ]
                refine wpAnyH_ready (rs := [5]) (by kernel_rfl) (by simp) (AllReadyH.cons (by simp only [List.getElem?_toArray, List.getElem?_cons_succ, List.getElem?_cons_zero]; rfl) (fun K hK => ?_) AllReadyH.nil)
                go_simp
                have HO0 := Lib.hid (show OwnWin (wd.alloc (.cells #[] 5)) wd.heap.size 5 1 (.slice (some ⟨wd.heap.size, 0, none⟩) 0 0) 0 [] from ownK_empty (heap_alloc_new wd _) (Nat.le_refl _))
                have HBa := Lib.hid ((Below.refl wd.heap.size wd).alloc (Nat.le_refl _) (.cells #[] 5))
                obtain ⟨wa, hwa⟩ : ∃ z, wd.alloc (.cells #[] 5) = z := ⟨_, rfl⟩
                rw [hwa] at HO0 HBa ⊢
                clear hwa c9 hz9
                have c9 := (HWD.out.older HBa.out).box.cell (i := 9) rfl
                have hz9 := (HWD.out.older HBa.out).box.lt
                refine hK.out _ _ (by trivial) (fun hHe1 => ?_)
                clear hK K
                try simp only [Act.put, List.setIfInBounds_toArray, List.set_cons_zero, List.set_cons_succ]
                refine wpAnyH_ready (rs := [12]) (by kernel_rfl) (by simp) (AllReadyH.cons (by simp only [List.getElem?_toArray, List.getElem?_cons_succ, List.getElem?_cons_zero]; rfl) (fun K hK => ?_) AllReadyH.nil)
                refine step_appw tyBytes (by rfl) _ _ (by rfl) wd.heap.size (.slice (some ⟨wd.heap.size, 0, none⟩) 0 0) 0 [] (by rfl) HO0.out HBa.out.size (.slice (some ⟨bb, ob + at_, none⟩) m (uc - at_)) m (bvals ((body.drop at_).take m)) (by rfl) (bytes_mid (HXA.out.below (HB3.out.trans ((HWD.out.older HBa.out).bel.mono HB3.out.size))) (by rw [HL.out]; omega)) (by rw [bvals_len, List.length_take, List.length_drop, HL.out]; omega) (bvals_one _) (by omega) ?_
                intro v6 w6 ho hg hl
                rw [Nat.zero_add, List.nil_append] at ho
                have HBb := Lib.hid (HBa.out.grown hg HBa.out.size (fun q hq => (HO0.out.lt q hq).1))
                obtain ⟨ud, cd, rfl, _⟩ := ho.form
                have HD6 := Lib.hid (ho.mono (fun q hq => Nat.le_trans HWD.out.bel.size (ho.lt q hq).1))
                clear ho hg hl HO0 HBa c9 hz9
                have c9 := (HWD.out.older HBb.out).box.cell (i := 9) rfl
                have hz9 := (HWD.out.older HBb.out).box.lt
                refine hK.out _ _ (by trivial) (fun hHe2 => ?_)
                clear hK K
                try simp only [Act.put, List.setIfInBounds_toArray, List.set_cons_zero, List.set_cons_succ]
                refine Hd.tk 13 ?_
                try simp only [Act.put, List.setIfInBounds_toArray, List.set_cons_zero, List.set_cons_succ]
                refine wpAnyH_ready (rs := [14]) (by kernel_rfl) (by simp) (AllReadyH.cons (by simp only [List.getElem?_toArray, List.getElem?_cons_succ, List.getElem?_cons_zero]; rfl) (fun K hK => ?_) AllReadyH.nil)
                go_simp
                have HBc := Lib.hid (HBb.out.alloc HBb.out.size (.cells #[.int .i64 (5 + (k : Int)), .int .i64 (at_ : Int), .slice ud m cd] 88))
                have HD7 := Lib.hid (HD6.out.older ((Below.refl _ _).alloc (Nat.le_refl _) (.cells #[.int .i64 (5 + (k : Int)), .int .i64 (at_ : Int), .slice ud m cd] 88)))
                have HP7 := Lib.hid (Bx.new w6 88 #[.int .i64 (5 + (k : Int)), .int .i64 (at_ : Int), .slice ud m cd])
                obtain ⟨w7, hw7⟩ : ∃ z, w6.alloc (.cells #[.int .i64 (5 + (k : Int)), .int .i64 (at_ : Int), .slice ud m cd] 88) = z := ⟨_, rfl⟩
                obtain ⟨g7, hg7⟩ : ∃ z, w6.heap.size = z := ⟨_, rfl⟩
                rw [hw7] at HBc HD7 HP7 ⊢
                rw [hg7] at HP7 ⊢
                clear hw7 hg7 HBb HD6 c9 hz9
                have c9 := (HWD.out.older HBc.out).box.cell (i := 9) rfl
                have hz9 := (HWD.out.older HBc.out).box.lt
                refine hK.out _ _ (by trivial) (fun hHe3 => ?_)
                clear hK K
                try simp only [Act.put, List.setIfInBounds_toArray, List.set_cons_zero, List.set_cons_succ]
                refine wpAnyH_ready (rs := [15]) (by kernel_rfl) (by simp) (AllReadyH.cons (by simp only [List.getElem?_toArray, List.getElem?_cons_succ, List.getElem?_cons_zero]; rfl) (fun K hK => ?_) AllReadyH.nil)
                have HW7 := Lib.hid (HWD.out.older HBc.out)
                refine step_appB tyPart (by rfl) _ _ (by rfl) w3.heap.size (.slice pa l.length pc) l.length _ (by rfl) HW7.out.own HW7.out.bel.size (.slice (some ⟨g7, 0, none⟩) 1 1) 1 [.int .i64 (5 + (k : Int)), .int .i64 (at_ : Int), .slice ud m cd] (by rfl) (src_cells HP7.out) (by rfl) (by simp [Value.oneCell']) (by have := HKL.out; omega) ?_
                intro v8 w8 ho hg hl
                have e7 : ((body.drop at_).take m).length = m := by rw [List.length_take, List.length_drop, HL.out]; omega
                have hd7 : OwnWin w7 w3.heap.size 5 1 (.slice ud m cd) ((body.drop at_).take m).length (bvals ((body.drop at_).take m)) := by rw [e7]; exact HD7.out
                have HW9 := Lib.hid (HW7.out.add (x := (⟨5 + (k : Int), (at_ : Int), .slice ud m cd, (body.drop at_).take m⟩ : PartM)) ho hg hd7 ⟨by show ((body.drop at_).take m).length ≤ 500; omega, by show 0 ≤ 5 + (k : Int); omega, by show 5 + (k : Int) ≤ 1000; omega⟩)
                clear hd7 e7
                have ht8 := Touch.of_grown (S := fun q => (Value.slice pa l.length pc).ownBlock = some q) hg (fun k hk => hk)
                have hb8 := HW7.out.box.touch ht8 (fun hq => HW7.out.box.neOwn HW7.out.own (by decide) _ hq rfl)
                obtain ⟨u8, t8, rfl, _⟩ := ho.form
                clear ho hg hl ht8 c9 hz9 HBc
                have c9 := hb8.cell (i := 9) rfl
                have f9 := hb8.frz 9
                have hz9 := hb8.lt
                clear hb8
                refine hK.out _ _ (by trivial) (fun hHe4 => ?_)
                clear hK K
                try simp only [Act.put, List.setIfInBounds_toArray, List.set_cons_zero, List.set_cons_succ]
                refine Hd.tk 16 ?_
                try simp only [Act.put, List.setIfInBounds_toArray, List.set_cons_zero, List.set_cons_succ]
                refine wpAnyH_ready (rs := [17]) (by kernel_rfl) (by simp) (AllReadyH.cons (by simp only [List.getElem?_toArray, List.getElem?_cons_succ, List.getElem?_cons_zero]; rfl) (fun K hK => ?_) AllReadyH.nil)
                go_simp
                refine hK.out _ _ (by trivial) (fun hHe5 => ?_)
                clear hK K
                try simp only [Act.put, List.setIfInBounds_toArray, List.set_cons_zero, List.set_cons_succ]
                refine wpAnyH_done (by kernel_rfl) ?_ _
                go_wp2_with fail
                go_roundg (gk - 1)
                case rel => exact ⟨k + 1, at_ + m, _, l ++ [(⟨5 + (k : Int), (at_ : Int), .slice ud m cd, (body.drop at_).take m⟩ : PartM)], by go_num, by go_num, Lib.hid (by have := HQ.out; omega), by omega, by omega, by omega, Lib.hid (by have := HK.out; simp; exact this), Lib.hid (built_push HBP.out hm0 (by omega) (by rw [HL.out]; exact htl) rfl rfl), HW9⟩
                case measure => have := HQ.out; have := HLT.out; omega
              · go_simp
                have HO0 := Lib.hid (show OwnWin (wd.alloc (.cells #[] 5)) wd.heap.size 5 1 (.slice (some ⟨wd.heap.size, 0, none⟩) 0 0) 0 [] from ownK_empty (heap_alloc_new wd _) (Nat.le_refl _))
                have HBa := Lib.hid ((Below.refl wd.heap.size wd).alloc (Nat.le_refl _) (.cells #[] 5))
                obtain ⟨wa, hwa⟩ : ∃ z, wd.alloc (.cells #[] 5) = z := ⟨_, rfl⟩
                rw [hwa] at HO0 HBa ⊢
                clear hwa c9 hz9
                have c9 := (HWD.out.older HBa.out).box.cell (i := 9) rfl
                have hz9 := (HWD.out.older HBa.out).box.lt
                refine hK.out _ _ (by trivial) (fun hHe0 => ?_)
                clear hK K
                try simp only [Act.put, List.setIfInBounds_toArray, List.set_cons_zero, List.set_cons_succ]
                refine wpAnyH_ready (rs := [1, 12]) (by kernel_rfl) (by simp) (AllReadyH.cons (by simp only [List.getElem?_toArray, List.getElem?_cons_succ, List.getElem?_cons_zero]; rfl) (fun K hK => ?_) (AllReadyH.cons (by simp only [List.getElem?_toArray, List.getElem?_cons_succ, List.getElem?_cons_zero]; rfl) (fun K hK => ?_) AllReadyH.nil))
                · go_simp
                  refine hK.out _ _ (by trivial) (fun hHe1 => ?_)
                  clear hK K
                  try simp only [Act.put, List.setIfInBounds_toArray, List.set_cons_zero, List.set_cons_succ]
                  refine wpAnyH_ready (rs := [12]) (by kernel_rfl) (by simp) (AllReadyH.cons (by simp only [List.getElem?_toArray, List.getElem?_cons_succ, List.getElem?_cons_zero]; rfl) (fun K hK => ?_) AllReadyH.nil)
                  refine step_appw tyBytes (by rfl) _ _ (by rfl) wd.heap.size (.slice (some ⟨wd.heap.size, 0, none⟩) 0 0) 0 [] (by rfl) HO0.out HBa.out.size (.slice (some ⟨bb, ob + at_, none⟩) m (uc - at_)) m (bvals ((body.drop at_).take m)) (by rfl) (bytes_mid (HXA.out.below (HB3.out.trans ((HWD.out.older HBa.out).bel.mono HB3.out.size))) (by rw [HL.out]; omega)) (by rw [bvals_len, List.length_take, List.length_drop, HL.out]; omega) (bvals_one _) (by omega) ?_
                  intro v6 w6 ho hg hl
                  rw [Nat.zero_add, List.nil_append] at ho
                  have HBb := Lib.hid (HBa.out.grown hg HBa.out.size (fun q hq => (HO0.out.lt q hq).1))
                  obtain ⟨ud, cd, rfl, _⟩ := ho.form
                  have HD6 := Lib.hid (ho.mono (fun q hq => Nat.le_trans HWD.out.bel.size (ho.lt q hq).1))
                  clear ho hg hl HO0 HBa c9 hz9
                  have c9 := (HWD.out.older HBb.out).box.cell (i := 9) rfl
                  have hz9 := (HWD.out.older HBb.out).box.lt
                  refine hK.out _ _ (by trivial) (fun hHe2 => ?_)
                  clear hK K
                  try simp only [Act.put, List.setIfInBounds_toArray, List.set_cons_zero, List.set_cons_succ]
                  refine Hd.tk 13 ?_
                  try simp only [Act.put, List.setIfInBounds_toArray, List.set_cons_zero, List.set_cons_succ]
                  refine wpAnyH_ready (rs := [14]) (by kernel_rfl) (by simp) (AllReadyH.cons (by simp only [List.getElem?_toArray, List.getElem?_cons_succ, List.getElem?_cons_zero]; rfl) (fun K hK => ?_) AllReadyH.nil)
                  go_simp
                  have HBc := Lib.hid (HBb.out.alloc HBb.out.size (.cells #[.int .i64 (5 + (k : Int)), .int .i64 (at_ : Int), .slice ud m cd] 88))
                  have HD7 := Lib.hid (HD6.out.older ((Below.refl _ _).alloc (Nat.le_refl _) (.cells #[.int .i64 (5 + (k : Int)), .int .i64 (at_ : Int), .slice ud m cd] 88)))
                  have HP7 := Lib.hid (Bx.new w6 88 #[.int .i64 (5 + (k : Int)), .int .i64 (at_ : Int), .slice ud m cd])
                  obtain ⟨w7, hw7⟩ : ∃ z, w6.alloc (.cells #[.int .i64 (5 + (k : Int)), .int .i64 (at_ : Int), .slice ud m cd] 88) = z := ⟨_, rfl⟩
                  obtain ⟨g7, hg7⟩ : ∃ z, w6.heap.size = z := ⟨_, rfl⟩
                  rw [hw7] at HBc HD7 HP7 ⊢
                  rw [hg7] at HP7 ⊢
                  clear hw7 hg7 HBb HD6 c9 hz9
                  have c9 := (HWD.out.older HBc.out).box.cell (i := 9) rfl
                  have hz9 := (HWD.out.older HBc.out).box.lt
                  refine hK.out _ _ (by trivial) (fun hHe3 => ?_)
                  clear hK K
                  try simp only [Act.put, List.setIfInBounds_toArray, List.set_cons_zero, List.set_cons_succ]
                  refine wpAnyH_ready (rs := [15]) (by kernel_rfl) (by simp) (AllReadyH.cons (by simp only [List.getElem?_toArray, List.getElem?_cons_succ, List.getElem?_cons_zero]; rfl) (fun K hK => ?_) AllReadyH.nil)
                  have HW7 := Lib.hid (HWD.out.older HBc.out)
                  refine step_appB tyPart (by rfl) _ _ (by rfl) w3.heap.size (.slice pa l.length pc) l.length _ (by rfl) HW7.out.own HW7.out.bel.size (.slice (some ⟨g7, 0, none⟩) 1 1) 1 [.int .i64 (5 + (k : Int)), .int .i64 (at_ : Int), .slice ud m cd] (by rfl) (src_cells HP7.out) (by rfl) (by simp [Value.oneCell']) (by have := HKL.out; omega) ?_
                  intro v8 w8 ho hg hl
                  have e7 : ((body.drop at_).take m).length = m := by rw [List.length_take, List.length_drop, HL.out]; omega
                  have hd7 : OwnWin w7 w3.heap.size 5 1 (.slice ud m cd) ((body.drop at_).take m).length (bvals ((body.drop at_).take m)) := by rw [e7]; exact HD7.out
                  have HW9 := Lib.hid (HW7.out.add (x := (⟨5 + (k : Int), (at_ : Int), .slice ud m cd, (body.drop at_).take m⟩ : PartM)) ho hg hd7 ⟨by show ((body.drop at_).take m).length ≤ 500; omega, by show 0 ≤ 5 + (k : Int); omega, by show 5 + (k : Int) ≤ 1000; omega⟩)
                  clear hd7 e7
                  have ht8 := Touch.of_grown (S := fun q => (Value.slice pa l.length pc).ownBlock = some q) hg (fun k hk => hk)
                  have hb8 := HW7.out.box.touch ht8 (fun hq => HW7.out.box.neOwn HW7.out.own (by decide) _ hq rfl)
                  obtain ⟨u8, t8, rfl, _⟩ := ho.form
                  clear ho hg hl ht8 c9 hz9 HBc
                  have c9 := hb8.cell (i := 9) rfl
                  have f9 := hb8.frz 9
                  have hz9 := hb8.lt
                  clear hb8
                  refine hK.out _ _ (by trivial) (fun hHe4 => ?_)
                  clear hK K
                  try simp only [Act.put, List.setIfInBounds_toArray, List.set_cons_zero, List.set_cons_succ]
                  refine Hd.tk 16 ?_
                  try simp only [Act.put, List.setIfInBounds_toArray, List.set_cons_zero, List.set_cons_succ]
                  refine wpAnyH_ready (rs := [17]) (by kernel_rfl) (by simp) (AllReadyH.cons (by simp only [List.getElem?_toArray, List.getElem?_cons_succ, List.getElem?_cons_zero]; rfl) (fun K hK => ?_) AllReadyH.nil)
                  go_simp
                  refine hK.out _ _ (by trivial) (fun hHe5 => ?_)
                  clear hK K
                  try simp only [Act.put, List.setIfInBounds_toArray, List.set_cons_zero, List.set_cons_succ]
                  refine wpAnyH_done (by kernel_rfl) ?_ _
                  go_wp2_with fail
                  go_roundg (gk - 1)
                  case rel => exact ⟨k + 1, at_ + m, _, l ++ [(⟨5 + (k : Int), (at_ : Int), .slice ud m cd, (body.drop at_).take m⟩ : PartM)], by go_num, by go_num, Lib.hid (by have := HQ.out; omega), by omega, by omega, by omega, Lib.hid (by have := HK.out; simp; exact this), Lib.hid (built_push HBP.out hm0 (by omega) (by rw [HL.out]; exact htl) rfl rfl), HW9⟩
                  case measure => have := HQ.out; have := HLT.out; omega
                · refine step_appw tyBytes (by rfl) _ _ (by rfl) wd.heap.size (.slice (some ⟨wd.heap.size, 0, none⟩) 0 0) 0 [] (by rfl) HO0.out HBa.out.size (.slice (some ⟨bb, ob + at_, none⟩) m (uc - at_)) m (bvals ((body.drop at_).take m)) (by rfl) (bytes_mid (HXA.out.below (HB3.out.trans ((HWD.out.older HBa.out).bel.mono HB3.out.size))) (by rw [HL.out]; omega)) (by rw [bvals_len, List.length_take, List.length_drop, HL.out]; omega) (bvals_one _) (by omega) ?_
                  intro v6 w6 ho hg hl
                  rw [Nat.zero_add, List.nil_append] at ho
                  have HBb := Lib.hid (HBa.out.grown hg HBa.out.size (fun q hq => (HO0.out.lt q hq).1))
                  obtain ⟨ud, cd, rfl, _⟩ := ho.form
                  have HD6 := Lib.hid (ho.mono (fun q hq => Nat.le_trans HWD.out.bel.size (ho.lt q hq).1))
                  clear ho hg hl HO0 HBa c9 hz9
                  have c9 := (HWD.out.older HBb.out).box.cell (i := 9) rfl
                  have hz9 := (HWD.out.older HBb.out).box.lt
                  refine hK.out _ _ (by trivial) (fun hHe1 => ?_)
                  clear hK K
                  try simp only [Act.put, List.setIfInBounds_toArray, List.set_cons_zero, List.set_cons_succ]
                  refine Hd.tk 13 ?_
                  try simp only [Act.put, List.setIfInBounds_toArray, List.set_cons_zero, List.set_cons_succ]
                  refine wpAnyH_ready (rs := [1, 14]) (by kernel_rfl) (by simp) (AllReadyH.cons (by simp only [List.getElem?_toArray, List.getElem?_cons_succ, List.getElem?_cons_zero]; rfl) (fun K hK => ?_) (AllReadyH.cons (by simp only [List.getElem?_toArray, List.getElem?_cons_succ, List.getElem?_cons_zero]; rfl) (fun K hK => ?_) AllReadyH.nil))
                  · go_simp
                    refine hK.out _ _ (by trivial) (fun hHe2 => ?_)
                    clear hK K
                    try simp only [Act.put, List.setIfInBounds_toArray, List.set_cons_zero, List.set_cons_succ]
                    refine wpAnyH_ready (rs := [14]) (by kernel_rfl) (by simp) (AllReadyH.cons (by simp only [List.getElem?_toArray, List.getElem?_cons_succ, List.getElem?_cons_zero]; rfl) (fun K hK => ?_) AllReadyH.nil)
                    go_simp
                    have HBc := Lib.hid (HBb.out.alloc HBb.out.size (.cells #[.int .i64 (5 + (k : Int)), .int .i64 (at_ : Int), .slice ud m cd] 88))
                    have HD7 := Lib.hid (HD6.out.older ((Below.refl _ _).alloc (Nat.le_refl _) (.cells #[.int .i64 (5 + (k : Int)), .int .i64 (at_ : Int), .slice ud m cd] 88)))
                    have HP7 := Lib.hid (Bx.new w6 88 #[.int .i64 (5 + (k : Int)), .int .i64 (at_ : Int), .slice ud m cd])
                    obtain ⟨w7, hw7⟩ : ∃ z, w6.alloc (.cells #[.int .i64 (5 + (k : Int)), .int .i64 (at_ : Int), .slice ud m cd] 88) = z := ⟨_, rfl⟩
                    obtain ⟨g7, hg7⟩ : ∃ z, w6.heap.size = z := ⟨_, rfl⟩
                    rw [hw7] at HBc HD7 HP7 ⊢
                    rw [hg7] at HP7 ⊢
                    clear hw7 hg7 HBb HD6 c9 hz9
                    have c9 := (HWD.out.older HBc.out).box.cell (i := 9) rfl
                    have hz9 := (HWD.out.older HBc.out).box.lt
                    refine hK.out _ _ (by trivial) (fun hHe3 => ?_)
                    clear hK K
                    try simp only [Act.put, List.setIfInBounds_toArray, List.set_cons_zero, List.set_cons_succ]
                    refine wpAnyH_ready (rs := [15]) (by kernel_rfl) (by simp) (AllReadyH.cons (by simp only [List.getElem?_toArray, List.getElem?_cons_succ, List.getElem?_cons_zero]; rfl) (fun K hK => ?_) AllReadyH.nil)
                    have HW7 := Lib.hid (HWD.out.older HBc.out)
                    refine step_appB tyPart (by rfl) _ _ (by rfl) w3.heap.size (.slice pa l.length pc) l.length _ (by rfl) HW7.out.own HW7.out.bel.size (.slice (some ⟨g7, 0, none⟩) 1 1) 1 [.int .i64 (5 + (k : Int)), .int .i64 (at_ : Int), .slice ud m cd] (by rfl) (src_cells HP7.out) (by rfl) (by simp [Value.oneCell']) (by have := HKL.out; omega) ?_
                    intro v8 w8 ho hg hl
                    have e7 : ((body.drop at_).take m).length = m := by rw [List.length_take, List.length_drop, HL.out]; omega
                    have hd7 : OwnWin w7 w3.heap.size 5 1 (.slice ud m cd) ((body.drop at_).take m).length (bvals ((body.drop at_).take m)) := by rw [e7]; exact HD7.out
                    have HW9 := Lib.hid (HW7.out.add (x := (⟨5 + (k : Int), (at_ : Int), .slice ud m cd, (body.drop at_).take m⟩ : PartM)) ho hg hd7 ⟨by show ((body.drop at_).take m).length ≤ 500; omega, by show 0 ≤ 5 + (k : Int); omega, by show 5 + (k : Int) ≤ 1000; omega⟩)
                    clear hd7 e7
                    have ht8 := Touch.of_grown (S := fun q => (Value.slice pa l.length pc).ownBlock = some q) hg (fun k hk => hk)
                    have hb8 := HW7.out.box.touch ht8 (fun hq => HW7.out.box.neOwn HW7.out.own (by decide) _ hq rfl)
                    obtain ⟨u8, t8, rfl, _⟩ := ho.form
                    clear ho hg hl ht8 c9 hz9 HBc
                    have c9 := hb8.cell (i := 9) rfl
                    have f9 := hb8.frz 9
                    have hz9 := hb8.lt
                    clear hb8
                    refine hK.out _ _ (by trivial) (fun hHe4 => ?_)
                    clear hK K
                    try simp only [Act.put, List.setIfInBounds_toArray, List.set_cons_zero, List.set_cons_succ]
                    refine Hd.tk 16 ?_
                    try simp only [Act.put, List.setIfInBounds_toArray, List.set_cons_zero, List.set_cons_succ]
                    refine wpAnyH_ready (rs := [17]) (by kernel_rfl) (by simp) (AllReadyH.cons (by simp only [List.getElem?_toArray, List.getElem?_cons_succ, List.getElem?_cons_zero]; rfl) (fun K hK => ?_) AllReadyH.nil)
                    go_simp
                    refine hK.out _ _ (by trivial) (fun hHe5 => ?_)
                    clear hK K
                    try simp only [Act.put, List.setIfInBounds_toArray, List.set_cons_zero, List.set_cons_succ]
                    refine wpAnyH_done (by kernel_rfl) ?_ _
                    go_wp2_with fail
                    go_roundg (gk - 1)
                    case rel => exact ⟨k + 1, at_ + m, _, l ++ [(⟨5 + (k : Int), (at_ : Int), .slice ud m cd, (body.drop at_).take m⟩ : PartM)], by go_num, by go_num, Lib.hid (by have := HQ.out; omega), by omega, by omega, by omega, Lib.hid (by have := HK.out; simp; exact this), Lib.hid (built_push HBP.out hm0 (by omega) (by rw [HL.out]; exact htl) rfl rfl), HW9⟩
                    case measure => have := HQ.out; have := HLT.out; omega
                  · go_simp
                    have HBc := Lib.hid (HBb.out.alloc HBb.out.size (.cells #[.int .i64 (5 + (k : Int)), .int .i64 (at_ : Int), .slice ud m cd] 88))
                    have HD7 := Lib.hid (HD6.out.older ((Below.refl _ _).alloc (Nat.le_refl _) (.cells #[.int .i64 (5 + (k : Int)), .int .i64 (at_ : Int), .slice ud m cd] 88)))
                    have HP7 := Lib.hid (Bx.new w6 88 #[.int .i64 (5 + (k : Int)), .int .i64 (at_ : Int), .slice ud m cd])
                    obtain ⟨w7, hw7⟩ : ∃ z, w6.alloc (.cells #[.int .i64 (5 + (k : Int)), .int .i64 (at_ : Int), .slice ud m cd] 88) = z := ⟨_, rfl⟩
                    obtain ⟨g7, hg7⟩ : ∃ z, w6.heap.size = z := ⟨_, rfl⟩
                    rw [hw7] at HBc HD7 HP7 ⊢
                    rw [hg7] at HP7 ⊢
                    clear hw7 hg7 HBb HD6 c9 hz9
                    have c9 := (HWD.out.older HBc.out).box.cell (i := 9) rfl
                    have hz9 := (HWD.out.older HBc.out).box.lt
                    refine hK.out _ _ (by trivial) (fun hHe2 => ?_)
                    clear hK K
                    try simp only [Act.put, List.setIfInBounds_toArray, List.set_cons_zero, List.set_cons_succ]
                    refine wpAnyH_ready (rs := [1]) (by kernel_rfl) (by simp) (AllReadyH.cons (by simp only [List.getElem?_toArray, List.getElem?_cons_succ, List.getElem?_cons_zero]; rfl) (fun K hK => ?_) AllReadyH.nil)
                    go_simp
                    refine hK.out _ _ (by trivial) (fun hHe3 => ?_)
                    clear hK K
                    try simp only [Act.put, List.setIfInBounds_toArray, List.set_cons_zero, List.set_cons_succ]
                    refine wpAnyH_ready (rs := [15]) (by kernel_rfl) (by simp) (AllReadyH.cons (by simp only [List.getElem?_toArray, List.getElem?_cons_succ, List.getElem?_cons_zero]; rfl) (fun K hK => ?_) AllReadyH.nil)
                    have HW7 := Lib.hid (HWD.out.older HBc.out)
                    refine step_appB tyPart (by rfl) _ _ (by rfl) w3.heap.size (.slice pa l.length pc) l.length _ (by rfl) HW7.out.own HW7.out.bel.size (.slice (some ⟨g7, 0, none⟩) 1 1) 1 [.int .i64 (5 + (k : Int)), .int .i64 (at_ : Int), .slice ud m cd] (by rfl) (src_cells HP7.out) (by rfl) (by simp [Value.oneCell']) (by have := HKL.out; omega) ?_
                    intro v8 w8 ho hg hl
                    have e7 : ((body.drop at_).take m).length = m := by rw [List.length_take, List.length_drop, HL.out]; omega
                    have hd7 : OwnWin w7 w3.heap.size 5 1 (.slice ud m cd) ((body.drop at_).take m).length (bvals ((body.drop at_).take m)) := by rw [e7]; exact HD7.out
                    have HW9 := Lib.hid (HW7.out.add (x := (⟨5 + (k : Int), (at_ : Int), .slice ud m cd, (body.drop at_).take m⟩ : PartM)) ho hg hd7 ⟨by show ((body.drop at_).take m).length ≤ 500; omega, by show 0 ≤ 5 + (k : Int); omega, by show 5 + (k : Int) ≤ 1000; omega⟩)
                    clear hd7 e7
                    have ht8 := Touch.of_grown (S := fun q => (Value.slice pa l.length pc).ownBlock = some q) hg (fun k hk => hk)
                    have hb8 := HW7.out.box.touch ht8 (fun hq => HW7.out.box.neOwn HW7.out.own (by decide) _ hq rfl)
                    obtain ⟨u8, t8, rfl, _⟩ := ho.form
                    clear ho hg hl ht8 c9 hz9 HBc
                    have c9 := hb8.cell (i := 9) rfl
                    have f9 := hb8.frz 9
                    have hz9 := hb8.lt
                    clear hb8
                    refine hK.out _ _ (by trivial) (fun hHe4 => ?_)
                    clear hK K
                    try simp only [Act.put, List.setIfInBounds_toArray, List.set_cons_zero, List.set_cons_succ]
                    refine Hd.tk 16 ?_
                    try simp only [Act.put, List.setIfInBounds_toArray, List.set_cons_zero, List.set_cons_succ]
                    refine wpAnyH_ready (rs := [17]) (by kernel_rfl) (by simp) (AllReadyH.cons (by simp only [List.getElem?_toArray, List.getElem?_cons_succ, List.getElem?_cons_zero]; rfl) (fun K hK => ?_) AllReadyH.nil)
                    go_simp
                    refine hK.out _ _ (by trivial) (fun hHe5 => ?_)
                    clear hK K
                    try simp only [Act.put, List.setIfInBounds_toArray, List.set_cons_zero, List.set_cons_succ]
                    refine wpAnyH_done (by kernel_rfl) ?_ _
                    go_wp2_with fail
                    go_roundg (gk - 1)
                    case rel => exact ⟨k + 1, at_ + m, _, l ++ [(⟨5 + (k : Int), (at_ : Int), .slice ud m cd, (body.drop at_).take m⟩ : PartM)], by go_num, by go_num, Lib.hid (by have := HQ.out; omega), by omega, by omega, by omega, Lib.hid (by have := HK.out; simp; exact this), Lib.hid (built_push HBP.out hm0 (by omega) (by rw [HL.out]; exact htl) rfl rfl), HW9⟩
                    case measure => have := HQ.out; have := HLT.out; omega
          · have hae : at_ = til := by omega
            obtain rfl : til = at_ := by omega
            rw [HK.out] at HW
            have c0 := HW.out.box.cell (i := 0) rfl
            have c1 := HW.out.box.cell (i := 1) rfl
            have c2 := HW.out.box.cell (i := 2) rfl
            have c3 := HW.out.box.cell (i := 3) rfl
            have c4 := HW.out.box.cell (i := 4) rfl
            have c5 := HW.out.box.cell (i := 5) rfl
            have c6 := HW.out.box.cell (i := 6) rfl
            have c7 := HW.out.box.cell (i := 7) rfl
            have c8 := HW.out.box.cell (i := 8) rfl
            have c9 := HW.out.box.cell (i := 9) rfl
            have c10 := HW.out.box.cell (i := 10) rfl
            have hz1 := HW.out.box.lt
            have HXA' := Lib.hid (show RowsV Sg.byteC 1 w (.slice ua L uc) body from HXA.out)
            go_upto_region 17 with fail
            have HX0 : Hid (WholeX w3 (((wr.alloc (.cells #[.int .i64 1, .int .i64 10, .string ⟨#[97, 46, 101, 120, 97, 109, 112, 108, 101, 47, 120]⟩, .string ⟨#[49]⟩, .slice ua L uc] 86)).alloc (.cells #[.string ⟨#[]⟩, .string ⟨#[97, 46, 101, 120, 97, 109, 112, 108, 101, 47, 120]⟩, .string ⟨#[49]⟩, .int .i64 0, .int .i64 5, .int .i64 5, .int .i64 (fr : Int), .int .i64 (til : Int), .slice none 0 0, .slice pa k pc, .bool true] 82)).alloc (.cells #[.slice (some ⟨wr.heap.size, 0, none⟩) 1 1, .slice none 0 0, .slice (some ⟨wr.heap.size + 1, 0, none⟩) 1 1, .slice none 0 0, .slice none 0 0, .int .i64 0, .int .i64 0] 69)) b1 wr.heap.size (wr.heap.size + 1) (wr.heap.size + 1 + 1) #[.string ⟨#[]⟩, .string ⟨#[97, 46, 101, 120, 97, 109, 112, 108, 101, 47, 120]⟩, .string ⟨#[49]⟩, .int .i64 0, .int .i64 5, .int .i64 5, .int .i64 (fr : Int), .int .i64 (til : Int), .slice none 0 0, .slice pa k pc, .bool true] #[.int .i64 1, .int .i64 10, .string ⟨#[97, 46, 101, 120, 97, 109, 112, 108, 101, 47, 120]⟩, .string ⟨#[49]⟩, .slice ua L uc] #[.string ⟨#[]⟩, .string ⟨#[97, 46, 101, 120, 97, 109, 112, 108, 101, 47, 120]⟩, .string ⟨#[49]⟩, .int .i64 0, .int .i64 5, .int .i64 5, .int .i64 (fr : Int), .int .i64 (til : Int), .slice none 0 0, .slice pa k pc, .bool true] (.slice pa k pc) l) := Lib.hid ⟨HW.out.older ((((Below.refl wr.heap.size wr).alloc (Nat.le_refl _) (.cells #[.int .i64 1, .int .i64 10, .string ⟨#[97, 46, 101, 120, 97, 109, 112, 108, 101, 47, 120]⟩, .string ⟨#[49]⟩, .slice ua L uc] 86)).alloc (by simp) (.cells #[.string ⟨#[]⟩, .string ⟨#[97, 46, 101, 120, 97, 109, 112, 108, 101, 47, 120]⟩, .string ⟨#[49]⟩, .int .i64 0, .int .i64 5, .int .i64 5, .int .i64 (fr : Int), .int .i64 (til : Int), .slice none 0 0, .slice pa k pc, .bool true] 82)).alloc (by simp; omega) (.cells #[.slice (some ⟨wr.heap.size, 0, none⟩) 1 1, .slice none 0 0, .slice (some ⟨wr.heap.size + 1, 0, none⟩) 1 1, .slice none 0 0, .slice none 0 0, .int .i64 0, .int .i64 0] 69)), bx_allocH (bx_allocH (Bx.new wr 86 #[.int .i64 1, .int .i64 10, .string ⟨#[97, 46, 101, 120, 97, 109, 112, 108, 101, 47, 120]⟩, .string ⟨#[49]⟩, .slice ua L uc]) _) _, bx_allocH (bx_newH (by simp)) _, bx_newH (by simp), by omega, by have := HW.out.bel.size; omega⟩
            obtain ⟨w5, hw5⟩ : ∃ z, (((wr.alloc (.cells #[.int .i64 1, .int .i64 10, .string ⟨#[97, 46, 101, 120, 97, 109, 112, 108, 101, 47, 120]⟩, .string ⟨#[49]⟩, .slice ua L uc] 86)).alloc (.cells #[.string ⟨#[]⟩, .string ⟨#[97, 46, 101, 120, 97, 109, 112, 108, 101, 47, 120]⟩, .string ⟨#[49]⟩, .int .i64 0, .int .i64 5, .int .i64 5, .int .i64 (fr : Int), .int .i64 (til : Int), .slice none 0 0, .slice pa k pc, .bool true] 82)).alloc (.cells #[.slice (some ⟨wr.heap.size, 0, none⟩) 1 1, .slice none 0 0, .slice (some ⟨wr.heap.size + 1, 0, none⟩) 1 1, .slice none 0 0, .slice none 0 0, .int .i64 0, .int .i64 0] 69)) = z := ⟨_, rfl⟩
            rw [hw5] at HX0 ⊢
            obtain ⟨bp, hbp⟩ : ∃ z, wr.heap.size = z := ⟨_, rfl⟩
            rw [hbp] at HX0 ⊢
            clear hw5 hbp hz1 HW c0 c1 c2 c3 c4 c5 c6 c7 c8 c9 c10
            have g0 := HX0.out.his.cell (i := 0) rfl
            have g1 := HX0.out.his.cell (i := 1) rfl
            have g2 := HX0.out.his.cell (i := 2) rfl
            have g3 := HX0.out.his.cell (i := 3) rfl
            have g4 := HX0.out.his.cell (i := 4) rfl
            have g5 := HX0.out.his.cell (i := 5) rfl
            have g6 := HX0.out.his.cell (i := 6) rfl
            go_wp2_with fail
            refine (Hy.check_any (oneH (wP (.slice ua L uc) body) (wS fr til (.slice pa k pc) l true)) (.slice (some ⟨bp, 0, none⟩) 1 1) (.slice none 0 0) (.slice (some ⟨bp + 1, 0, none⟩) 1 1) (.slice none 0 0) (.slice none 0 0) 1000 _ (HRY.out.below (HB3.out.trans (HX0.out.low.bel.mono HB3.out.size))) (HPW.out.below (HB3.out.trans (HX0.out.low.bel.mono HB3.out.size))) (whole_at HX0.out (HXA'.out.below (HB3.out.trans (HX0.out.low.bel.mono HB3.out.size))) (by rw [HL.out]; exact h1) (rows_ownF HX0.out.low.own partR_len) (by have e1 := HKL.out; first | omega | (simp at e1 ⊢; omega) | simp) (fun z hz => hz)) (whole_small (fun z hz => (HX0.out.low.lim z ((fun z hz => hz) z hz)).2)) (by decide)).mono ?_
            rintro e wk1 ⟨vk1, rfl, hok, hbk⟩
            rw [whole_1 HBP.out hft (by rw [HL.out]; exact htl)] at hok
            obtain ⟨ak1, ck1, rfl, _⟩ := hok.form
            have HY1 := Lib.hid (HX0.out.older hbk)
            clear hok hbk g0 g1 g2 g3 g4 g5 g6
            simp only [List.length_nil]
            have c9 := HY1.out.low.box.cell (i := 9) rfl
            by_cases hk0 : k = 0
            · subst hk0
              go_wp2_with fail
              go_ret
              exact ⟨rfl, (HB3.out.trans (HY1.out.low.bel.mono HB3.out.size))⟩
            · have e1 : ¬ (k : Int) = 0 := by omega
              have e2 : ((k : Int) == 0) = false := by rw [beq_eq_false_iff_ne]; omega
              have e3 : (k == 0) = false := by rw [beq_eq_false_iff_ne]; omega
              obtain ⟨gp, op, cp, epv, _⟩ := own_some HY1.out.low.own (by rw [HK.out]; omega)
              obtain ⟨rfl, rfl⟩ : pa = some ⟨gp, op, none⟩ ∧ pc = cp := by cases epv; exact ⟨rfl, rfl⟩
              clear epv
              rcases HBP.out.last with ⟨hl9, _⟩ | ⟨l0, x, n, hll, hxo, hnt, hfn, hrn, hn0, hn1⟩
              · exfalso; have := HK.out; rw [hl9] at this; simp at this; omega
              · subst hll
                obtain ⟨m, hm⟩ : ∃ z, l0.length = z := ⟨_, rfl⟩
                have hkm : k = m + 1 := by have := HK.out; simp at this; omega
                have HM0 := Lib.hid hm
                have HXO := Lib.hid hxo
                have HRN := Lib.hid hrn
                have HN1 := Lib.hid hn1
                have HKM := Lib.hid hkm
                have hLX : (l0 ++ [x])[m]? = some x := by rw [← hm]; simp
                have HLX := Lib.hid hLX
                have htake : (l0 ++ [x]).take m = l0 := by rw [← hm]; simp
                have HTK := Lib.hid htake
                have HLL := Lib.hid htl
                clear htl
                have htl : til ≤ body.length := by rw [HL.out]; exact HLL.out
                have hmp : m < 1000 := by have := HKL.out; have := HK.out; omega
                clear hm hxo hrn hn0 hn1 hLX htake
                have y1 : IntKind.i64.wrap ((k : Int) - 1) = (m : Int) := by rw [IntWalk.i64_in _ (by omega)]; omega
                have hpc : k ≤ pc := by obtain ⟨_, _, h9, h8⟩ := HY1.out.low.own.form; cases h9; have := HK.out; omega
                have i1 : (0 : Int) ≤ (m : Int) := by omega
                have i2 : (m : Int) ≤ (k : Int) := by omega
                have i3 : (m : Int) ≤ (pc : Int) := by omega
                have i4 : (m : Int).toNat = m := by omega
                have i5 : (k : Int) ≤ (pc : Int) := by omega
                have i6 : ¬ pc = m := by omega
                have i7 : k - m = 1 := by omega
                have i8 : (k : Int) - (m : Int) = 1 := by omega
                have i9 : (m : Int) < (k : Int) := by omega
                have i10 : m < k := by omega
                clear hkm
                go_upto_region 22 with fail
                clear c9
                have q2 := HY1.out.his.cell (i := 2) rfl
                have q9 := HY1.out.low.box.cell (i := 9) rfl
                have HXd := Lib.hid (HY1.out.older (Below.refl _ _).drew)
                refine wp_region_held_drew (S := (fun w' => w'.cell? ⟨bp + 1 + 1, 2, none⟩ = some (.slice (some ⟨bp + 1, 0, none⟩) 1 1) ∧ w'.cell? ⟨b1, 9, none⟩ = some (.slice (some ⟨gp, op, none⟩) k pc))) (by kernel_rfl) (by exact ⟨q2, q9⟩) (fun hHeld => ?_)
                obtain ⟨wd, hwd⟩ : ∃ z, wk1.drew = z := ⟨_, rfl⟩
                rw [hwd] at HXd hHeld ⊢
                clear hwd
                have s9 := HXd.out.srv.cell (i := 9) rfl
                have f9 := HXd.out.srv.frz 9
                have hzs := HXd.out.srv.lt
                clear q2 q9
                refine Hd.tk 0 ?_
                try simp only [Act.put, List.setIfInBounds_toArray, List.set_cons_zero, List.set_cons_succ]
                refine Hd.tk 1 ?_
                try simp only [Act.put, List.setIfInBounds_toArray, List.set_cons_zero, List.set_cons_succ]
                refine Hd.tk 2 ?_
                try simp only [Act.put, List.setIfInBounds_toArray, List.set_cons_zero, List.set_cons_succ]
                refine Hd.tk 3 ?_
                try simp only [Act.put, List.setIfInBounds_toArray, List.set_cons_zero, List.set_cons_succ]
                refine Hd.tk 4 ?_
                try simp only [Act.put, List.setIfInBounds_toArray, List.set_cons_zero, List.set_cons_succ]
                refine Hd.tk 5 ?_
                try simp only [Act.put, List.setIfInBounds_toArray, List.set_cons_zero, List.set_cons_succ]
                refine Hd.tk 6 ?_
                try simp only [Act.put, List.setIfInBounds_toArray, List.set_cons_zero, List.set_cons_succ]
                refine Hd.tk 7 ?_
                try simp only [Act.put, List.setIfInBounds_toArray, List.set_cons_zero, List.set_cons_succ]
                refine wpAnyH_ready (rs := [8]) (by kernel_rfl) (by simp) (AllReadyH.cons (by simp only [List.getElem?_toArray, List.getElem?_cons_succ, List.getElem?_cons_zero]; rfl) (fun K hK => ?_) AllReadyH.nil)
                go_simp
                have HX2 : Hid (WholeX w3 (wd.setCell ⟨bp + 1, 9, none⟩ (.slice (some ⟨gp, op, none⟩) m pc)) b1 bp (bp + 1) (bp + 1 + 1) #[.string ⟨#[]⟩, .string ⟨#[97, 46, 101, 120, 97, 109, 112, 108, 101, 47, 120]⟩, .string ⟨#[49]⟩, .int .i64 0, .int .i64 5, .int .i64 5, .int .i64 (fr : Int), .int .i64 (til : Int), .slice none 0 0, .slice (some ⟨gp, op, none⟩) k pc, .bool true] #[.int .i64 1, .int .i64 10, .string ⟨#[97, 46, 101, 120, 97, 109, 112, 108, 101, 47, 120]⟩, .string ⟨#[49]⟩, .slice ua L uc] #[.string ⟨#[]⟩, .string ⟨#[97, 46, 101, 120, 97, 109, 112, 108, 101, 47, 120]⟩, .string ⟨#[49]⟩, .int .i64 0, .int .i64 5, .int .i64 5, .int .i64 (fr : Int), .int .i64 (til : Int), .slice none 0 0, .slice (some ⟨gp, op, none⟩) m pc, .bool true] (.slice (some ⟨gp, op, none⟩) k pc) (l0 ++ [x])) := Lib.hid (HXd.out.set 9 (.slice (some ⟨gp, op, none⟩) m pc))
                obtain ⟨ws2, hws⟩ : ∃ z, wd.setCell ⟨bp + 1, 9, none⟩ (.slice (some ⟨gp, op, none⟩) m pc) = z := ⟨_, rfl⟩
                rw [hws] at HX2 ⊢
                clear hws s9 f9 hzs HXd
                refine hK.out _ _ (by exact ⟨HX2.out.his.cell (i := 2) rfl, HX2.out.low.box.cell (i := 9) rfl⟩) (fun hHe0 => ?_)
                clear hK K
                try simp only [Act.put, List.setIfInBounds_toArray, List.set_cons_zero, List.set_cons_succ]
                refine wpAnyH_done (by kernel_rfl) ?_ _
                have g0 := HX2.out.his.cell (i := 0) rfl
                have g1 := HX2.out.his.cell (i := 1) rfl
                have g2 := HX2.out.his.cell (i := 2) rfl
                have g3 := HX2.out.his.cell (i := 3) rfl
                have g4 := HX2.out.his.cell (i := 4) rfl
                have g5 := HX2.out.his.cell (i := 5) rfl
                have g6 := HX2.out.his.cell (i := 6) rfl
                go_wp2_with fail
                refine (Hy.rule_any (oneH (wP (.slice ua L uc) body) (wS fr til (.slice (some ⟨gp, op, none⟩) m pc) l0 true)) (.slice (some ⟨bp, 0, none⟩) 1 1) (.slice none 0 0) (.slice (some ⟨bp + 1, 0, none⟩) 1 1) (.slice none 0 0) (.slice none 0 0) 1000 4 _ (HRY.out.below (HB3.out.trans (HX2.out.low.bel.mono HB3.out.size))) (HPW.out.below (HB3.out.trans (HX2.out.low.bel.mono HB3.out.size))) (whole_at HX2.out (HXA'.out.below (HB3.out.trans (HX2.out.low.bel.mono HB3.out.size))) (by rw [HL.out]; exact h1) (by have := rows_take (m := m) (by have := rows_ownF HX2.out.low.own partR_len; exact this) (by have := HK.out; omega); rw [HTK.out] at this; exact this) (by have e1 := HKL.out; first | omega | (simp at e1 ⊢; omega) | simp) (fun z hz => List.mem_append_left _ hz)) (whole_small (fun z hz => (HX2.out.low.lim z ((fun z hz => List.mem_append_left _ hz) z hz)).2)) (by decide)).mono ?_
                rintro e wk3 ⟨vk3, rfl, hok, hbk⟩
                rw [whole_2 hft htl HRN.out hnt] at hok
                obtain ⟨ak3, ck3, rfl, _⟩ := hok.form
                have HY3 := Lib.hid (HX2.out.older hbk)
                clear hok hbk g0 g1 g2 g3 g4 g5 g6
                simp only [List.length_singleton]
                have q2 := HY3.out.his.cell (i := 2) rfl
                have s10 := HY3.out.srv.cell (i := 10) rfl
                have f10 := HY3.out.srv.frz 10
                have hzs := HY3.out.srv.lt
                go_upto_region 26 with fail
                have HX4 : Hid (WholeX w3 (wk3.setCell ⟨bp + 1, 10, none⟩ (.bool false)) b1 bp (bp + 1) (bp + 1 + 1) #[.string ⟨#[]⟩, .string ⟨#[97, 46, 101, 120, 97, 109, 112, 108, 101, 47, 120]⟩, .string ⟨#[49]⟩, .int .i64 0, .int .i64 5, .int .i64 5, .int .i64 (fr : Int), .int .i64 (til : Int), .slice none 0 0, .slice (some ⟨gp, op, none⟩) k pc, .bool true] #[.int .i64 1, .int .i64 10, .string ⟨#[97, 46, 101, 120, 97, 109, 112, 108, 101, 47, 120]⟩, .string ⟨#[49]⟩, .slice ua L uc] #[.string ⟨#[]⟩, .string ⟨#[97, 46, 101, 120, 97, 109, 112, 108, 101, 47, 120]⟩, .string ⟨#[49]⟩, .int .i64 0, .int .i64 5, .int .i64 5, .int .i64 (fr : Int), .int .i64 (til : Int), .slice none 0 0, .slice (some ⟨gp, op, none⟩) m pc, .bool false] (.slice (some ⟨gp, op, none⟩) k pc) (l0 ++ [x])) := Lib.hid (HY3.out.set 10 (.bool false))
                obtain ⟨ws4, hws⟩ : ∃ z, wk3.setCell ⟨bp + 1, 10, none⟩ (.bool false) = z := ⟨_, rfl⟩
                rw [hws] at HX4 ⊢
                clear hws q2 s10 f10 hzs
                have g0 := HX4.out.his.cell (i := 0) rfl
                have g1 := HX4.out.his.cell (i := 1) rfl
                have g2 := HX4.out.his.cell (i := 2) rfl
                have g3 := HX4.out.his.cell (i := 3) rfl
                have g4 := HX4.out.his.cell (i := 4) rfl
                have g5 := HX4.out.his.cell (i := 5) rfl
                have g6 := HX4.out.his.cell (i := 6) rfl
                go_wp2_with fail
                refine (Hy.check_any (oneH (wP (.slice ua L uc) body) (wS fr til (.slice (some ⟨gp, op, none⟩) m pc) l0 false)) (.slice (some ⟨bp, 0, none⟩) 1 1) (.slice none 0 0) (.slice (some ⟨bp + 1, 0, none⟩) 1 1) (.slice none 0 0) (.slice none 0 0) 1000 _ (HRY.out.below (HB3.out.trans (HX4.out.low.bel.mono HB3.out.size))) (HPW.out.below (HB3.out.trans (HX4.out.low.bel.mono HB3.out.size))) (whole_at HX4.out (HXA'.out.below (HB3.out.trans (HX4.out.low.bel.mono HB3.out.size))) (by rw [HL.out]; exact h1) (by have := rows_take (m := m) (by have := rows_ownF HX4.out.low.own partR_len; exact this) (by have := HK.out; omega); rw [HTK.out] at this; exact this) (by have e1 := HKL.out; first | omega | (simp at e1 ⊢; omega) | simp) (fun z hz => List.mem_append_left _ hz)) (whole_small (fun z hz => (HX4.out.low.lim z ((fun z hz => List.mem_append_left _ hz) z hz)).2)) (by decide)).mono ?_
                rintro e wk5 ⟨vk5, rfl, hok, hbk⟩
                rw [whole_3 hft htl HRN.out hnt] at hok
                obtain ⟨ak5, ck5, rfl, _⟩ := hok.form
                have HY5 := Lib.hid (HX4.out.older hbk)
                clear hok hbk g0 g1 g2 g3 g4 g5 g6
                simp only [List.length_nil]
                go_upto_region 28 with fail
                have hdx := HY5.out.low.dat x (by simp)
                obtain ⟨xat, xoff, xdv, xd⟩ := x
                obtain ⟨ud, cd, hdv, _⟩ := hdx.form
                simp only at hdv
                subst hdv
                clear hdx
                obtain ⟨dl, hdl⟩ : ∃ z, xd.length = z := ⟨_, rfl⟩
                have HDL := Lib.hid hdl
                have q2 := HY5.out.his.cell (i := 2) rfl
                have q9 := HY5.out.low.box.cell (i := 9) rfl
                have p0 := own_cellH HY5.out.low.own HLX.out (j := 0) (u := .int .i64 xat) rfl
                have p1 := own_cellH HY5.out.low.own HLX.out (j := 1) (u := .int .i64 xoff) rfl
                have p2 := own_cellH HY5.out.low.own HLX.out (j := 2) (u := .slice ud xd.length cd) rfl
                rw [hdl] at p2
                clear hdl
                rw [Nat.add_zero] at p0
                have HXd := Lib.hid (HY5.out.older (Below.refl _ _).drew)
                skip
                refine wp_region_held_drew (S := (fun w' => w'.cell? ⟨bp + 1 + 1, 2, none⟩ = some (.slice (some ⟨bp + 1, 0, none⟩) 1 1) ∧ w'.cell? ⟨b1, 9, none⟩ = some (.slice (some ⟨gp, op, none⟩) k pc) ∧ w'.cell? ⟨gp, op + m * 3, none⟩ = some (.int .i64 xat) ∧ w'.cell? ⟨gp, op + m * 3 + 1, none⟩ = some (.int .i64 xoff) ∧ w'.cell? ⟨gp, op + m * 3 + 2, none⟩ = some (.slice ud dl cd))) (by kernel_rfl) (by exact ⟨q2, q9, p0, p1, p2⟩) (fun hHeld => ?_)
                obtain ⟨wd, hwd⟩ : ∃ z, wk5.drew = z := ⟨_, rfl⟩
                have P0 := Lib.hid (show wd.cell? ⟨gp, op + m * 3, none⟩ = some (.int .i64 xat) by rw [← hwd]; exact p0)
                have P1 := Lib.hid (show wd.cell? ⟨gp, op + m * 3 + 1, none⟩ = some (.int .i64 xoff) by rw [← hwd]; exact p1)
                have P2 := Lib.hid (show wd.cell? ⟨gp, op + m * 3 + 2, none⟩ = some (.slice ud dl cd) by rw [← hwd]; exact p2)
                rw [hwd] at HXd hHeld ⊢
                clear hwd q2 q9 p0 p1 p2
                have HB_0 := Lib.hid (Below.refl wd.heap.size wd)
                refine Hd.tk 0 ?_
                try simp only [Act.put, List.setIfInBounds_toArray, List.set_cons_zero, List.set_cons_succ]
                refine Hd.tk 1 ?_
                try simp only [Act.put, List.setIfInBounds_toArray, List.set_cons_zero, List.set_cons_succ]
                refine Hd.tk 3 ?_
                try simp only [Act.put, List.setIfInBounds_toArray, List.set_cons_zero, List.set_cons_succ]
                refine Hd.tk 4 ?_
                try simp only [Act.put, List.setIfInBounds_toArray, List.set_cons_zero, List.set_cons_succ]
                refine Hd.tk 6 ?_
                try simp only [Act.put, List.setIfInBounds_toArray, List.set_cons_zero, List.set_cons_succ]
                refine Hd.tk 7 ?_
                try simp only [Act.put, List.setIfInBounds_toArray, List.set_cons_zero, List.set_cons_succ]
                refine Hd.tk 8 ?_
                try simp only [Act.put, List.setIfInBounds_toArray, List.set_cons_zero, List.set_cons_succ]
                refine Hd.tk 9 ?_
                try simp only [Act.put, List.setIfInBounds_toArray, List.set_cons_zero, List.set_cons_succ]
                refine Hd.tk 10 ?_
                try simp only [Act.put, List.setIfInBounds_toArray, List.set_cons_zero, List.set_cons_succ]
                refine wpAnyH_ready (rs := [2, 11]) (by kernel_rfl) (by simp) (AllReadyH.cons (by simp only [List.getElem?_toArray, List.getElem?_cons_succ, List.getElem?_cons_zero]; rfl) (fun K hK => ?_) (AllReadyH.cons (by simp only [List.getElem?_toArray, List.getElem?_cons_succ, List.getElem?_cons_zero]; rfl) (fun K hK => ?_) AllReadyH.nil))
                · go_simp
                  have HO_1 := Lib.hid (show OwnWin (wd.alloc (.cells #[] 88)) wd.heap.size 88 3 (.slice (some ⟨wd.heap.size, 0, none⟩) 0 0) 0 [] from ownK_empty (heap_alloc_new wd _) HB_0.out.size)
                  have HB_1 := Lib.hid (HB_0.out.alloc HB_0.out.size (.cells #[] 88))
                  obtain ⟨wz1, hwz⟩ : ∃ z, wd.alloc (.cells #[] 88) = z := ⟨_, rfl⟩
                  have HG_1 := Lib.hid (show wd.heap.size < (wd.alloc (.cells #[] 88)).heap.size by simp)
                  rw [hwz] at HG_1 HB_1 HO_1 ⊢
                  skip
                  clear hwz
                  refine hK.out _ _ (by exact ⟨(HXd.out.older HB_1.out).his.cell (i := 2) rfl, (HXd.out.older HB_1.out).low.box.cell (i := 9) rfl, keepH HB_1.out P0.out, keepH HB_1.out P1.out, keepH HB_1.out P2.out⟩) (fun hHe0 => ?_)
                  clear hK K
                  try simp only [Act.put, List.setIfInBounds_toArray, List.set_cons_zero, List.set_cons_succ]
                  refine wpAnyH_ready (rs := [5, 11]) (by kernel_rfl) (by simp) (AllReadyH.cons (by simp only [List.getElem?_toArray, List.getElem?_cons_succ, List.getElem?_cons_zero]; rfl) (fun K hK => ?_) (AllReadyH.cons (by simp only [List.getElem?_toArray, List.getElem?_cons_succ, List.getElem?_cons_zero]; rfl) (fun K hK => ?_) AllReadyH.nil))
                  · refine step_appB tyPart (by rfl) _ _ (by rfl) wd.heap.size (.slice (some ⟨wd.heap.size, 0, none⟩) 0 0) 0 [] (by rfl) HO_1.out HB_1.out.size (.slice (some ⟨gp, op, none⟩) k pc) k _ (by rfl) (by have := SrcAt.of (HXd.out.older HB_1.out).low.own; rw [HK.out] at this; exact this) (by rw [flat_len partR_len, HK.out]) (one_part (w := wd) (B := 1000) (fun z hz => ⟨SrcAt.of (HXd.out.low.dat z hz), by have := (HXd.out.low.lim z hz).1; omega⟩)) (by omega) ?_
                    intro vz2 wz2 hoz hgz hlz
                    rw [Nat.zero_add, List.nil_append] at hoz
                    have HO_2 := Lib.hid hoz
                    have HB_2 := Lib.hid (HB_1.out.grown hgz HB_1.out.size (fun q hq => (HO_1.out.lt q hq).1))
                    obtain ⟨uz2, tz2, rfl, _⟩ := hoz.form
                    clear hoz hgz hlz
                    refine hK.out _ _ (by exact ⟨(HXd.out.older HB_2.out).his.cell (i := 2) rfl, (HXd.out.older HB_2.out).low.box.cell (i := 9) rfl, keepH HB_2.out P0.out, keepH HB_2.out P1.out, keepH HB_2.out P2.out⟩) (fun hHe1 => ?_)
                    clear hK K
                    try simp only [Act.put, List.setIfInBounds_toArray, List.set_cons_zero, List.set_cons_succ]
                    refine wpAnyH_ready (rs := [11]) (by kernel_rfl) (by simp) (AllReadyH.cons (by simp only [List.getElem?_toArray, List.getElem?_cons_succ, List.getElem?_cons_zero]; rfl) (fun K hK => ?_) AllReadyH.nil)
                    go_simp
                    have HP_3 := Lib.hid (Bx.new wz2 88 #[.int .i64 xat, .int .i64 xoff, .slice ud dl cd])
                    have HO_3 := Lib.hid (HO_2.out.older ((Below.refl _ _).alloc (Nat.le_refl _) (.cells #[.int .i64 xat, .int .i64 xoff, .slice ud dl cd] 88)))
                    have HB_3 := Lib.hid (HB_2.out.alloc HB_2.out.size (.cells #[.int .i64 xat, .int .i64 xoff, .slice ud dl cd] 88))
                    obtain ⟨wz3, hwz⟩ : ∃ z, wz2.alloc (.cells #[.int .i64 xat, .int .i64 xoff, .slice ud dl cd] 88) = z := ⟨_, rfl⟩
                    obtain ⟨gz3, hgz⟩ : ∃ z, wz2.heap.size = z := ⟨_, rfl⟩
                    have HG_3 := Lib.hid (show gz3 < (wz2.alloc (.cells #[.int .i64 xat, .int .i64 xoff, .slice ud dl cd] 88)).heap.size by rw [← hgz]; simp)
                    rw [hwz] at HG_3 HB_3 HO_3 HP_3 ⊢
                    rw [hgz] at HP_3 ⊢
                    clear hwz hgz
                    refine hK.out _ _ (by exact ⟨(HXd.out.older HB_3.out).his.cell (i := 2) rfl, (HXd.out.older HB_3.out).low.box.cell (i := 9) rfl, keepH HB_3.out P0.out, keepH HB_3.out P1.out, keepH HB_3.out P2.out⟩) (fun hHe2 => ?_)
                    clear hK K
                    try simp only [Act.put, List.setIfInBounds_toArray, List.set_cons_zero, List.set_cons_succ]
                    refine wpAnyH_ready (rs := [12]) (by kernel_rfl) (by simp) (AllReadyH.cons (by simp only [List.getElem?_toArray, List.getElem?_cons_succ, List.getElem?_cons_zero]; rfl) (fun K hK => ?_) AllReadyH.nil)
                    refine step_appB tyPart (by rfl) _ _ (by rfl) wd.heap.size (.slice uz2 k tz2) k _ (by rfl) HO_3.out HB_3.out.size (.slice (some ⟨gz3, 0, none⟩) 1 1) 1 [.int .i64 xat, .int .i64 xoff, .slice ud dl cd] (by rfl) (src_cells HP_3.out) (by rfl) (by simp [Value.oneCell']) (by omega) ?_
                    intro vz wz hoz hgz hlz
                    have HOZ := Lib.hid hoz
                    have HBZ := Lib.hid (HB_3.out.grown hgz HB_3.out.size (fun q hq => (HO_3.out.lt q hq).1))
                    obtain ⟨uz, tz, rfl, _⟩ := hoz.form
                    clear hoz hgz hlz
                    have s9 := (HXd.out.older HBZ.out).srv.cell (i := 9) rfl
                    have f9 := (HXd.out.older HBZ.out).srv.frz 9
                    have hzs := (HXd.out.older HBZ.out).srv.lt
                    refine hK.out _ _ (by exact ⟨(HXd.out.older HBZ.out).his.cell (i := 2) rfl, (HXd.out.older HBZ.out).low.box.cell (i := 9) rfl, keepH HBZ.out P0.out, keepH HBZ.out P1.out, keepH HBZ.out P2.out⟩) (fun hHe3 => ?_)
                    clear hK K
                    try simp only [Act.put, List.setIfInBounds_toArray, List.set_cons_zero, List.set_cons_succ]
                    refine Hd.tk 13 ?_
                    try simp only [Act.put, List.setIfInBounds_toArray, List.set_cons_zero, List.set_cons_succ]
                    refine Hd.tk 14 ?_
                    try simp only [Act.put, List.setIfInBounds_toArray, List.set_cons_zero, List.set_cons_succ]
                    refine wpAnyH_ready (rs := [15]) (by kernel_rfl) (by simp) (AllReadyH.cons (by simp only [List.getElem?_toArray, List.getElem?_cons_succ, List.getElem?_cons_zero]; rfl) (fun K hK => ?_) AllReadyH.nil)
                    go_simp
                    have HX6 : Hid (WholeX w3 (wz.setCell ⟨bp + 1, 9, none⟩ (.slice uz (k + 1) tz)) b1 bp (bp + 1) (bp + 1 + 1) #[.string ⟨#[]⟩, .string ⟨#[97, 46, 101, 120, 97, 109, 112, 108, 101, 47, 120]⟩, .string ⟨#[49]⟩, .int .i64 0, .int .i64 5, .int .i64 5, .int .i64 (fr : Int), .int .i64 (til : Int), .slice none 0 0, .slice (some ⟨gp, op, none⟩) k pc, .bool true] #[.int .i64 1, .int .i64 10, .string ⟨#[97, 46, 101, 120, 97, 109, 112, 108, 101, 47, 120]⟩, .string ⟨#[49]⟩, .slice ua L uc] #[.string ⟨#[]⟩, .string ⟨#[97, 46, 101, 120, 97, 109, 112, 108, 101, 47, 120]⟩, .string ⟨#[49]⟩, .int .i64 0, .int .i64 5, .int .i64 5, .int .i64 (fr : Int), .int .i64 (til : Int), .slice none 0 0, .slice uz (k + 1) tz, .bool false] (.slice (some ⟨gp, op, none⟩) k pc) (l0 ++ [(⟨xat, xoff, .slice ud xd.length cd, xd⟩ : PartM)])) := Lib.hid ((HXd.out.older HBZ.out).set 9 (.slice uz (k + 1) tz))
                    have HO6 := Lib.hid (HOZ.out.touch (touch_set1 wz (bp + 1) 9 (.slice uz (k + 1) tz)) (fun q hq e => by have := (HOZ.out.lt q hq).1; have := HXd.out.srv.lt; omega))
                    obtain ⟨ws6, hws⟩ : ∃ z, wz.setCell ⟨bp + 1, 9, none⟩ (.slice uz (k + 1) tz) = z := ⟨_, rfl⟩
                    rw [hws] at HX6 HO6 ⊢
                    clear hws s9 f9 hzs
                    have p0 := own_cellH HX6.out.low.own HLX.out (j := 0) (u := .int .i64 xat) rfl
                    have p1 := own_cellH HX6.out.low.own HLX.out (j := 1) (u := .int .i64 xoff) rfl
                    have p2 := own_cellH HX6.out.low.own HLX.out (j := 2) (u := .slice ud xd.length cd) rfl
                    rw [HDL.out] at p2
                    rw [Nat.add_zero] at p0
                    refine hK.out _ _ (by exact ⟨HX6.out.his.cell (i := 2) rfl, HX6.out.low.box.cell (i := 9) rfl, p0, p1, p2⟩) (fun hHe4 => ?_)
                    clear hK K
                    try simp only [Act.put, List.setIfInBounds_toArray, List.set_cons_zero, List.set_cons_succ]
                    refine wpAnyH_done (by kernel_rfl) ?_ _
                    clear p0 p1 p2
                    have g0 := HX6.out.his.cell (i := 0) rfl
                    have g1 := HX6.out.his.cell (i := 1) rfl
                    have g2 := HX6.out.his.cell (i := 2) rfl
                    have g3 := HX6.out.his.cell (i := 3) rfl
                    have g4 := HX6.out.his.cell (i := 4) rfl
                    have g5 := HX6.out.his.cell (i := 5) rfl
                    have g6 := HX6.out.his.cell (i := 6) rfl
                    go_wp2_with fail
                    refine (Hy.rule_any (oneH (wP (.slice ua L uc) body) (wS fr til (.slice uz (k + 1) tz) ((l0 ++ [(⟨xat, xoff, .slice ud xd.length cd, xd⟩ : PartM)]) ++ [(⟨xat, xoff, .slice ud xd.length cd, xd⟩ : PartM)]) false)) (.slice (some ⟨bp, 0, none⟩) 1 1) (.slice none 0 0) (.slice (some ⟨bp + 1, 0, none⟩) 1 1) (.slice none 0 0) (.slice none 0 0) 1000 4 _ (HRY.out.below (HB3.out.trans (HX6.out.low.bel.mono HB3.out.size))) (HPW.out.below (HB3.out.trans (HX6.out.low.bel.mono HB3.out.size))) (whole_at HX6.out (HXA'.out.below (HB3.out.trans (HX6.out.low.bel.mono HB3.out.size))) (by rw [HL.out]; exact h1) (rows_ownF (e := 88) (B := wd.heap.size) (by have := HO6.out; rw [show ((l0 ++ [(⟨xat, xoff, .slice ud xd.length cd, xd⟩ : PartM)]) ++ [(⟨xat, xoff, .slice ud xd.length cd, xd⟩ : PartM)]).length = k + 1 by have := HK.out; simp at this ⊢; omega, List.flatMap_append]; rw [← HDL.out] at this; exact this) partR_len) (by have e1 := HKL.out; first | omega | (simp at e1 ⊢; omega) | simp) (fun z hz => mem_twice hz)) (whole_small (fun z hz => (HX6.out.low.lim z ((fun z hz => mem_twice hz) z hz)).2)) (by decide)).mono ?_
                    rintro e wk7 ⟨vk7, rfl, hok, hbk⟩
                    rw [whole_4 HBP.out hft htl HXO.out hnt] at hok
                    obtain ⟨ak7, ck7, rfl, _⟩ := hok.form
                    have HY7 := Lib.hid (HX6.out.older hbk)
                    clear hok hbk g0 g1 g2 g3 g4 g5 g6
                    simp only [List.length_singleton]
                    go_upto_region 30 with fail
                    have q2 := HY7.out.his.cell (i := 2) rfl
                    have q9 := HY7.out.low.box.cell (i := 9) rfl
                    have HXd := Lib.hid (HY7.out.older (Below.refl _ _).drew)
                    refine wp_region_held_drew (S := (fun w' => w'.cell? ⟨bp + 1 + 1, 2, none⟩ = some (.slice (some ⟨bp + 1, 0, none⟩) 1 1) ∧ w'.cell? ⟨b1, 9, none⟩ = some (.slice (some ⟨gp, op, none⟩) k pc))) (by kernel_rfl) (by exact ⟨q2, q9⟩) (fun hHeld => ?_)
                    obtain ⟨wd, hwd⟩ : ∃ z, wk7.drew = z := ⟨_, rfl⟩
                    rw [hwd] at HXd hHeld ⊢
                    clear hwd
                    have s9 := HXd.out.srv.cell (i := 9) rfl
                    have f9 := HXd.out.srv.frz 9
                    have hzs := HXd.out.srv.lt
                    clear q2 q9
                    refine Hd.tk 0 ?_
                    try simp only [Act.put, List.setIfInBounds_toArray, List.set_cons_zero, List.set_cons_succ]
                    refine Hd.tk 1 ?_
                    try simp only [Act.put, List.setIfInBounds_toArray, List.set_cons_zero, List.set_cons_succ]
                    refine Hd.tk 2 ?_
                    try simp only [Act.put, List.setIfInBounds_toArray, List.set_cons_zero, List.set_cons_succ]
                    refine Hd.tk 3 ?_
                    try simp only [Act.put, List.setIfInBounds_toArray, List.set_cons_zero, List.set_cons_succ]
                    refine Hd.tk 4 ?_
                    try simp only [Act.put, List.setIfInBounds_toArray, List.set_cons_zero, List.set_cons_succ]
                    refine Hd.tk 5 ?_
                    try simp only [Act.put, List.setIfInBounds_toArray, List.set_cons_zero, List.set_cons_succ]
                    refine Hd.tk 6 ?_
                    try simp only [Act.put, List.setIfInBounds_toArray, List.set_cons_zero, List.set_cons_succ]
                    refine Hd.tk 7 ?_
                    try simp only [Act.put, List.setIfInBounds_toArray, List.set_cons_zero, List.set_cons_succ]
                    refine wpAnyH_ready (rs := [8]) (by kernel_rfl) (by simp) (AllReadyH.cons (by simp only [List.getElem?_toArray, List.getElem?_cons_succ, List.getElem?_cons_zero]; rfl) (fun K hK => ?_) AllReadyH.nil)
                    go_simp
                    have HX8 : Hid (WholeX w3 (wd.setCell ⟨bp + 1, 9, none⟩ (.slice (some ⟨gp, op + m * 3, none⟩) 1 (pc - m))) b1 bp (bp + 1) (bp + 1 + 1) #[.string ⟨#[]⟩, .string ⟨#[97, 46, 101, 120, 97, 109, 112, 108, 101, 47, 120]⟩, .string ⟨#[49]⟩, .int .i64 0, .int .i64 5, .int .i64 5, .int .i64 (fr : Int), .int .i64 (til : Int), .slice none 0 0, .slice (some ⟨gp, op, none⟩) k pc, .bool true] #[.int .i64 1, .int .i64 10, .string ⟨#[97, 46, 101, 120, 97, 109, 112, 108, 101, 47, 120]⟩, .string ⟨#[49]⟩, .slice ua L uc] #[.string ⟨#[]⟩, .string ⟨#[97, 46, 101, 120, 97, 109, 112, 108, 101, 47, 120]⟩, .string ⟨#[49]⟩, .int .i64 0, .int .i64 5, .int .i64 5, .int .i64 (fr : Int), .int .i64 (til : Int), .slice none 0 0, .slice (some ⟨gp, op + m * 3, none⟩) 1 (pc - m), .bool false] (.slice (some ⟨gp, op, none⟩) k pc) (l0 ++ [(⟨xat, xoff, .slice ud xd.length cd, xd⟩ : PartM)])) := Lib.hid (HXd.out.set 9 (.slice (some ⟨gp, op + m * 3, none⟩) 1 (pc - m)))
                    obtain ⟨ws8, hws⟩ : ∃ z, wd.setCell ⟨bp + 1, 9, none⟩ (.slice (some ⟨gp, op + m * 3, none⟩) 1 (pc - m)) = z := ⟨_, rfl⟩
                    rw [hws] at HX8 ⊢
                    clear hws s9 f9 hzs HXd
                    refine hK.out _ _ (by exact ⟨HX8.out.his.cell (i := 2) rfl, HX8.out.low.box.cell (i := 9) rfl⟩) (fun hHe0 => ?_)
                    clear hK K
                    try simp only [Act.put, List.setIfInBounds_toArray, List.set_cons_zero, List.set_cons_succ]
                    refine wpAnyH_done (by kernel_rfl) ?_ _
                    by_cases hm0 : m = 0
                    · subst hm0
                      go_wp2_with fail
                      go_ret
                      exact ⟨rfl, (HB3.out.trans (HX8.out.low.bel.mono HB3.out.size))⟩
                    · have t1 : ¬ (m : Int) = 0 := by omega
                      have t2 : ((m : Int) == 0) = false := by rw [beq_eq_false_iff_ne]; omega
                      have t3 : (m == 0) = false := by rw [beq_eq_false_iff_ne]; omega
                      have hfn2 : fr < n := HN1.out (fun e => by have := HM0.out; rw [e] at this; simp at this; omega)
                      have g0 := HX8.out.his.cell (i := 0) rfl
                      have g1 := HX8.out.his.cell (i := 1) rfl
                      have g2 := HX8.out.his.cell (i := 2) rfl
                      have g3 := HX8.out.his.cell (i := 3) rfl
                      have g4 := HX8.out.his.cell (i := 4) rfl
                      have g5 := HX8.out.his.cell (i := 5) rfl
                      have g6 := HX8.out.his.cell (i := 6) rfl
                      go_wp2_with fail
                      refine (Hy.rule_any (oneH (wP (.slice ua L uc) body) (wS fr til (.slice (some ⟨gp, op + m * 3, none⟩) 1 (pc - m)) [(⟨xat, xoff, .slice ud xd.length cd, xd⟩ : PartM)] false)) (.slice (some ⟨bp, 0, none⟩) 1 1) (.slice none 0 0) (.slice (some ⟨bp + 1, 0, none⟩) 1 1) (.slice none 0 0) (.slice none 0 0) 1000 4 _ (HRY.out.below (HB3.out.trans (HX8.out.low.bel.mono HB3.out.size))) (HPW.out.below (HB3.out.trans (HX8.out.low.bel.mono HB3.out.size))) (whole_at HX8.out (HXA'.out.below (HB3.out.trans (HX8.out.low.bel.mono HB3.out.size))) (by rw [HL.out]; exact h1) (rows_lastH HX8.out.low.own HLX.out (by omega)) (by have e1 := HKL.out; first | omega | (simp at e1 ⊢; omega) | simp) (fun z hz => mem_lastH hz)) (whole_small (fun z hz => (HX8.out.low.lim z ((fun z hz => mem_lastH hz) z hz)).2)) (by decide)).mono ?_
                      rintro e wk9 ⟨vk9, rfl, hok, hbk⟩
                      rw [whole_5 hft htl HXO.out hfn2] at hok
                      obtain ⟨ak9, ck9, rfl, _⟩ := hok.form
                      have HY9 := Lib.hid (HX8.out.older hbk)
                      clear hok hbk g0 g1 g2 g3 g4 g5 g6
                      simp only [List.length_singleton]
                      go_wp2_with fail
                      go_ret
                      exact ⟨rfl, (HB3.out.trans (HY9.out.low.bel.mono HB3.out.size))⟩
                  · go_simp
                    have HP_6 := Lib.hid (Bx.new wz1 88 #[.int .i64 xat, .int .i64 xoff, .slice ud dl cd])
                    have HO_6 := Lib.hid (HO_1.out.older ((Below.refl _ _).alloc (Nat.le_refl _) (.cells #[.int .i64 xat, .int .i64 xoff, .slice ud dl cd] 88)))
                    have HB_6 := Lib.hid (HB_1.out.alloc HB_1.out.size (.cells #[.int .i64 xat, .int .i64 xoff, .slice ud dl cd] 88))
                    have HN_6 := Lib.hid (show ¬ wz1.heap.size = wd.heap.size by have := HG_1.out; omega)
                    obtain ⟨wz6, hwz⟩ : ∃ z, wz1.alloc (.cells #[.int .i64 xat, .int .i64 xoff, .slice ud dl cd] 88) = z := ⟨_, rfl⟩
                    obtain ⟨gz6, hgz⟩ : ∃ z, wz1.heap.size = z := ⟨_, rfl⟩
                    have HG_6 := Lib.hid (show gz6 < (wz1.alloc (.cells #[.int .i64 xat, .int .i64 xoff, .slice ud dl cd] 88)).heap.size by rw [← hgz]; simp)
                    rw [hwz] at HG_6 HB_6 HO_6 HP_6 ⊢
                    rw [hgz] at HP_6 ⊢
                    rw [hgz] at HN_6
                    clear hwz hgz
                    refine hK.out _ _ (by exact ⟨(HXd.out.older HB_6.out).his.cell (i := 2) rfl, (HXd.out.older HB_6.out).low.box.cell (i := 9) rfl, keepH HB_6.out P0.out, keepH HB_6.out P1.out, keepH HB_6.out P2.out⟩) (fun hHe1 => ?_)
                    clear hK K
                    try simp only [Act.put, List.setIfInBounds_toArray, List.set_cons_zero, List.set_cons_succ]
                    refine wpAnyH_ready (rs := [5]) (by kernel_rfl) (by simp) (AllReadyH.cons (by simp only [List.getElem?_toArray, List.getElem?_cons_succ, List.getElem?_cons_zero]; rfl) (fun K hK => ?_) AllReadyH.nil)
                    refine step_appB tyPart (by rfl) _ _ (by rfl) wd.heap.size (.slice (some ⟨wd.heap.size, 0, none⟩) 0 0) 0 [] (by rfl) HO_6.out HB_6.out.size (.slice (some ⟨gp, op, none⟩) k pc) k _ (by rfl) (by have := SrcAt.of (HXd.out.older HB_6.out).low.own; rw [HK.out] at this; exact this) (by rw [flat_len partR_len, HK.out]) (one_part (w := wd) (B := 1000) (fun z hz => ⟨SrcAt.of (HXd.out.low.dat z hz), by have := (HXd.out.low.lim z hz).1; omega⟩)) (by omega) ?_
                    intro vz7 wz7 hoz hgz hlz
                    rw [Nat.zero_add, List.nil_append] at hoz
                    have HO_7 := Lib.hid hoz
                    have HB_7 := Lib.hid (HB_6.out.grown hgz HB_6.out.size (fun q hq => (HO_6.out.lt q hq).1))
                    have HP_7 := Lib.hid (HP_6.out.touch (Touch.of_grown (S := fun q => q = wd.heap.size) hgz (fun q hq => by cases hq; rfl)) HN_6.out)
                    obtain ⟨uz7, tz7, rfl, _⟩ := hoz.form
                    clear hoz hgz hlz
                    refine hK.out _ _ (by exact ⟨(HXd.out.older HB_7.out).his.cell (i := 2) rfl, (HXd.out.older HB_7.out).low.box.cell (i := 9) rfl, keepH HB_7.out P0.out, keepH HB_7.out P1.out, keepH HB_7.out P2.out⟩) (fun hHe2 => ?_)
                    clear hK K
                    try simp only [Act.put, List.setIfInBounds_toArray, List.set_cons_zero, List.set_cons_succ]
                    refine wpAnyH_ready (rs := [12]) (by kernel_rfl) (by simp) (AllReadyH.cons (by simp only [List.getElem?_toArray, List.getElem?_cons_succ, List.getElem?_cons_zero]; rfl) (fun K hK => ?_) AllReadyH.nil)
                    refine step_appB tyPart (by rfl) _ _ (by rfl) wd.heap.size (.slice uz7 k tz7) k _ (by rfl) HO_7.out HB_7.out.size (.slice (some ⟨gz6, 0, none⟩) 1 1) 1 [.int .i64 xat, .int .i64 xoff, .slice ud dl cd] (by rfl) (src_cells HP_7.out) (by rfl) (by simp [Value.oneCell']) (by omega) ?_
                    intro vz wz hoz hgz hlz
                    have HOZ := Lib.hid hoz
                    have HBZ := Lib.hid (HB_7.out.grown hgz HB_7.out.size (fun q hq => (HO_7.out.lt q hq).1))
                    obtain ⟨uz, tz, rfl, _⟩ := hoz.form
                    clear hoz hgz hlz
                    have s9 := (HXd.out.older HBZ.out).srv.cell (i := 9) rfl
                    have f9 := (HXd.out.older HBZ.out).srv.frz 9
                    have hzs := (HXd.out.older HBZ.out).srv.lt
                    refine hK.out _ _ (by exact ⟨(HXd.out.older HBZ.out).his.cell (i := 2) rfl, (HXd.out.older HBZ.out).low.box.cell (i := 9) rfl, keepH HBZ.out P0.out, keepH HBZ.out P1.out, keepH HBZ.out P2.out⟩) (fun hHe3 => ?_)
                    clear hK K
                    try simp only [Act.put, List.setIfInBounds_toArray, List.set_cons_zero, List.set_cons_succ]
                    refine Hd.tk 13 ?_
                    try simp only [Act.put, List.setIfInBounds_toArray, List.set_cons_zero, List.set_cons_succ]
                    refine Hd.tk 14 ?_
                    try simp only [Act.put, List.setIfInBounds_toArray, List.set_cons_zero, List.set_cons_succ]
                    refine wpAnyH_ready (rs := [15]) (by kernel_rfl) (by simp) (AllReadyH.cons (by simp only [List.getElem?_toArray, List.getElem?_cons_succ, List.getElem?_cons_zero]; rfl) (fun K hK => ?_) AllReadyH.nil)
                    go_simp
                    have HX6 : Hid (WholeX w3 (wz.setCell ⟨bp + 1, 9, none⟩ (.slice uz (k + 1) tz)) b1 bp (bp + 1) (bp + 1 + 1) #[.string ⟨#[]⟩, .string ⟨#[97, 46, 101, 120, 97, 109, 112, 108, 101, 47, 120]⟩, .string ⟨#[49]⟩, .int .i64 0, .int .i64 5, .int .i64 5, .int .i64 (fr : Int), .int .i64 (til : Int), .slice none 0 0, .slice (some ⟨gp, op, none⟩) k pc, .bool true] #[.int .i64 1, .int .i64 10, .string ⟨#[97, 46, 101, 120, 97, 109, 112, 108, 101, 47, 120]⟩, .string ⟨#[49]⟩, .slice ua L uc] #[.string ⟨#[]⟩, .string ⟨#[97, 46, 101, 120, 97, 109, 112, 108, 101, 47, 120]⟩, .string ⟨#[49]⟩, .int .i64 0, .int .i64 5, .int .i64 5, .int .i64 (fr : Int), .int .i64 (til : Int), .slice none 0 0, .slice uz (k + 1) tz, .bool false] (.slice (some ⟨gp, op, none⟩) k pc) (l0 ++ [(⟨xat, xoff, .slice ud xd.length cd, xd⟩ : PartM)])) := Lib.hid ((HXd.out.older HBZ.out).set 9 (.slice uz (k + 1) tz))
                    have HO6 := Lib.hid (HOZ.out.touch (touch_set1 wz (bp + 1) 9 (.slice uz (k + 1) tz)) (fun q hq e => by have := (HOZ.out.lt q hq).1; have := HXd.out.srv.lt; omega))
                    obtain ⟨ws6, hws⟩ : ∃ z, wz.setCell ⟨bp + 1, 9, none⟩ (.slice uz (k + 1) tz) = z := ⟨_, rfl⟩
                    rw [hws] at HX6 HO6 ⊢
                    clear hws s9 f9 hzs
                    have p0 := own_cellH HX6.out.low.own HLX.out (j := 0) (u := .int .i64 xat) rfl
                    have p1 := own_cellH HX6.out.low.own HLX.out (j := 1) (u := .int .i64 xoff) rfl
                    have p2 := own_cellH HX6.out.low.own HLX.out (j := 2) (u := .slice ud xd.length cd) rfl
                    rw [HDL.out] at p2
                    rw [Nat.add_zero] at p0
                    refine hK.out _ _ (by exact ⟨HX6.out.his.cell (i := 2) rfl, HX6.out.low.box.cell (i := 9) rfl, p0, p1, p2⟩) (fun hHe4 => ?_)
                    clear hK K
                    try simp only [Act.put, List.setIfInBounds_toArray, List.set_cons_zero, List.set_cons_succ]
                    refine wpAnyH_done (by kernel_rfl) ?_ _
                    clear p0 p1 p2
                    have g0 := HX6.out.his.cell (i := 0) rfl
                    have g1 := HX6.out.his.cell (i := 1) rfl
                    have g2 := HX6.out.his.cell (i := 2) rfl
                    have g3 := HX6.out.his.cell (i := 3) rfl
                    have g4 := HX6.out.his.cell (i := 4) rfl
                    have g5 := HX6.out.his.cell (i := 5) rfl
                    have g6 := HX6.out.his.cell (i := 6) rfl
                    go_wp2_with fail
                    refine (Hy.rule_any (oneH (wP (.slice ua L uc) body) (wS fr til (.slice uz (k + 1) tz) ((l0 ++ [(⟨xat, xoff, .slice ud xd.length cd, xd⟩ : PartM)]) ++ [(⟨xat, xoff, .slice ud xd.length cd, xd⟩ : PartM)]) false)) (.slice (some ⟨bp, 0, none⟩) 1 1) (.slice none 0 0) (.slice (some ⟨bp + 1, 0, none⟩) 1 1) (.slice none 0 0) (.slice none 0 0) 1000 4 _ (HRY.out.below (HB3.out.trans (HX6.out.low.bel.mono HB3.out.size))) (HPW.out.below (HB3.out.trans (HX6.out.low.bel.mono HB3.out.size))) (whole_at HX6.out (HXA'.out.below (HB3.out.trans (HX6.out.low.bel.mono HB3.out.size))) (by rw [HL.out]; exact h1) (rows_ownF (e := 88) (B := wd.heap.size) (by have := HO6.out; rw [show ((l0 ++ [(⟨xat, xoff, .slice ud xd.length cd, xd⟩ : PartM)]) ++ [(⟨xat, xoff, .slice ud xd.length cd, xd⟩ : PartM)]).length = k + 1 by have := HK.out; simp at this ⊢; omega, List.flatMap_append]; rw [← HDL.out] at this; exact this) partR_len) (by have e1 := HKL.out; first | omega | (simp at e1 ⊢; omega) | simp) (fun z hz => mem_twice hz)) (whole_small (fun z hz => (HX6.out.low.lim z ((fun z hz => mem_twice hz) z hz)).2)) (by decide)).mono ?_
                    rintro e wk7 ⟨vk7, rfl, hok, hbk⟩
                    rw [whole_4 HBP.out hft htl HXO.out hnt] at hok
                    obtain ⟨ak7, ck7, rfl, _⟩ := hok.form
                    have HY7 := Lib.hid (HX6.out.older hbk)
                    clear hok hbk g0 g1 g2 g3 g4 g5 g6
                    simp only [List.length_singleton]
                    go_upto_region 30 with fail
                    have q2 := HY7.out.his.cell (i := 2) rfl
                    have q9 := HY7.out.low.box.cell (i := 9) rfl
                    have HXd := Lib.hid (HY7.out.older (Below.refl _ _).drew)
                    refine wp_region_held_drew (S := (fun w' => w'.cell? ⟨bp + 1 + 1, 2, none⟩ = some (.slice (some ⟨bp + 1, 0, none⟩) 1 1) ∧ w'.cell? ⟨b1, 9, none⟩ = some (.slice (some ⟨gp, op, none⟩) k pc))) (by kernel_rfl) (by exact ⟨q2, q9⟩) (fun hHeld => ?_)
                    obtain ⟨wd, hwd⟩ : ∃ z, wk7.drew = z := ⟨_, rfl⟩
                    rw [hwd] at HXd hHeld ⊢
                    clear hwd
                    have s9 := HXd.out.srv.cell (i := 9) rfl
                    have f9 := HXd.out.srv.frz 9
                    have hzs := HXd.out.srv.lt
                    clear q2 q9
                    refine Hd.tk 0 ?_
                    try simp only [Act.put, List.setIfInBounds_toArray, List.set_cons_zero, List.set_cons_succ]
                    refine Hd.tk 1 ?_
                    try simp only [Act.put, List.setIfInBounds_toArray, List.set_cons_zero, List.set_cons_succ]
                    refine Hd.tk 2 ?_
                    try simp only [Act.put, List.setIfInBounds_toArray, List.set_cons_zero, List.set_cons_succ]
                    refine Hd.tk 3 ?_
                    try simp only [Act.put, List.setIfInBounds_toArray, List.set_cons_zero, List.set_cons_succ]
                    refine Hd.tk 4 ?_
                    try simp only [Act.put, List.setIfInBounds_toArray, List.set_cons_zero, List.set_cons_succ]
                    refine Hd.tk 5 ?_
                    try simp only [Act.put, List.setIfInBounds_toArray, List.set_cons_zero, List.set_cons_succ]
                    refine Hd.tk 6 ?_
                    try simp only [Act.put, List.setIfInBounds_toArray, List.set_cons_zero, List.set_cons_succ]
                    refine Hd.tk 7 ?_
                    try simp only [Act.put, List.setIfInBounds_toArray, List.set_cons_zero, List.set_cons_succ]
                    refine wpAnyH_ready (rs := [8]) (by kernel_rfl) (by simp) (AllReadyH.cons (by simp only [List.getElem?_toArray, List.getElem?_cons_succ, List.getElem?_cons_zero]; rfl) (fun K hK => ?_) AllReadyH.nil)
                    go_simp
                    have HX8 : Hid (WholeX w3 (wd.setCell ⟨bp + 1, 9, none⟩ (.slice (some ⟨gp, op + m * 3, none⟩) 1 (pc - m))) b1 bp (bp + 1) (bp + 1 + 1) #[.string ⟨#[]⟩, .string ⟨#[97, 46, 101, 120, 97, 109, 112, 108, 101, 47, 120]⟩, .string ⟨#[49]⟩, .int .i64 0, .int .i64 5, .int .i64 5, .int .i64 (fr : Int), .int .i64 (til : Int), .slice none 0 0, .slice (some ⟨gp, op, none⟩) k pc, .bool true] #[.int .i64 1, .int .i64 10, .string ⟨#[97, 46, 101, 120, 97, 109, 112, 108, 101, 47, 120]⟩, .string ⟨#[49]⟩, .slice ua L uc] #[.string ⟨#[]⟩, .string ⟨#[97, 46, 101, 120, 97, 109, 112, 108, 101, 47, 120]⟩, .string ⟨#[49]⟩, .int .i64 0, .int .i64 5, .int .i64 5, .int .i64 (fr : Int), .int .i64 (til : Int), .slice none 0 0, .slice (some ⟨gp, op + m * 3, none⟩) 1 (pc - m), .bool false] (.slice (some ⟨gp, op, none⟩) k pc) (l0 ++ [(⟨xat, xoff, .slice ud xd.length cd, xd⟩ : PartM)])) := Lib.hid (HXd.out.set 9 (.slice (some ⟨gp, op + m * 3, none⟩) 1 (pc - m)))
                    obtain ⟨ws8, hws⟩ : ∃ z, wd.setCell ⟨bp + 1, 9, none⟩ (.slice (some ⟨gp, op + m * 3, none⟩) 1 (pc - m)) = z := ⟨_, rfl⟩
                    rw [hws] at HX8 ⊢
                    clear hws s9 f9 hzs HXd
                    refine hK.out _ _ (by exact ⟨HX8.out.his.cell (i := 2) rfl, HX8.out.low.box.cell (i := 9) rfl⟩) (fun hHe0 => ?_)
                    clear hK K
                    try simp only [Act.put, List.setIfInBounds_toArray, List.set_cons_zero, List.set_cons_succ]
                    refine wpAnyH_done (by kernel_rfl) ?_ _
                    by_cases hm0 : m = 0
                    · subst hm0
                      go_wp2_with fail
                      go_ret
                      exact ⟨rfl, (HB3.out.trans (HX8.out.low.bel.mono HB3.out.size))⟩
                    · have t1 : ¬ (m : Int) = 0 := by omega
                      have t2 : ((m : Int) == 0) = false := by rw [beq_eq_false_iff_ne]; omega
                      have t3 : (m == 0) = false := by rw [beq_eq_false_iff_ne]; omega
                      have hfn2 : fr < n := HN1.out (fun e => by have := HM0.out; rw [e] at this; simp at this; omega)
                      have g0 := HX8.out.his.cell (i := 0) rfl
                      have g1 := HX8.out.his.cell (i := 1) rfl
                      have g2 := HX8.out.his.cell (i := 2) rfl
                      have g3 := HX8.out.his.cell (i := 3) rfl
                      have g4 := HX8.out.his.cell (i := 4) rfl
                      have g5 := HX8.out.his.cell (i := 5) rfl
                      have g6 := HX8.out.his.cell (i := 6) rfl
                      go_wp2_with fail
                      refine (Hy.rule_any (oneH (wP (.slice ua L uc) body) (wS fr til (.slice (some ⟨gp, op + m * 3, none⟩) 1 (pc - m)) [(⟨xat, xoff, .slice ud xd.length cd, xd⟩ : PartM)] false)) (.slice (some ⟨bp, 0, none⟩) 1 1) (.slice none 0 0) (.slice (some ⟨bp + 1, 0, none⟩) 1 1) (.slice none 0 0) (.slice none 0 0) 1000 4 _ (HRY.out.below (HB3.out.trans (HX8.out.low.bel.mono HB3.out.size))) (HPW.out.below (HB3.out.trans (HX8.out.low.bel.mono HB3.out.size))) (whole_at HX8.out (HXA'.out.below (HB3.out.trans (HX8.out.low.bel.mono HB3.out.size))) (by rw [HL.out]; exact h1) (rows_lastH HX8.out.low.own HLX.out (by omega)) (by have e1 := HKL.out; first | omega | (simp at e1 ⊢; omega) | simp) (fun z hz => mem_lastH hz)) (whole_small (fun z hz => (HX8.out.low.lim z ((fun z hz => mem_lastH hz) z hz)).2)) (by decide)).mono ?_
                      rintro e wk9 ⟨vk9, rfl, hok, hbk⟩
                      rw [whole_5 hft htl HXO.out hfn2] at hok
                      obtain ⟨ak9, ck9, rfl, _⟩ := hok.form
                      have HY9 := Lib.hid (HX8.out.older hbk)
                      clear hok hbk g0 g1 g2 g3 g4 g5 g6
                      simp only [List.length_singleton]
                      go_wp2_with fail
                      go_ret
                      exact ⟨rfl, (HB3.out.trans (HY9.out.low.bel.mono HB3.out.size))⟩
                · go_simp
                  have HP_10 := Lib.hid (Bx.new wd 88 #[.int .i64 xat, .int .i64 xoff, .slice ud dl cd])
                  have HB_10 := Lib.hid (HB_0.out.alloc HB_0.out.size (.cells #[.int .i64 xat, .int .i64 xoff, .slice ud dl cd] 88))
                  obtain ⟨wz10, hwz⟩ : ∃ z, wd.alloc (.cells #[.int .i64 xat, .int .i64 xoff, .slice ud dl cd] 88) = z := ⟨_, rfl⟩
                  have HG_10 := Lib.hid (show wd.heap.size < (wd.alloc (.cells #[.int .i64 xat, .int .i64 xoff, .slice ud dl cd] 88)).heap.size by simp)
                  rw [hwz] at HG_10 HB_10 HP_10 ⊢
                  skip
                  clear hwz
                  refine hK.out _ _ (by exact ⟨(HXd.out.older HB_10.out).his.cell (i := 2) rfl, (HXd.out.older HB_10.out).low.box.cell (i := 9) rfl, keepH HB_10.out P0.out, keepH HB_10.out P1.out, keepH HB_10.out P2.out⟩) (fun hHe0 => ?_)
                  clear hK K
                  try simp only [Act.put, List.setIfInBounds_toArray, List.set_cons_zero, List.set_cons_succ]
                  refine wpAnyH_ready (rs := [2]) (by kernel_rfl) (by simp) (AllReadyH.cons (by simp only [List.getElem?_toArray, List.getElem?_cons_succ, List.getElem?_cons_zero]; rfl) (fun K hK => ?_) AllReadyH.nil)
                  go_simp
                  have HO_11 := Lib.hid (show OwnWin (wz10.alloc (.cells #[] 88)) wd.heap.size 88 3 (.slice (some ⟨wz10.heap.size, 0, none⟩) 0 0) 0 [] from ownK_empty (heap_alloc_new wz10 _) HB_10.out.size)
                  have HP_11 := Lib.hid (bx_allocH HP_10.out (.cells #[] 88))
                  have HB_11 := Lib.hid (HB_10.out.alloc HB_10.out.size (.cells #[] 88))
                  have HN_11 := Lib.hid (show ¬ wd.heap.size = wz10.heap.size by have := HP_10.out.lt; omega)
                  obtain ⟨wz11, hwz⟩ : ∃ z, wz10.alloc (.cells #[] 88) = z := ⟨_, rfl⟩
                  obtain ⟨gz11, hgz⟩ : ∃ z, wz10.heap.size = z := ⟨_, rfl⟩
                  have HG_11 := Lib.hid (show gz11 < (wz10.alloc (.cells #[] 88)).heap.size by rw [← hgz]; simp)
                  rw [hwz] at HG_11 HB_11 HO_11 HP_11 ⊢
                  rw [hgz] at HO_11 ⊢
                  rw [hgz] at HN_11
                  clear hwz hgz
                  refine hK.out _ _ (by exact ⟨(HXd.out.older HB_11.out).his.cell (i := 2) rfl, (HXd.out.older HB_11.out).low.box.cell (i := 9) rfl, keepH HB_11.out P0.out, keepH HB_11.out P1.out, keepH HB_11.out P2.out⟩) (fun hHe1 => ?_)
                  clear hK K
                  try simp only [Act.put, List.setIfInBounds_toArray, List.set_cons_zero, List.set_cons_succ]
                  refine wpAnyH_ready (rs := [5]) (by kernel_rfl) (by simp) (AllReadyH.cons (by simp only [List.getElem?_toArray, List.getElem?_cons_succ, List.getElem?_cons_zero]; rfl) (fun K hK => ?_) AllReadyH.nil)
                  refine step_appB tyPart (by rfl) _ _ (by rfl) wd.heap.size (.slice (some ⟨gz11, 0, none⟩) 0 0) 0 [] (by rfl) HO_11.out HB_11.out.size (.slice (some ⟨gp, op, none⟩) k pc) k _ (by rfl) (by have := SrcAt.of (HXd.out.older HB_11.out).low.own; rw [HK.out] at this; exact this) (by rw [flat_len partR_len, HK.out]) (one_part (w := wd) (B := 1000) (fun z hz => ⟨SrcAt.of (HXd.out.low.dat z hz), by have := (HXd.out.low.lim z hz).1; omega⟩)) (by omega) ?_
                  intro vz12 wz12 hoz hgz hlz
                  rw [Nat.zero_add, List.nil_append] at hoz
                  have HO_12 := Lib.hid hoz
                  have HB_12 := Lib.hid (HB_11.out.grown hgz HB_11.out.size (fun q hq => (HO_11.out.lt q hq).1))
                  have HP_12 := Lib.hid (HP_11.out.touch (Touch.of_grown (S := fun q => q = gz11) hgz (fun q hq => by cases hq; rfl)) HN_11.out)
                  obtain ⟨uz12, tz12, rfl, _⟩ := hoz.form
                  clear hoz hgz hlz
                  refine hK.out _ _ (by exact ⟨(HXd.out.older HB_12.out).his.cell (i := 2) rfl, (HXd.out.older HB_12.out).low.box.cell (i := 9) rfl, keepH HB_12.out P0.out, keepH HB_12.out P1.out, keepH HB_12.out P2.out⟩) (fun hHe2 => ?_)
                  clear hK K
                  try simp only [Act.put, List.setIfInBounds_toArray, List.set_cons_zero, List.set_cons_succ]
                  refine wpAnyH_ready (rs := [12]) (by kernel_rfl) (by simp) (AllReadyH.cons (by simp only [List.getElem?_toArray, List.getElem?_cons_succ, List.getElem?_cons_zero]; rfl) (fun K hK => ?_) AllReadyH.nil)
                  refine step_appB tyPart (by rfl) _ _ (by rfl) wd.heap.size (.slice uz12 k tz12) k _ (by rfl) HO_12.out HB_12.out.size (.slice (some ⟨wd.heap.size, 0, none⟩) 1 1) 1 [.int .i64 xat, .int .i64 xoff, .slice ud dl cd] (by rfl) (src_cells HP_12.out) (by rfl) (by simp [Value.oneCell']) (by omega) ?_
                  intro vz wz hoz hgz hlz
                  have HOZ := Lib.hid hoz
                  have HBZ := Lib.hid (HB_12.out.grown hgz HB_12.out.size (fun q hq => (HO_12.out.lt q hq).1))
                  obtain ⟨uz, tz, rfl, _⟩ := hoz.form
                  clear hoz hgz hlz
                  have s9 := (HXd.out.older HBZ.out).srv.cell (i := 9) rfl
                  have f9 := (HXd.out.older HBZ.out).srv.frz 9
                  have hzs := (HXd.out.older HBZ.out).srv.lt
                  refine hK.out _ _ (by exact ⟨(HXd.out.older HBZ.out).his.cell (i := 2) rfl, (HXd.out.older HBZ.out).low.box.cell (i := 9) rfl, keepH HBZ.out P0.out, keepH HBZ.out P1.out, keepH HBZ.out P2.out⟩) (fun hHe3 => ?_)
                  clear hK K
                  try simp only [Act.put, List.setIfInBounds_toArray, List.set_cons_zero, List.set_cons_succ]
                  refine Hd.tk 13 ?_
                  try simp only [Act.put, List.setIfInBounds_toArray, List.set_cons_zero, List.set_cons_succ]
                  refine Hd.tk 14 ?_
                  try simp only [Act.put, List.setIfInBounds_toArray, List.set_cons_zero, List.set_cons_succ]
                  refine wpAnyH_ready (rs := [15]) (by kernel_rfl) (by simp) (AllReadyH.cons (by simp only [List.getElem?_toArray, List.getElem?_cons_succ, List.getElem?_cons_zero]; rfl) (fun K hK => ?_) AllReadyH.nil)
                  go_simp
                  have HX6 : Hid (WholeX w3 (wz.setCell ⟨bp + 1, 9, none⟩ (.slice uz (k + 1) tz)) b1 bp (bp + 1) (bp + 1 + 1) #[.string ⟨#[]⟩, .string ⟨#[97, 46, 101, 120, 97, 109, 112, 108, 101, 47, 120]⟩, .string ⟨#[49]⟩, .int .i64 0, .int .i64 5, .int .i64 5, .int .i64 (fr : Int), .int .i64 (til : Int), .slice none 0 0, .slice (some ⟨gp, op, none⟩) k pc, .bool true] #[.int .i64 1, .int .i64 10, .string ⟨#[97, 46, 101, 120, 97, 109, 112, 108, 101, 47, 120]⟩, .string ⟨#[49]⟩, .slice ua L uc] #[.string ⟨#[]⟩, .string ⟨#[97, 46, 101, 120, 97, 109, 112, 108, 101, 47, 120]⟩, .string ⟨#[49]⟩, .int .i64 0, .int .i64 5, .int .i64 5, .int .i64 (fr : Int), .int .i64 (til : Int), .slice none 0 0, .slice uz (k + 1) tz, .bool false] (.slice (some ⟨gp, op, none⟩) k pc) (l0 ++ [(⟨xat, xoff, .slice ud xd.length cd, xd⟩ : PartM)])) := Lib.hid ((HXd.out.older HBZ.out).set 9 (.slice uz (k + 1) tz))
                  have HO6 := Lib.hid (HOZ.out.touch (touch_set1 wz (bp + 1) 9 (.slice uz (k + 1) tz)) (fun q hq e => by have := (HOZ.out.lt q hq).1; have := HXd.out.srv.lt; omega))
                  obtain ⟨ws6, hws⟩ : ∃ z, wz.setCell ⟨bp + 1, 9, none⟩ (.slice uz (k + 1) tz) = z := ⟨_, rfl⟩
                  rw [hws] at HX6 HO6 ⊢
                  clear hws s9 f9 hzs
                  have p0 := own_cellH HX6.out.low.own HLX.out (j := 0) (u := .int .i64 xat) rfl
                  have p1 := own_cellH HX6.out.low.own HLX.out (j := 1) (u := .int .i64 xoff) rfl
                  have p2 := own_cellH HX6.out.low.own HLX.out (j := 2) (u := .slice ud xd.length cd) rfl
                  rw [HDL.out] at p2
                  rw [Nat.add_zero] at p0
                  refine hK.out _ _ (by exact ⟨HX6.out.his.cell (i := 2) rfl, HX6.out.low.box.cell (i := 9) rfl, p0, p1, p2⟩) (fun hHe4 => ?_)
                  clear hK K
                  try simp only [Act.put, List.setIfInBounds_toArray, List.set_cons_zero, List.set_cons_succ]
                  refine wpAnyH_done (by kernel_rfl) ?_ _
                  clear p0 p1 p2
                  have g0 := HX6.out.his.cell (i := 0) rfl
                  have g1 := HX6.out.his.cell (i := 1) rfl
                  have g2 := HX6.out.his.cell (i := 2) rfl
                  have g3 := HX6.out.his.cell (i := 3) rfl
                  have g4 := HX6.out.his.cell (i := 4) rfl
                  have g5 := HX6.out.his.cell (i := 5) rfl
                  have g6 := HX6.out.his.cell (i := 6) rfl
                  go_wp2_with fail
                  refine (Hy.rule_any (oneH (wP (.slice ua L uc) body) (wS fr til (.slice uz (k + 1) tz) ((l0 ++ [(⟨xat, xoff, .slice ud xd.length cd, xd⟩ : PartM)]) ++ [(⟨xat, xoff, .slice ud xd.length cd, xd⟩ : PartM)]) false)) (.slice (some ⟨bp, 0, none⟩) 1 1) (.slice none 0 0) (.slice (some ⟨bp + 1, 0, none⟩) 1 1) (.slice none 0 0) (.slice none 0 0) 1000 4 _ (HRY.out.below (HB3.out.trans (HX6.out.low.bel.mono HB3.out.size))) (HPW.out.below (HB3.out.trans (HX6.out.low.bel.mono HB3.out.size))) (whole_at HX6.out (HXA'.out.below (HB3.out.trans (HX6.out.low.bel.mono HB3.out.size))) (by rw [HL.out]; exact h1) (rows_ownF (e := 88) (B := wd.heap.size) (by have := HO6.out; rw [show ((l0 ++ [(⟨xat, xoff, .slice ud xd.length cd, xd⟩ : PartM)]) ++ [(⟨xat, xoff, .slice ud xd.length cd, xd⟩ : PartM)]).length = k + 1 by have := HK.out; simp at this ⊢; omega, List.flatMap_append]; rw [← HDL.out] at this; exact this) partR_len) (by have e1 := HKL.out; first | omega | (simp at e1 ⊢; omega) | simp) (fun z hz => mem_twice hz)) (whole_small (fun z hz => (HX6.out.low.lim z ((fun z hz => mem_twice hz) z hz)).2)) (by decide)).mono ?_
                  rintro e wk7 ⟨vk7, rfl, hok, hbk⟩
                  rw [whole_4 HBP.out hft htl HXO.out hnt] at hok
                  obtain ⟨ak7, ck7, rfl, _⟩ := hok.form
                  have HY7 := Lib.hid (HX6.out.older hbk)
                  clear hok hbk g0 g1 g2 g3 g4 g5 g6
                  simp only [List.length_singleton]
                  go_upto_region 30 with fail
                  have q2 := HY7.out.his.cell (i := 2) rfl
                  have q9 := HY7.out.low.box.cell (i := 9) rfl
                  have HXd := Lib.hid (HY7.out.older (Below.refl _ _).drew)
                  refine wp_region_held_drew (S := (fun w' => w'.cell? ⟨bp + 1 + 1, 2, none⟩ = some (.slice (some ⟨bp + 1, 0, none⟩) 1 1) ∧ w'.cell? ⟨b1, 9, none⟩ = some (.slice (some ⟨gp, op, none⟩) k pc))) (by kernel_rfl) (by exact ⟨q2, q9⟩) (fun hHeld => ?_)
                  obtain ⟨wd, hwd⟩ : ∃ z, wk7.drew = z := ⟨_, rfl⟩
                  rw [hwd] at HXd hHeld ⊢
                  clear hwd
                  have s9 := HXd.out.srv.cell (i := 9) rfl
                  have f9 := HXd.out.srv.frz 9
                  have hzs := HXd.out.srv.lt
                  clear q2 q9
                  refine Hd.tk 0 ?_
                  try simp only [Act.put, List.setIfInBounds_toArray, List.set_cons_zero, List.set_cons_succ]
                  refine Hd.tk 1 ?_
                  try simp only [Act.put, List.setIfInBounds_toArray, List.set_cons_zero, List.set_cons_succ]
                  refine Hd.tk 2 ?_
                  try simp only [Act.put, List.setIfInBounds_toArray, List.set_cons_zero, List.set_cons_succ]
                  refine Hd.tk 3 ?_
                  try simp only [Act.put, List.setIfInBounds_toArray, List.set_cons_zero, List.set_cons_succ]
                  refine Hd.tk 4 ?_
                  try simp only [Act.put, List.setIfInBounds_toArray, List.set_cons_zero, List.set_cons_succ]
                  refine Hd.tk 5 ?_
                  try simp only [Act.put, List.setIfInBounds_toArray, List.set_cons_zero, List.set_cons_succ]
                  refine Hd.tk 6 ?_
                  try simp only [Act.put, List.setIfInBounds_toArray, List.set_cons_zero, List.set_cons_succ]
                  refine Hd.tk 7 ?_
                  try simp only [Act.put, List.setIfInBounds_toArray, List.set_cons_zero, List.set_cons_succ]
                  refine wpAnyH_ready (rs := [8]) (by kernel_rfl) (by simp) (AllReadyH.cons (by simp only [List.getElem?_toArray, List.getElem?_cons_succ, List.getElem?_cons_zero]; rfl) (fun K hK => ?_) AllReadyH.nil)
                  go_simp
                  have HX8 : Hid (WholeX w3 (wd.setCell ⟨bp + 1, 9, none⟩ (.slice (some ⟨gp, op + m * 3, none⟩) 1 (pc - m))) b1 bp (bp + 1) (bp + 1 + 1) #[.string ⟨#[]⟩, .string ⟨#[97, 46, 101, 120, 97, 109, 112, 108, 101, 47, 120]⟩, .string ⟨#[49]⟩, .int .i64 0, .int .i64 5, .int .i64 5, .int .i64 (fr : Int), .int .i64 (til : Int), .slice none 0 0, .slice (some ⟨gp, op, none⟩) k pc, .bool true] #[.int .i64 1, .int .i64 10, .string ⟨#[97, 46, 101, 120, 97, 109, 112, 108, 101, 47, 120]⟩, .string ⟨#[49]⟩, .slice ua L uc] #[.string ⟨#[]⟩, .string ⟨#[97, 46, 101, 120, 97, 109, 112, 108, 101, 47, 120]⟩, .string ⟨#[49]⟩, .int .i64 0, .int .i64 5, .int .i64 5, .int .i64 (fr : Int), .int .i64 (til : Int), .slice none 0 0, .slice (some ⟨gp, op + m * 3, none⟩) 1 (pc - m), .bool false] (.slice (some ⟨gp, op, none⟩) k pc) (l0 ++ [(⟨xat, xoff, .slice ud xd.length cd, xd⟩ : PartM)])) := Lib.hid (HXd.out.set 9 (.slice (some ⟨gp, op + m * 3, none⟩) 1 (pc - m)))
                  obtain ⟨ws8, hws⟩ : ∃ z, wd.setCell ⟨bp + 1, 9, none⟩ (.slice (some ⟨gp, op + m * 3, none⟩) 1 (pc - m)) = z := ⟨_, rfl⟩
                  rw [hws] at HX8 ⊢
                  clear hws s9 f9 hzs HXd
                  refine hK.out _ _ (by exact ⟨HX8.out.his.cell (i := 2) rfl, HX8.out.low.box.cell (i := 9) rfl⟩) (fun hHe0 => ?_)
                  clear hK K
                  try simp only [Act.put, List.setIfInBounds_toArray, List.set_cons_zero, List.set_cons_succ]
                  refine wpAnyH_done (by kernel_rfl) ?_ _
                  by_cases hm0 : m = 0
                  · subst hm0
                    go_wp2_with fail
                    go_ret
                    exact ⟨rfl, (HB3.out.trans (HX8.out.low.bel.mono HB3.out.size))⟩
                  · have t1 : ¬ (m : Int) = 0 := by omega
                    have t2 : ((m : Int) == 0) = false := by rw [beq_eq_false_iff_ne]; omega
                    have t3 : (m == 0) = false := by rw [beq_eq_false_iff_ne]; omega
                    have hfn2 : fr < n := HN1.out (fun e => by have := HM0.out; rw [e] at this; simp at this; omega)
                    have g0 := HX8.out.his.cell (i := 0) rfl
                    have g1 := HX8.out.his.cell (i := 1) rfl
                    have g2 := HX8.out.his.cell (i := 2) rfl
                    have g3 := HX8.out.his.cell (i := 3) rfl
                    have g4 := HX8.out.his.cell (i := 4) rfl
                    have g5 := HX8.out.his.cell (i := 5) rfl
                    have g6 := HX8.out.his.cell (i := 6) rfl
                    go_wp2_with fail
                    refine (Hy.rule_any (oneH (wP (.slice ua L uc) body) (wS fr til (.slice (some ⟨gp, op + m * 3, none⟩) 1 (pc - m)) [(⟨xat, xoff, .slice ud xd.length cd, xd⟩ : PartM)] false)) (.slice (some ⟨bp, 0, none⟩) 1 1) (.slice none 0 0) (.slice (some ⟨bp + 1, 0, none⟩) 1 1) (.slice none 0 0) (.slice none 0 0) 1000 4 _ (HRY.out.below (HB3.out.trans (HX8.out.low.bel.mono HB3.out.size))) (HPW.out.below (HB3.out.trans (HX8.out.low.bel.mono HB3.out.size))) (whole_at HX8.out (HXA'.out.below (HB3.out.trans (HX8.out.low.bel.mono HB3.out.size))) (by rw [HL.out]; exact h1) (rows_lastH HX8.out.low.own HLX.out (by omega)) (by have e1 := HKL.out; first | omega | (simp at e1 ⊢; omega) | simp) (fun z hz => mem_lastH hz)) (whole_small (fun z hz => (HX8.out.low.lim z ((fun z hz => mem_lastH hz) z hz)).2)) (by decide)).mono ?_
                    rintro e wk9 ⟨vk9, rfl, hok, hbk⟩
                    rw [whole_5 hft htl HXO.out hfn2] at hok
                    obtain ⟨ak9, ck9, rfl, _⟩ := hok.form
                    have HY9 := Lib.hid (HX8.out.older hbk)
                    clear hok hbk g0 g1 g2 g3 g4 g5 g6
                    simp only [List.length_singleton]
                    go_wp2_with fail
                    go_ret
                    exact ⟨rfl, (HB3.out.trans (HY9.out.low.bel.mono HB3.out.size))⟩
    · have m1 : (30 : Int) < (M : Int) := by omega
      have m2 : decide ((30 : Int) < (M : Int)) = true := decide_eq_true m1
      have m3 : decide (30 < M) = true := decide_eq_true (by omega)
      go_enter Tryz.func8, Tryz.ntmps8
      go_upto_region 1 with fail
      have HN := Lib.hid (Bx.new w 48 #[.int .u8 (a : Int), .int .u8 (b : Int)])
      have HB0 := Lib.hid ((Below.refl w.heap.size w).alloc (Nat.le_refl _) (.cells #[.int .u8 (a : Int), .int .u8 (b : Int)] 48))
      obtain ⟨w0, hw0⟩ : ∃ z, w.alloc (.cells #[.int .u8 (a : Int), .int .u8 (b : Int)] 48) = z := ⟨_, rfl⟩
      obtain ⟨b0, hb0⟩ : ∃ z, w.heap.size = z := ⟨_, rfl⟩
      have HB00 : Hid (w.heap.size ≤ b0) := Lib.hid (by omega)
      rw [hw0] at HB0 HN ⊢
      rw [hb0] at HN ⊢
      clear hw0 hb0
      go_wp2_with (go_at_call 29; refine (awake58_any _ (HRY.out.below HB0.out) (HPW.out.below HB0.out)).mono ?_; rintro e w2 ⟨rfl, hb2⟩; have HB2 := Lib.hid (HB0.out.trans (hb2.mono HB0.out.size)); have HN2 := Lib.hid (HN.out.older hb2); clear hb2)
      go_ret
      exact ⟨rfl, HB2.out⟩
  · have l1 : (500 : Int) < (L : Int) := by omega
    have l2 : decide ((500 : Int) < (L : Int)) = true := decide_eq_true l1
    have l3 : decide (500 < L) = true := decide_eq_true (by omega)
    go_enter Tryz.func8, Tryz.ntmps8
    go_upto_region 1 with fail
    have HN := Lib.hid (Bx.new w 48 #[.int .u8 (a : Int), .int .u8 (b : Int)])
    have HB0 := Lib.hid ((Below.refl w.heap.size w).alloc (Nat.le_refl _) (.cells #[.int .u8 (a : Int), .int .u8 (b : Int)] 48))
    obtain ⟨w0, hw0⟩ : ∃ z, w.alloc (.cells #[.int .u8 (a : Int), .int .u8 (b : Int)] 48) = z := ⟨_, rfl⟩
    obtain ⟨b0, hb0⟩ : ∃ z, w.heap.size = z := ⟨_, rfl⟩
    have HB00 : Hid (w.heap.size ≤ b0) := Lib.hid (by omega)
    rw [hw0] at HB0 HN ⊢
    rw [hb0] at HN ⊢
    clear hw0 hb0
    go_wp2_with (go_at_call 29; refine (awake58_any _ (HRY.out.below HB0.out) (HPW.out.below HB0.out)).mono ?_; rintro e w2 ⟨rfl, hb2⟩; have HB2 := Lib.hid (HB0.out.trans (hb2.mono HB0.out.size)); have HN2 := Lib.hid (HN.out.older hb2); clear hb2)
    go_ret
    exact ⟨rfl, HB2.out⟩

/-- What the walk gives, for every argument. -/
theorem contract (H : Type) (enc : TypeId × Value → H) (W : World) (base : Nat) (args : Array Value) (ds gs : List (DataW H)) (before : List MemPlace)
    (hval : ∀ (j : Nat) t v, Tryz.f8.params[j]? = some t → args[j]? = some v → Value.okWide Tryz.prog W .any base t v)
    (hW : DataW.Whole enc Tryz.prog Tryz.f8.params.toList Rows.historyWholeSpec.vars false W args.toList ds gs before) (hsz : (DataW.weightsEach Tryz.prog Tryz.f8.params.toList (ds ++ gs)).all (· ≤ reachBytes) = true) (hr : Ready W) (hw : A1.ParseAt W) :
    Calls Tryz.prog 8 args W fun e W' => ∃ v, e = .returned v ∧ Rows.historyWholeSpec.post enc Tryz.prog Tryz.f8 false true false false W args v W' := by
  have hW' := hW
  have hlt := fun p hp => hW.lt p hp
  obtain ⟨p, q, hA0, hV, rfl, hfz, hnd⟩ := hW
  have hA : DataW.TrodAll enc Tryz.prog W 0 (fun _ => true) true Tryz.f8.params.toList args.toList ds p := hA0
  have hA1 := hA
  obtain ⟨rfl, rfl⟩ := trodVars_none hV
  rw [Tryz.params8] at hA hval
  obtain ⟨v0, vs0, d0, ds0, p0, q0, hargs, rfl, rfl, h0, r0⟩ := trodAll_cons hA
  obtain ⟨v1, vs1, d1, ds1, p1, q1, rfl, rfl, rfl, h1, r1⟩ := trodAll_cons r0
  obtain ⟨v2, vs2, d2, ds2, p2, q2, rfl, rfl, rfl, h2, r2⟩ := trodAll_cons r1
  obtain ⟨rfl, rfl, rfl⟩ := trodAll_nil r2
  obtain rfl : args = #[v0, v1, v2] := by cases args; simp_all
  have fin : ∀ W', Below W.heap.size W W' → Rows.historyWholeSpec.post enc Tryz.prog Tryz.f8 false true false false W #[v0, v1, v2] (.bool true) W' := fun W' hb => by
    simp only [List.append_nil] at hA1 hW' hlt
    exact ⟨_, _, _, [], _, [], hW', trodAll_cons_mk (shut_bool Tryz.underlying4 _) trodAll_mk0, Fr.trodAll_below (by kernel_rfl) _ (by kernel_rfl) hA1 hb hlt, rfl, hb.frame _, fun h => by cases h⟩
  clear hW' hA0 hA1 hlt
  rw [Tryz.params8, List.append_nil] at hsz
  obtain ⟨ua0, ul0, uc0, rfl⟩ := okWide_slice Tryz.underlying84 (hval 0 84 v0 rfl rfl)
  obtain ⟨fu0, hf0⟩ := h0
  obtain ⟨xs0, hx0, hl0, _⟩ := Op.open_rows (R := Sg.byteC) (k := 1) (fun _ => True) Tryz.underlying84 (by kernel_rfl) (by decide) (fun n cs y hl h => byte_row hl h) hf0
  obtain ⟨ua1, ul1, uc1, rfl⟩ := okWide_slice Tryz.underlying84 (hval 1 84 v1 rfl rfl)
  obtain ⟨fu1, hf1⟩ := h1
  obtain ⟨xs1, hx1, hl1, _⟩ := Op.open_rows (R := Sg.byteC) (k := 1) (fun _ => True) Tryz.underlying84 (by kernel_rfl) (by decide) (fun n cs y hl h => byte_row hl h) hf1
  obtain ⟨q2a, q2b, rfl, lq2⟩ := Hy.open_duo_arg (hval 2 48 v2 rfl rfl) h2
  refine  (walk xs0 (.slice ua0 ul0 uc0) xs1 (.slice ua1 ul1 uc1) q2a q2b W hr hw hx0 hl0 hx1 hl1 lq2).mono fun e W' ⟨he, hb⟩ => ?_
  subst he
  exact ⟨_, rfl, fin W' hb⟩

theorem laid_met (os : Os) : laidMet Tryz.prog Rows.historyWholeRow.laid ((Fr.laidE Rows.historyWholeRow.laid os).forCall (fun _ _ => 0) ⟨#[], #[.slice none 0 0, .slice none 0 0, .agg #[.int .u8 0, .int .u8 0]], []⟩).memory :=
  laidMet_of_run' 8 (by kernel_rfl) (by kernel_rfl)
theorem reads (os : Os) {H : Type} (enc : TypeId × Value → H) : ∃ places, DataW.whole enc Tryz.prog ((Fr.laidE Rows.historyWholeRow.laid os).forCall (fun _ _ => 0) ⟨#[], #[.slice none 0 0, .slice none 0 0, .agg #[.int .u8 0, .int .u8 0]], []⟩).memory Tryz.f8.params.toList Rows.historyWholeSpec.vars false (#[.slice none 0 0, .slice none 0 0, .agg #[.int .u8 0, .int .u8 0]] : Array Value).toList 8 = some ([.nil, .nil, .agg [.lit (.int .u8 0), .lit (.int .u8 0)]], [], places) :=
  ⟨[], by kernel_rfl⟩

theorem lifted (os : Os) (started : os.Started) (H : Type) (enc : TypeId × Value → H) (F : Stop.Interp) :
    ReturnsInHanded {} Tryz.checked os 8 .any ((OpenSpec.ofChange Rows.historyWholeSpec).preRow enc Tryz.prog Tryz.f8 Rows.historyWholeRow.domain false Rows.historyWholeRow.laid) (((OpenSpec.ofChange Rows.historyWholeSpec).at F).post enc Tryz.prog Tryz.f8 false true false false) := by
  obtain ⟨places, hx⟩ := reads os enc
  refine returnsInHanded_of_row (C := Tryz.checked) (s := OpenSpec.ofChange Rows.historyWholeSpec) Fr.own started (by kernel_rfl) Tryz.func8
    (witness_row_at (enc := enc) (C := Tryz.checked) false (Fr.laidE Rows.historyWholeRow.laid os) #[.slice none 0 0, .slice none 0 0, .agg #[.int .u8 0, .int .u8 0]] rfl (by kernel_rfl) (by kernel_rfl) (by kernel_rfl)
      (OpenSpec.preRow_of_cond 8 hx (by kernel_rfl) (fun k hk => by cases hk) (by kernel_rfl) (laid_met os))) ?_
  intro W base args ds gs before hval hW _ hcond hsz hlaid hsh _
  exact contract H enc W base args ds gs before hval hW (by have h9 : (DataW.weightsEach Tryz.prog (Tryz.f8.params.toList ++ []) (ds ++ gs)).all (· ≤ reachBytes) = true := hsz; rw [List.append_nil] at h9; exact h9) (Fr.ready hsh) (Fr.parse_laid hlaid (by kernel_rfl) (by repeat first | exact List.mem_cons_self .. | apply List.mem_cons_of_mem) (by repeat first | exact List.mem_cons_self .. | apply List.mem_cons_of_mem) (by repeat first | exact List.mem_cons_self .. | apply List.mem_cons_of_mem))

theorem k_0 : Rows.historyWholeRow.wf (OpenSpec.ofChange (OpenSpec.ofChange Rows.historyWholeSpec).bare) = true := by kernel_rfl
theorem k_1 : laidOutB Tryz.prog = true := Fr.sf_laidOut
theorem k_2 : mapsRowed Tryz.prog = true := Fr.sf_mapsRowed
theorem k_3 : Tryz.f8.params.all (Tryz.prog.readableRec ·) = true := by kernel_rfl
theorem k_4 : namedTie Tryz.prog Rows.historyWholeRow.named (OpenSpec.ofChange Rows.historyWholeSpec).bare.vars = true := by kernel_rfl
theorem k_5 : (Rows.historyWholeRow.stops == []) = true := by kernel_rfl
theorem k_6 : (Tryz.prog.stops == []) = true := Fr.sf_stops
theorem k_7 : (Rows.historyWholeRow.knobs == []) = true := by kernel_rfl
theorem k_8 : (Tryz.prog.stopKnobs == []) = true := Fr.sf_stopKnobs
theorem k_9 : (Rows.historyWholeRow.inPlace == Tryz.prog.inPlace 8) = true := by kernel_rfl
theorem k_10 : (Rows.historyWholeRow.unfollowed == Tryz.prog.unfollowed 8) = true := by kernel_rfl
theorem k_11 : (Rows.historyWholeRow.recurses == Tryz.prog.recurses 8) = true := by kernel_rfl
theorem k_12 : (Rows.historyWholeRow.named == Tryz.prog.varsNamed 8) = true := by kernel_rfl
theorem k_13 : (Rows.historyWholeRow.maps == (Tryz.f8.params.toList ++ (OpenSpec.ofChange Rows.historyWholeSpec).bare.plain.varTypes Tryz.prog).any (Tryz.prog.mapsRec ·)) = true := by kernel_rfl
theorem k_14 : (Rows.historyWholeRow.ifaces == (Tryz.f8.params.toList ++ (OpenSpec.ofChange Rows.historyWholeSpec).bare.plain.varTypes Tryz.prog).any (Tryz.prog.ifacesRec ·)) = true := by kernel_rfl
theorem k_15 : (Rows.historyWholeRow.mapsOut == Tryz.prog.mapsAmong Tryz.f8.resultTypes.toList) = true := by kernel_rfl
theorem k_16 : (Rows.historyWholeRow.loops == (Tryz.f8.params.toList ++ (OpenSpec.ofChange Rows.historyWholeSpec).bare.plain.varTypes Tryz.prog).any (Tryz.prog.loopsFrom ·)) = true := by kernel_rfl
theorem k_17 : (Rows.historyWholeRow.wideKeys == (Tryz.f8.params.toList ++ (OpenSpec.ofChange Rows.historyWholeSpec).bare.plain.varTypes Tryz.prog ++ Tryz.f8.resultTypes.toList).any (Tryz.prog.wideKeysFrom ·)) = true := by kernel_rfl
theorem k_18 : (OpenSpec.ofChange Rows.historyWholeSpec).bare.vars.all (Tryz.prog.varReadable ·) = true := by kernel_rfl
theorem k_19 : Tryz.f8.resultTypes.all (fun t => Tryz.prog.readableRec t && decide (t < Tryz.prog.types.size)) = true := by kernel_rfl
theorem k_20 : (Rows.historyWholeRow.ifacesOut == Tryz.f8.resultTypes.toList.any (Tryz.prog.ifacesRec ·)) = true := by kernel_rfl
theorem k_21 : (Rows.historyWholeRow.loopsOut == Tryz.f8.resultTypes.toList.any (Tryz.prog.loopsFrom ·)) = true := by kernel_rfl
theorem k_22 : (Rows.historyWholeRow.plainKeys == Tryz.prog.plainKeys) = true := Fr.sf_plainKeys
theorem k_23 : Rows.historyWholeRow.shortTexts.isNone = true := by kernel_rfl
theorem k_24 : Tryz.prog.stopsHeard = true := Fr.sf_heard
theorem k_25 : Tryz.prog.mayEnter = true := Fr.sf_mayEnter
theorem k_26 : (Rows.historyWholeRow.lifted == Tryz.prog.liftsFinal) = true := Fr.sf_lifted
theorem k_27 : (Tryz.prog.make == some Rows.historyWholeRow.make) = true := Fr.sf_make
theorem k_28 : (Rows.historyWholeRow.kinds == (if Rows.historyWholeRow.domain.isEmpty then [] else Tryz.f8.params.toList.map fun t => match Tryz.prog.underlying t with | some (.int k) => some k | _ => none)) = true := by kernel_rfl
theorem k_29 : (Rows.historyWholeRow.pinned == Rows.historyWholeRow.pinnedBy) = true := by kernel_rfl
theorem k_30 : (Rows.historyWholeRow.veiled == (Tryz.f8.params.toList ++ (OpenSpec.ofChange Rows.historyWholeSpec).bare.plain.varTypes Tryz.prog ++ Tryz.f8.resultTypes.toList).any (Tryz.prog.veiledRec ·)) = true := by kernel_rfl
theorem k_31 : Rows.historyWholeRow.veiledFits Tryz.prog Tryz.f8.params.toList (Tryz.f8.params.toList ++ (OpenSpec.ofChange Rows.historyWholeSpec).bare.plain.varTypes Tryz.prog ++ Tryz.f8.resultTypes.toList) = true := by kernel_rfl
theorem closed : joinedFacts Tryz.prog 8 Tryz.f8 (OpenSpec.ofChange Rows.historyWholeSpec).bare Rows.historyWholeRow = true := Op.andT (Op.andT (Op.andT (Op.andT (Op.andT (Op.andT (Op.andT (Op.andT (Op.andT (Op.andT (Op.andT (Op.andT (Op.andT (Op.andT (Op.andT (Op.andT (Op.andT (Op.andT (Op.andT (Op.andT (Op.andT (Op.andT (Op.andT (Op.andT (Op.andT (Op.andT (Op.andT (Op.andT (Op.andT (Op.andT (Op.andT (k_0) k_1) k_2) k_3) k_4) k_5) k_6) k_7) k_8) k_9) k_10) k_11) k_12) k_13) k_14) k_15) k_16) k_17) k_18) k_19) k_20) k_21) k_22) k_23) k_24) k_25) k_26) k_27) k_28) k_29) k_30) k_31

theorem said : Rows.HistoryWholeSaid :=
  OpenClaim.holds_of_cond 8 Tryz.f8 rfl rfl rfl rfl rfl rfl rfl ⟨rfl, rfl, rfl, rfl, rfl⟩ rfl rfl rfl rfl rfl (by kernel_rfl) Tryz.func8 closed
    (of_decide_eq_true (by kernel_rfl)) (by unfold Func.isWrapper; first | (rw [if_pos (by decide +kernel)]; kernel_rfl) | (rw [if_neg (by decide +kernel)]; exact ⟨rfl, rfl⟩))
    (fun os started H enc _ F => by rw [OpenClaim.pre_eq_preRow]; exact lifted os started H enc F)

theorem plain (b : Bool) (hb : b = Tryz.pinned.checked.prog.looks []) (f : FuncId) (fn : Func) (hf : Tryz.pinned.checked.prog.funcNamed "quayside/quaysidelaw58.HistoryWhole" = some f) (hfn : Tryz.pinned.checked.prog.funcs[f]? = some fn) :
    b = Tryz.pinned.checked.prog.looks [] ∧ ∀ (j : Nat) t, fn.params[j]? = some t → Tryz.pinned.checked.prog.wantsStandIn t = false := by
  obtain rfl : f = 8 := Option.some.inj ((show Tryz.prog.funcNamed "quayside/quaysidelaw58.HistoryWhole" = some 8 by kernel_rfl).symm.trans hf) |>.symm
  obtain rfl : fn = Tryz.f8 := (Option.some.inj (Tryz.func8.symm.trans hfn)).symm
  refine ⟨hb, fun j t ht => ?_⟩
  rw [Tryz.params8] at ht
  have hm : t ∈ [84, 48] := by simpa using Array.mem_of_getElem? ht
  have hall : ([84, 48].all fun u => !Tryz.prog.wantsStandIn u) = true := by kernel_rfl
  exact (show Tryz.prog.wantsStandIn t = false by simpa using List.all_eq_true.1 hall t hm)

theorem proved : Rows.HistoryWholeCardSaid :=
  Claim7.holds_tied_plain_at .later [] _ _ _ _ said (fun _ h => by cases h) (by kernel_rfl) (fun _ h => by cases h) historyWhole_row_tie rfl ⟨rfl, rfl⟩ (by kernel_rfl) rfl (plain _ (by kernel_rfl)) (by kernel_rfl)
#print axioms proved
end Go.Proofs.YtjijijjkkhpjnaaGreatDoor.lawHistoryWhole
