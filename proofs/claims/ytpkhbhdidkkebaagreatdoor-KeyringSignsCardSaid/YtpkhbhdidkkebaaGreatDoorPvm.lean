/- Contracts and plain facts that the statement's proof leans on (texts joined). No condition beyond those that each names. -/
import Derived.Deep.Slices
import Derived.Deep.Fields
import Derived.ChangeSame
import Derived.Lib.SmallJoins
import Derived.Below
import Derived.SliceStrings
import Derived.Deep.Strs
import Derived.Test.YtpkhbhdidkkebaaGreatDoorPvA
import Derived.Test.YtpkhbhdidkkebaaGreatDoorPvB
import Derived.Test.YtpkhbhdidkkebaaGreatDoorPvK
import Derived.Test.YtpkhbhdidkkebaaGreatDoorPvU
import Derived.Test.YtpkhbhdidkkebaaGreatDoorPvl
section
namespace Go.Proofs.YtpkhbhdidkkebaaGreatDoor
open Go.RowKit Pl Ad
set_option maxRecDepth 100000
set_option linter.unusedVariables false
namespace Kr
/-- A round's state: the ring, the reference's list, what they share. -/
structure PlS (w0 wr : World) (R : Nat) (V : Nat → Value) (E : Nat → List Ent) (v : Value) (ml : KL) : Prop where
 bel : Below w0.heap.size w0 wr
 ring : RingAt wr w0.heap.size R V E
 ref : RefAt wr w0.heap.size v ml
 mat : Match E ml
 sec : ∀ e ∈ ml, e.2.sec.length ≤ 1000000
theorem PlS.older {w0 wr w' : World} {R : Nat} {V : Nat → Value} {E : Nat → List Ent} {v : Value} {ml : KL} (h : PlS w0 wr R V E v ml) (hb : Below wr.heap.size wr w') : PlS w0 w' R V E v ml :=
 ⟨h.bel.trans (hb.mono h.bel.size), h.ring.older hb, h.ref.older hb, h.mat, h.sec⟩
theorem PlS.secs {w0 wr : World} {R : Nat} {V : Nat → Value} {E : Nat → List Ent} {v : Value} {ml : KL} (h : PlS w0 wr R V E v ml) : ∀ t, t < 16 → ∀ e ∈ E t, e.key.sec.length ≤ 1000000 := fun t ht e he => by
 have h1 : e.key ∈ keysOf E (t : Int) := by unfold keysOf; rw [tlK_nat E ht]; exact List.mem_map_of_mem he
 rw [h.mat] at h1
 unfold per at h1
 obtain ⟨x, hx, hxe⟩ := List.mem_map.1 h1
 rw [← hxe]
 exact h.sec x (List.mem_filter.1 hx).1
theorem actB {w : World} {q kd tn s : Nat} {id : Bs} {x y z at_ : Int} (h : Bx w q 69 #[.int .u8 (kd : Int), .int .u8 (tn : Int), .int .u8 (s : Int), .string ⟨id.toArray⟩, .int .i64 x, .int .i64 y, .int .i64 z, .int .i64 at_]) :
 w.cell? ⟨q, 0, none⟩ = some (.int .u8 (kd : Int)) ∧ w.cell? ⟨q, 1, none⟩ = some (.int .u8 (tn : Int)) ∧ w.cell? ⟨q, 2, none⟩ = some (.int .u8 (s : Int)) ∧ w.cell? ⟨q, 3, none⟩ = some (.string ⟨id.toArray⟩) ∧ w.cell? ⟨q, 4, none⟩ = some (.int .i64 x) ∧ w.cell? ⟨q, 5, none⟩ = some (.int .i64 y) ∧ w.cell? ⟨q, 6, none⟩ = some (.int .i64 z) ∧ w.cell? ⟨q, 7, none⟩ = some (.int .i64 at_) :=
 ⟨h.cell rfl, h.cell rfl, h.cell rfl, h.cell rfl, h.cell rfl, h.cell rfl, h.cell rfl, h.cell rfl⟩
theorem addR_len (ml : KL) (t : Int) (k : KeyM) : (addR ml t k).length ≤ ml.length + 1 := by
 unfold addR; split <;> simp
theorem pls_add {w w7 w8 wA : World} {R : Nat} {V V8 : Nat → Value} {E E8 : Nat → List Ent} {v vA : Value} {ml : KL} {t : Int} {k : KeyM} (h : PlS w w7 R V E v ml) (hb : Below w.heap.size w w8) (hr : RingAt w8 w.heap.size R V8 E8) (hst : KStep E E8 t (addL t (keysOf E t) k))
    (hbA : Below w8.heap.size w8 wA) (hv : RefAt wA w.heap.size vA (addR ml t k)) (hs : k.sec.length ≤ 1000000) : PlS w wA R V8 E8 vA (addR ml t k) := by
 refine ⟨hb.trans (hbA.mono hb.size), hr.older hbA, hv, fun s => ?_, fun e he => ?_⟩
 ·rw [hst s, addR_per, h.mat t, h.mat s]
 ·unfold addR at he
  split at he
  ·rcases List.mem_append.1 he with he | he
   ·exact h.sec e he
   ·rw [List.mem_singleton.1 he]; exact hs
  ·exact h.sec e he
theorem pls_find {w0 wr : World} {R : Nat} {V : Nat → Value} {E : Nat → List Ent} {v : Value} {ml : KL} (h : PlS w0 wr R V E v ml) (t : Int) (id : Bs) : (findE (tlK E t) id).map Ent.key = (per ml t).find? fun k => k.id == id := by
 rw [← h.mat t]
 unfold keysOf findE
 rw [List.find?_map]
 rfl
theorem pls_len {w0 wr : World} {R : Nat} {V : Nat → Value} {E : Nat → List Ent} {v : Value} {ml : KL} (h : PlS w0 wr R V E v ml) (t : Int) : (tlK E t).length ≤ ml.length := match_len h.mat t
theorem pls_sec {w0 wr : World} {R : Nat} {V : Nat → Value} {E : Nat → List Ent} {v : Value} {ml : KL} (h : PlS w0 wr R V E v ml) (t : Int) : ∀ e ∈ tlK E t, e.key.sec.length ≤ 1000000 := fun e he => by
 unfold tlK at he
 split at he
 ·rename_i ht
  exact h.secs t.toNat (by omega) e he
 ·cases he
end Kr
end Go.Proofs.YtpkhbhdidkkebaaGreatDoor
end

section
section
namespace Go.Proofs.YtpkhbhdidkkebaaGreatDoor.Op
open Go.ChangeShapes Go.WideShapes Go.Deep

theorem list_of {α : Type} {R : Nat → α → Prop} : ∀ (n : Nat), (∀ i, i < n → ∃ x, R i x) → ∃ l : List α, l.length = n ∧ ∀ (i : Nat) (h : i < l.length), R i l[i]
  | 0, _ => ⟨[], rfl, fun i h => absurd h (Nat.not_lt_zero _)⟩
  | n + 1, h => by
    obtain ⟨l, hl, hR⟩ := list_of n fun i hi => h i (by omega)
    obtain ⟨x, hx⟩ := h n (by omega)
    refine ⟨l ++ [x], by simp [hl], fun i hi => ?_⟩
    by_cases hn : i < l.length
    ·rw [List.getElem_append_left hn]; exact hR i hn
    ·have e : i = n := by simp at hi; omega
     subst e
     rw [List.getElem_append_right (by omega)]
     simpa using hx

theorem cell_lt {w : World} {b o : Nat} {v : Value} (h : w.cell? ⟨b, o, none⟩ = some v) : b < w.heap.size := by
 unfold World.cell? at h
 split at h
 ·rename_i h3; exact (Array.getElem?_eq_some_iff.1 h3).1
 ·cases h

section
variable {H : Type} {enc : TypeId × Value → H} {P : Program} {w : World} {base : Nat} {spare : Nat → Bool} {held : Bool}
end

theorem add_off {b o k : Nat} : (⟨b, o, none⟩ : Addr).add k = ⟨b, o + k, none⟩ := by unfold Addr.add; split <;> simp_all
end Go.Proofs.YtpkhbhdidkkebaaGreatDoor.Op
end

section
namespace Go.Proofs.YtpkhbhdidkkebaaGreatDoor.Op
open Go.ChangeShapes Go.WideShapes Go.Deep Go.RowKit Pl A1
end Go.Proofs.YtpkhbhdidkkebaaGreatDoor.Op
end

section
namespace Go.Proofs.YtpkhbhdidkkebaaGreatDoor.Op
open Go.ChangeShapes Go.WideShapes Go.Deep Go.RowKit Pl A1
set_option maxRecDepth 100000
end Go.Proofs.YtpkhbhdidkkebaaGreatDoor.Op
end
end

section
namespace Go.Proofs.YtpkhbhdidkkebaaGreatDoor
open Go.RowKit Pl
namespace A1
/-- A value holds these rows: R tells an element's cells, k how many. -/
def RowsV {α : Type} (R : α → List Value) (k : Nat) (w : World) (v : Value) (xs : List α) : Prop :=
 (xs = [] ∧ (v = .slice none 0 0 ∨ ∃ a c, v = .slice (some a) 0 c)) ∨
 ∃ b o c : Nat, v = .slice (some ⟨b, o, none⟩) xs.length c ∧ xs.length ≤ c ∧ b < w.heap.size ∧ ∀ i x, xs[i]? = some x → ∀ j u, (R x)[j]? = some u → w.cell? ⟨b, o + (i * k + j), none⟩ = some u
section
variable {α : Type} {R : α → List Value} {k : Nat} {w w' : World} {v : Value} {xs : List α}
theorem RowsV.below (h : RowsV R k w v xs) (hb : Below w.heap.size w w') : RowsV R k w' v xs := by
 rcases h with h | ⟨b, o, c, h1, h2, h3, h4⟩
 ·exact .inl h
 ·exact .inr ⟨b, o, c, h1, h2, Nat.lt_of_lt_of_le h3 hb.size, fun i x hx j u hu => by rw [hb.cell (p := ⟨b, _, none⟩) h3]; exact h4 i x hx j u hu⟩
theorem RowsV.drew (h : RowsV R k w v xs) : RowsV R k w.drew v xs := h.below (Below.refl _ _).drew
theorem RowsV.drewN (h : RowsV R k w v xs) (q : Nat) : RowsV R k (w.drewN q) v xs := h.below (below_drewN (Below.refl _ _) q)
theorem RowsV.alloc (h : RowsV R k w v xs) (o : Obj) : RowsV R k (w.alloc o) v xs := h.below ((Below.refl _ _).alloc (Nat.le_refl _) o)
theorem RowsV.form (h : RowsV R k w v xs) : ∃ a c, v = .slice a xs.length c ∧ xs.length ≤ c := by
 rcases h with ⟨rfl, rfl | ⟨a, c, rfl⟩⟩ | ⟨b, o, c, rfl, h, _⟩
 ·exact ⟨_, _, rfl, Nat.le_refl _⟩
 ·exact ⟨_, _, rfl, Nat.zero_le _⟩
 ·exact ⟨_, _, rfl, h⟩
theorem RowsV.nil : RowsV R k w (.slice none 0 0) [] := .inl ⟨rfl, .inl rfl⟩
theorem RowsV.touch {S : Nat → Prop} (h : RowsV R k w v xs) (ht : Touch S w w') (hn : ∀ q, v.ownBlock = some q → ¬ S q) : RowsV R k w' v xs := by
 rcases h with h | ⟨b, o, c, h1, h2, h3, h4⟩
 ·exact .inl h
 ·refine .inr ⟨b, o, c, h1, h2, Nat.lt_of_lt_of_le h3 ht.size, fun i x hx j u hu => ht.cell (h4 i x hx j u hu) (hn b ?_)⟩
  rw [h1]; rfl
end
end A1
namespace Op
open Go.ChangeShapes Go.WideShapes Go.Deep A1
set_option maxRecDepth 100000
/-- An argument that is a slice of structs: each row's form is told by hrow; K is what else is known of an element. -/
theorem open_rows {α H : Type} {enc : TypeId × Value → H} {P : Program} {w : World} {base : Nat} {spare : Nat → Bool} {held : Bool} {R : α → List Value} {k : Nat} (K : α → Prop) {t e : TypeId} {fuel : Nat} {v : Value} {x : DataW H × List MemPlace}
    (ht : P.underlying t = some (.slice e)) (hC : P.cellsOf e = k) (hk : 0 < k)
    (hrow : ∀ n cs y, cs.length = k → DataW.trod enc P w base spare held n e cs = some y → ∃ x : α, cs = R x ∧ K x)
    (h : DataW.trod enc P w base spare held fuel t [v] = some x) : ∃ xs : List α, RowsV R k w v xs ∧ xs.length ≤ 9223372036854775807 ∧ ∀ x ∈ xs, K x := by
 rcases open_slice ht h with ⟨h1, _⟩ | ⟨a, len, cap, m, n, D, Pl, hcs, hb, hl, hm, hmm, _, hi⟩
 ·simp only [List.cons.injEq, and_true] at h1
  exact ⟨[], .inl ⟨rfl, .inl h1⟩, by simp, fun x hx => by cases hx⟩
 ·simp only [List.cons.injEq, and_true] at hcs
  subst hcs
  have hmax : maxLen = 9223372036854775807 := rfl
  rcases Nat.eq_zero_or_pos len with h0 | h0
  ·subst h0
   exact ⟨[], .inl ⟨rfl, .inr ⟨a, cap, rfl⟩⟩, by simp, fun x hx => by cases hx⟩
  ·have hle : len ≤ m := by rw [hmm]; split <;> omega
   have hg : ∀ i, i < len → ∃ x : α, K x ∧ ∀ j u, (R x)[j]? = some u → w.cell? (a.add (i * k + j)) = some u := fun i hil => by
    obtain ⟨cs', hc, ht'⟩ := hi i (by omega)
    rw [hC] at hc
    obtain ⟨_, hcl, hat⟩ := World.cells?_some hc
    obtain ⟨x, hx, hkx⟩ := hrow n cs' _ hcl ht'
    refine ⟨x, hkx, fun j u hu => ?_⟩
    have hj : j < k := by
     have := (List.getElem?_eq_some_iff.1 hu).1
     rw [← hx, hcl] at this; exact this
    rw [← Go.Deep.add_add, hat j hj, hx]; exact hu
   obtain ⟨xs, hxl, hxs⟩ := list_of len hg
   obtain ⟨b, o, sp⟩ := a
   obtain ⟨x0, _, hx0⟩ := hg 0 h0
   obtain ⟨cs0, hc0, ht0⟩ := hi 0 (by omega)
   rw [hC] at hc0
   obtain ⟨_, hcl0, hat0⟩ := World.cells?_some hc0
   have h00 := hat0 0 hk
   have hsome : w.cell? ((Addr.add (Addr.add ⟨b, o, sp⟩ (0 * k)) 0)) = some (cs0[0]'(by omega)) := by rw [h00]; exact List.getElem?_eq_getElem (by omega)
   rw [Go.Deep.add_add] at hsome
   obtain rfl : sp = none := by simpa [Addr.add] using World.cell?_spot hsome
   rw [add_off] at hsome
   refine ⟨xs, .inr ⟨b, o, cap, by rw [hxl], by omega, cell_lt hsome, fun i x hx j u hu => ?_⟩, by omega, fun x hx => ?_⟩
   ·obtain ⟨hil, hix⟩ := List.getElem?_eq_some_iff.1 hx
    have := (hxs i hil).2 j u (by rw [hix]; exact hu)
    rw [add_off] at this
    exact this
   ·obtain ⟨i, hil, rfl⟩ := List.getElem_of_mem hx
    exact (hxs i hil).1
end Op
end Go.Proofs.YtpkhbhdidkkebaaGreatDoor
end

section
namespace Go.Proofs.YtpkhbhdidkkebaaGreatDoor
open Go.RowKit Pl
namespace Sg
open Go.ChangeShapes Go.WideShapes Go.Deep A1
set_option maxRecDepth 100000
theorem u8_range {n : Int} (h : (Lit.int .u8 n).wf = true) : 0 ≤ n ∧ n < 256 := by
 have e1 : IntKind.min .u8 = 0 := rfl
 have e2 : IntKind.max .u8 = 255 := rfl
 simp only [Lit.wf, Bool.and_eq_true, decide_eq_true_eq, e1, e2] at h
 omega
end Sg
end Go.Proofs.YtpkhbhdidkkebaaGreatDoor
end

section
namespace Go.Proofs.YtpkhbhdidkkebaaGreatDoor
namespace Ad
end Ad
open Go.ChangeShapes Go.WideShapes Go.Deep Go.RowKit Pl A1 Ad
set_option maxRecDepth 100000
namespace Ad
/-- An act of the keyring's laws. -/
structure KAct where
 kd : Nat
 tn : Nat
 s : Nat
 id : Bs
 x : Int
 y : Int
 z : Int
 at_ : Int
def actK (a : KAct) : List Value := [.int .u8 (a.kd : Int), .int .u8 (a.tn : Int), .int .u8 (a.s : Int), .string ⟨a.id.toArray⟩, .int .i64 a.x, .int .i64 a.y, .int .i64 a.z, .int .i64 a.at_]
def KAct.ok (a : KAct) : Prop := a.kd < 256 ∧ a.tn < 256 ∧ a.s < 256
end Ad
namespace A1
/-- An element's cells. -/
theorem RowsV.rowAt {α : Type} {R : α → List Value} {k : Nat} {w : World} {a : Option Addr} {n c : Nat} {xs : List α} (h : RowsV R k w (.slice a n c) xs) {i : Nat} {x : α} (hx : xs[i]? = some x) :
 ∃ b o, a = some ⟨b, o, none⟩ ∧ xs.length ≤ c ∧ b < w.heap.size ∧ ∀ j u, (R x)[j]? = some u → w.cell? ⟨b, o + i * k + j, none⟩ = some u := by
 rcases h with ⟨rfl, _⟩ | ⟨b, o, c', h1, h2, h3, h4⟩
 ·simp at hx
 ·cases h1
  exact ⟨b, o, rfl, h2, h3, fun j u hu => by rw [Nat.add_assoc]; exact h4 i x hx j u hu⟩
end A1
namespace Op
theorem actK_trod {H : Type} {enc : TypeId × Value → H} {w : World} {base n : Nat} {spare : Nat → Bool} {held : Bool} {cs : List Value} {y : DataW H × List MemPlace} (hl : cs.length = 8)
    (h : DataW.trod enc Tryz.prog w base spare held n 69 cs = some y) : ∃ x : KAct, cs = actK x ∧ x.ok := by
 obtain ⟨xs, m, _, _, _, hlen, hf⟩ := DataW.trod_struct Tryz.underlying69 h
 match cs, hl with
 | [c0, c1, c2, c3, c4, c5, c6, c7], _ =>
   have hl8 : xs.length = 8 := hlen
   have g0 := hf 0 _ rfl
   have g1 := hf 1 _ rfl
   have g2 := hf 2 _ rfl
   have g3 := hf 3 _ rfl
   have g4 := hf 4 _ rfl
   have g5 := hf 5 _ rfl
   have g6 := hf 6 _ rfl
   have g7 := hf 7 _ rfl
   rw [List.getElem?_eq_getElem (by omega)] at g0 g1 g2 g3 g4 g5 g6 g7
   obtain ⟨k0, e0, _, w0⟩ := DataW.trod_int Tryz.underlying5 g0
   obtain ⟨k1, e1, _, w1⟩ := DataW.trod_int Tryz.underlying5 g1
   obtain ⟨k2, e2, _, w2⟩ := DataW.trod_int Tryz.underlying5 g2
   obtain ⟨⟨⟨l⟩⟩, e3, _, _⟩ := DataW.trod_string Tryz.underlying9 g3
   obtain ⟨k4, e4, _, _⟩ := DataW.trod_int Tryz.underlying3 g4
   obtain ⟨k5, e5, _, _⟩ := DataW.trod_int Tryz.underlying3 g5
   obtain ⟨k6, e6, _, _⟩ := DataW.trod_int Tryz.underlying3 g6
   obtain ⟨k7, e7, _, _⟩ := DataW.trod_int Tryz.underlying3 g7
   have e0' : [c0] = [Value.int .u8 k0] := e0
   have e1' : [c1] = [Value.int .u8 k1] := e1
   have e2' : [c2] = [Value.int .u8 k2] := e2
   have e3' : [c3] = [Value.string ⟨⟨l⟩⟩] := e3
   have e4' : [c4] = [Value.int .i64 k4] := e4
   have e5' : [c5] = [Value.int .i64 k5] := e5
   have e6' : [c6] = [Value.int .i64 k6] := e6
   have e7' : [c7] = [Value.int .i64 k7] := e7
   cases e0'; cases e1'; cases e2'; cases e3'; cases e4'; cases e5'; cases e6'; cases e7'
   have r0 := Sg.u8_range w0
   have r1 := Sg.u8_range w1
   have r2 := Sg.u8_range w2
   refine ⟨⟨k0.toNat, k1.toNat, k2.toNat, l, k4, k5, k6, k7⟩, ?_, by simp only; omega, by simp only; omega, by simp only; omega⟩
   unfold actK
   simp only
   rw [Int.toNat_of_nonneg r0.1, Int.toNat_of_nonneg r1.1, Int.toNat_of_nonneg r2.1]
theorem actsK_trod {H : Type} {enc : TypeId × Value → H} {w : World} {base n : Nat} {spare : Nat → Bool} {held : Bool} {v : Value} {y : DataW H × List MemPlace}
    (h : DataW.trod enc Tryz.prog w base spare held n 62 [v] = some y) : ∃ xs : List KAct, RowsV actK 8 w v xs ∧ xs.length ≤ 9223372036854775807 ∧ ∀ a ∈ xs, a.ok :=
 open_rows (R := actK) (k := 8) (fun a => a.ok) Tryz.underlying62 (by kernel_rfl) (by decide) (fun n cs y hl h => actK_trod hl h) h
theorem open_ask {H : Type} {enc : TypeId × Value → H} {w : World} {base : Nat} {spare : Nat → Bool} {held : Bool} {v : Value} {d : DataW H} {p : List MemPlace} {r : Reach} {b0 : Nat}
    (hv : Value.okWide Tryz.prog w r b0 66 v) (h : DataW.Trod enc Tryz.prog w base spare held 66 v d p) :
    ∃ (u : Value) (xs : List KAct) (lh lp lq : Bs) (lb : Bool) (tn : Nat) (id : Bs) (frm til : Int) (sn : Nat) (now : Int) (d0 : DataW H), v = .agg #[u, .string ⟨lh.toArray⟩, .string ⟨lp.toArray⟩, .string ⟨lq.toArray⟩, .bool lb, .int .u8 (tn : Int), .string ⟨id.toArray⟩, .int .i64 frm, .int .i64 til, .int .u8 (sn : Int), .int .i64 now] ∧
      RowsV actK 8 w u xs ∧ xs.length ≤ 9223372036854775807 ∧ (∀ a ∈ xs, a.ok) ∧ tn < 256 ∧ sn < 256 ∧
      d = .agg [d0, .agg [.lit (.string lh), .lit (.string lp), .lit (.string lq), .lit (.bool lb)], .lit (.int .u8 (tn : Int)), .agg [.lit (.string id), .lit (.int .i64 frm), .lit (.int .i64 til)], .lit (.int .u8 (sn : Int)), .lit (.int .i64 now)] := by
 obtain ⟨cs, rfl, hsz⟩ : ∃ cs, v = .agg cs ∧ cs.size = 11 := by
  unfold Value.okWide at hv
  rw [Tryz.underlying66] at hv
  obtain ⟨cs, h1, h2, _⟩ := hv
  exact ⟨cs, h1, h2.trans (by kernel_rfl)⟩
 obtain ⟨fuel, hf⟩ := h
 obtain ⟨xs, m, _, hx, _, hlen, hg⟩ := DataW.trod_struct Tryz.underlying66 hf
 obtain ⟨l⟩ := cs
 have hl : l.length = 11 := hsz
 match l, hl with
 | [a0, a1, a2, a3, a4, a5, a6, a7, a8, a9, a10], _ =>
   have hl6 : xs.length = 6 := hlen
   match xs, hl6 with
   | [y0, y1, y2, y3, y4, y5], _ =>
     have g0 : DataW.trod enc Tryz.prog w base spare held m 62 [a0] = some y0 := hg 0 _ rfl
     have g1 : DataW.trod enc Tryz.prog w base spare held m 63 [a1, a2, a3, a4] = some y1 := hg 1 _ rfl
     have g2 : DataW.trod enc Tryz.prog w base spare held m 5 [a5] = some y2 := hg 2 _ rfl
     have g3 : DataW.trod enc Tryz.prog w base spare held m 64 [a6, a7, a8] = some y3 := hg 3 _ rfl
     have g4 : DataW.trod enc Tryz.prog w base spare held m 5 [a9] = some y4 := hg 4 _ rfl
     have g5 : DataW.trod enc Tryz.prog w base spare held m 3 [a10] = some y5 := hg 5 _ rfl
     obtain ⟨acts, ha, hal, hok⟩ := actsK_trod g0
     obtain ⟨z0, z1, z2, z3, n, hz, _, k0, k1, k2, k3⟩ := Go.Joins.trod_struct4 Tryz.underlying63 g1
     obtain ⟨⟨⟨lh⟩⟩, e0, f0, _⟩ := DataW.trod_string Tryz.underlying9 k0
     obtain ⟨⟨⟨lp⟩⟩, e1, f1, _⟩ := DataW.trod_string Tryz.underlying9 k1
     obtain ⟨⟨⟨lq⟩⟩, e2, f2, _⟩ := DataW.trod_string Tryz.underlying9 k2
     obtain ⟨lb, e3, f3⟩ := DataW.trod_bool Tryz.underlying4 k3
     obtain ⟨t0, t1, t2, n2, ht, _, j0, j1, j2⟩ := trod_struct3 Tryz.underlying64 g3
     obtain ⟨⟨⟨id⟩⟩, e6, f6, _⟩ := DataW.trod_string Tryz.underlying9 j0
     obtain ⟨frm, e7, f7, _⟩ := DataW.trod_int Tryz.underlying3 j1
     obtain ⟨til, e8, f8, _⟩ := DataW.trod_int Tryz.underlying3 j2
     obtain ⟨tn, e5, f5, w5⟩ := DataW.trod_int Tryz.underlying5 g2
     obtain ⟨sn, e9, f9, w9⟩ := DataW.trod_int Tryz.underlying5 g4
     obtain ⟨now, e10, f10, _⟩ := DataW.trod_int Tryz.underlying3 g5
     have r5 := Sg.u8_range w5
     have r9 := Sg.u8_range w9
     have e0' : [a1] = [Value.string ⟨⟨lh⟩⟩] := e0
     have e1' : [a2] = [Value.string ⟨⟨lp⟩⟩] := e1
     have e2' : [a3] = [Value.string ⟨⟨lq⟩⟩] := e2
     have e3' : [a4] = [Value.bool lb] := e3
     have e5' : [a5] = [Value.int .u8 tn] := e5
     have e6' : [a6] = [Value.string ⟨⟨id⟩⟩] := e6
     have e7' : [a7] = [Value.int .i64 frm] := e7
     have e8' : [a8] = [Value.int .i64 til] := e8
     have e9' : [a9] = [Value.int .u8 sn] := e9
     have e10' : [a10] = [Value.int .i64 now] := e10
     cases e0'; cases e1'; cases e2'; cases e3'; cases e5'; cases e6'; cases e7'; cases e8'; cases e9'; cases e10'
     refine ⟨a0, acts, lh, lp, lq, lb, tn.toNat, id, frm, til, sn.toNat, now, y0.1, ?_, ha, hal, hok, by omega, by omega, ?_⟩
     ·rw [Int.toNat_of_nonneg r5.1, Int.toNat_of_nonneg r9.1]
     ·have q1 := congrArg Prod.fst hx
      have q2 := congrArg Prod.fst hz
      have q3 := congrArg Prod.fst ht
      simp only [List.map_cons, List.map_nil] at q1 q2 q3
      rw [q1, q2, q3, f0, f1, f2, f3, f5, f6, f7, f8, f9, f10, Int.toNat_of_nonneg r5.1, Int.toNat_of_nonneg r9.1]
theorem ask_lens {H : Type} {ts : List TypeId} {ds : List (DataW H)} (h : (DataW.weightsEach Tryz.prog ts ds).all (· ≤ reachBytes) = true) {j : Nat} {lh lp lq id : Bs} {lb : Bool} {tn sn frm til now : Int} {e : DataW H} (ht : ts[j]? = some 66)
    (hd : ds[j]? = some (.agg [e, .agg [.lit (.string lh), .lit (.string lp), .lit (.string lq), .lit (.bool lb)], .lit (.int .u8 tn), .agg [.lit (.string id), .lit (.int .i64 frm), .lit (.int .i64 til)], .lit (.int .u8 sn), .lit (.int .i64 now)])) :
    lh.length ≤ 140737488351232 ∧ lp.length ≤ 140737488351232 ∧ lq.length ≤ 140737488351232 ∧ id.length ≤ 140737488351232 := by
 have k := fun n hn => List.all_eq_true.1 h _ (DataW.weights_mem_each ht hd n hn)
 have e1 : reachBytes = 140737488351232 := rfl
 have g : ∀ n, n ∈ DataW.weights Tryz.prog 66 (.agg [e, .agg [.lit (.string lh), .lit (.string lp), .lit (.string lq), .lit (.bool lb)], .lit (.int .u8 tn), .agg [.lit (.string id), .lit (.int .i64 frm), .lit (.int .i64 til)], .lit (.int .u8 sn), .lit (.int .i64 now)]) → n ≤ 140737488351232 := fun n hn => by simpa [e1] using k n hn
 have u1 := Tryz.underlying66
 have u2 := Tryz.underlying63
 have u3 := Tryz.underlying64
 exact ⟨g _ (by simp [DataW.weights, DataW.weightsEach, u1, u2]), g _ (by simp [DataW.weights, DataW.weightsEach, u1, u2]), g _ (by simp [DataW.weights, DataW.weightsEach, u1, u2]), g _ (by simp [DataW.weights, DataW.weightsEach, u1, u3])⟩
end Op
end Go.Proofs.YtpkhbhdidkkebaaGreatDoor
end

