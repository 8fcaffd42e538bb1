/- Contracts and plain facts that the statement's proof leans on (texts joined). No condition beyond those that each names. -/
import Derived.Test.YtpkhbhdidkkebaaGreatDoorPvA
import Derived.Test.YtpkhbhdidkkebaaGreatDoorPvB
import Derived.Test.YtpkhbhdidkkebaaGreatDoorPvD
section
namespace Go.Proofs.YtpkhbhdidkkebaaGreatDoor
open Go.RowKit Pl Ad
set_option maxRecDepth 100000
set_option linter.unusedVariables false
theorem SrcAt.older {w w' : World} {u : Value} {m : Nat} {C : List Value} (h : SrcAt w u m C) (hb : Below w.heap.size w w') : SrcAt w' u m C := by
 rcases h with h | ⟨a, c, h1, h2⟩
 ·exact .inl h
 ·exact .inr ⟨a, c, h1, fun j x hx => (hb.cell (p := a.add j) (World.block_lt_of_cell? w (a.add j) (h2 j x hx))).trans (h2 j x hx)⟩
namespace Kr
/-- Block R holds these cells. -/
def Bx (w : World) (R T : Nat) (cs : Array Value) : Prop := w.heap[R]? = some (.cells cs T (0, 0))
section
variable {w w' : World} {R T : Nat} {cs : Array Value}
theorem Bx.lt (h : Bx w R T cs) : R < w.heap.size := (Array.getElem?_eq_some_iff.1 h).1
theorem Bx.cell (h : Bx w R T cs) {i : Nat} {v : Value} (hi : cs[i]? = some v) : w.cell? ⟨R, i, none⟩ = some v := by rw [cell_of_row w R i _ _ _ h]; exact hi
theorem Bx.frz (h : Bx w R T cs) (i : Nat) : w.frozen? ⟨R, i, none⟩ = false := frozen_of_row w R i _ _ h
theorem Bx.older (h : Bx w R T cs) (hb : Below w.heap.size w w') : Bx w' R T cs := (hb.block R h.lt).trans h
theorem Bx.below {B : Nat} (h : Bx w R T cs) (hb : Below B w w') (hR : R < B) : Bx w' R T cs := (hb.block R hR).trans h
theorem Bx.touch {S : Nat → Prop} (h : Bx w R T cs) (ht : Touch S w w') (hn : ¬ S R) : Bx w' R T cs := (ht.block R h.lt hn).trans h
theorem Bx.new (w : World) (T : Nat) (cs : Array Value) : Bx (w.alloc (.cells cs T)) w.heap.size T cs := heap_alloc_new w _
theorem Bx.set (h : Bx w R T cs) (i : Nat) (u : Value) : Bx (w.setCell ⟨R, i, none⟩ u) R T (cs.setIfInBounds i u) := by
 unfold Bx at h ⊢
 unfold World.setCell
 simp only [Array.getElem?_modify, if_true, h, Option.map_some]
 rfl
theorem Bx.inj {T' : Nat} {cs' : Array Value} (h : Bx w R T cs) (h' : Bx w R T' cs') : T = T' ∧ cs = cs' := by
 have := Option.some.inj (h.symm.trans h')
 injection this with e1 e2
 exact ⟨e2, e1⟩
theorem Bx.ne {R' T' : Nat} {cs' : Array Value} (h : Bx w R T cs) (h' : Bx w R' T' cs') (hT : T ≠ T') : ¬ R = R' := fun e => by
 subst e; exact hT (h.inj h').1
theorem Bx.neOwn {B e size n : Nat} {u : Value} {xs : List Value} (h : Bx w R T cs) (ho : OwnWin w B e size u n xs) (hne : e ≠ T) : ∀ q, u.ownBlock = some q → ¬ q = R := fun q hq e' => by
 subst e'
 rcases ho.2 with ⟨rfl, _⟩ | ⟨g, o, cap, cur, rfl, _, hg, _⟩
 ·cases hq
 ·simp [Value.ownBlock] at hq
  subst hq
  have := Option.some.inj (h.symm.trans hg)
  injection this with _ e2
  exact absurd e2.symm hne
end
theorem own_neOwn {w : World} {B B' e e' size size' n n' : Nat} {u u' : Value} {xs xs' : List Value} (h : OwnWin w B e size u n xs) (h' : OwnWin w B' e' size' u' n' xs') (hne : e ≠ e') : ∀ q, u.ownBlock = some q → ¬ u'.ownBlock = some q := fun q hq hq' => by
 rcases h.2 with ⟨rfl, _⟩ | ⟨g, o, cap, cur, rfl, _, hg, _⟩
 ·cases hq
 ·rcases h'.2 with ⟨rfl, _⟩ | ⟨g', o', cap', cur', rfl, _, hg', _⟩
  ·cases hq'
  ·simp [Value.ownBlock] at hq hq'
   subst hq; subst hq'
   have := Option.some.inj (hg.symm.trans hg')
   injection this with _ e2
   exact absurd e2 hne
theorem own_typed {w : World} {B e size n : Nat} {u : Value} {xs : List Value} (h : OwnWin w B e size u n xs) {q : Nat} (hq : u.ownBlock = some q) : ∃ cs, Bx w q e cs := by
 rcases h.2 with ⟨rfl, _⟩ | ⟨g, o, cap, cur, rfl, _, hg, _⟩
 ·cases hq
 ·simp [Value.ownBlock] at hq
  subst hq
  exact ⟨cur, hg⟩
theorem touch_set1 (w : World) (R i : Nat) (a : Value) : Touch (fun k => k = R) w (w.setCell ⟨R, i, none⟩ a) := (Touch.refl (fun k => k = R) w).setCell (a := ⟨R, i, none⟩) rfl a

theorem keepC {w w' : World} {a : Addr} {v : Value} (hb : Below w.heap.size w w') (h : w.cell? a = some v) : w'.cell? a = some v := (hb.cell (p := a) (World.block_lt_of_cell? w a h)).trans h
theorem ownK_empty {w : World} {g B size : Nat} {e : TypeId} (h : w.heap[g]? = some (.cells #[] e (0, 0))) (hB : B ≤ g) : OwnWin w B e size (.slice (some ⟨g, 0, none⟩) 0 0) 0 [] :=
 ⟨by simp, .inr ⟨g, 0, 0, #[], rfl, hB, h, Nat.le_refl _, by unfold maxLen; omega, by simp, by simp⟩⟩
theorem belowK_grown {w w1 w2 : World} {B : Nat} {row : Option Nat} (hb : Below B w w1) (hg : w1.grownBy w2 row) (hB : B ≤ w1.heap.size) (hr : ∀ q, row = some q → B ≤ q) : Below B w w2 := hb.grown hg hB hr
theorem quiet_add {P : Program} {f : FuncId} {args : Array Value} {w : World} {q n : Nat} {v : Value}
    (h : Calls P f args (w.drewN (q + n)) fun e w' => e = .returned v ∧ w.drewN (q + n) = w') : Calls P f args (w.drewN (q + n)) fun e w'' => e = .returned v ∧ ∃ m, w'' = w.drewN (q + m) :=
 h.mono fun _ _ h => ⟨h.1, n, h.2.symm⟩
@[reducible] def ptrK (R : Nat) : Value := .pointer (some ⟨R, 0, none⟩)
/-- The error of a number. -/
def errC (c : Int) : Value := if c = 0 then .nilIface else .iface 43 (.int .i64 c)
theorem errC_ok {c : Int} (h : c = 0) : errC c = .nilIface := if_pos h
theorem errC_err {c n : Int} (h : c = n) (hn : ¬ n = 0) : errC c = .iface 43 (.int .i64 n) := by unfold errC; rw [h, if_neg hn]

/-- A key's variable: its block, the value of its secret, the key. -/
structure Ent where
 blk : Nat
 sv : Value
 key : KeyM
def Ent.cells (e : Ent) : Array Value := #[.string ⟨e.key.id.toArray⟩, e.sv, .int .i64 e.key.frm, .int .i64 e.key.til, .int .i64 e.key.rev]
def Ent.ptr (e : Ent) : Value := ptrK e.blk
structure EntAt (w : World) (B : Nat) (e : Ent) : Prop where
 hb : B ≤ e.blk
 box : Bx w e.blk 106 e.cells
 sec : OwnWin w B 5 1 e.sv e.key.sec.length (bvals e.key.sec)
theorem EntAt.older {w w' : World} {B : Nat} {e : Ent} (h : EntAt w B e) (hb : Below w.heap.size w w') : EntAt w' B e := ⟨h.hb, h.box.older hb, h.sec.older hb⟩
theorem EntAt.facts {w : World} {B : Nat} {e : Ent} (h : EntAt w B e) :
 (w.cell? ⟨e.blk, 0, none⟩ = some (.string ⟨e.key.id.toArray⟩) ∧ w.cell? ⟨e.blk, 1, none⟩ = some e.sv ∧ w.cell? ⟨e.blk, 2, none⟩ = some (.int .i64 e.key.frm) ∧ w.cell? ⟨e.blk, 3, none⟩ = some (.int .i64 e.key.til) ∧ w.cell? ⟨e.blk, 4, none⟩ = some (.int .i64 e.key.rev)) ∧
 (w.frozen? ⟨e.blk, 0, none⟩ = false ∧ w.frozen? ⟨e.blk, 1, none⟩ = false ∧ w.frozen? ⟨e.blk, 2, none⟩ = false ∧ w.frozen? ⟨e.blk, 3, none⟩ = false ∧ w.frozen? ⟨e.blk, 4, none⟩ = false) ∧ e.blk < w.heap.size :=
 ⟨⟨h.box.cell rfl, h.box.cell rfl, h.box.cell rfl, h.box.cell rfl, h.box.cell rfl⟩, ⟨h.box.frz _, h.box.frz _, h.box.frz _, h.box.frz _, h.box.frz _⟩, h.box.lt⟩

/-- The ring at block R: V the tenants' slices, E their keys' variables. -/
structure RingAt (w : World) (B R : Nat) (V : Nat → Value) (E : Nat → List Ent) : Prop where
 hR : B ≤ R
 box : ∃ C, Bx w R 102 C ∧ C.size = 16 ∧ ∀ t, t < 16 → C[t]? = some (V t)
 own : ∀ t, t < 16 → OwnWin w B 103 1 (V t) (E t).length ((E t).map Ent.ptr)
 sepV : ∀ t s q, t < 16 → s < 16 → (V t).ownBlock = some q → (V s).ownBlock = some q → t = s
 ent : ∀ t, t < 16 → ∀ e ∈ E t, EntAt w B e
 sepE : ∀ (t s i j : Nat) (a b : Ent), t < 16 → s < 16 → (E t)[i]? = some a → (E s)[j]? = some b → a.blk = b.blk → t = s ∧ i = j
/-- The ring's own blocks. -/
def RBlk (R : Nat) (V : Nat → Value) (E : Nat → List Ent) (q : Nat) : Prop := q = R ∨ ∃ t, t < 16 ∧ ((V t).ownBlock = some q ∨ ∃ e ∈ E t, e.blk = q)
section
variable {w w' : World} {B R : Nat} {V : Nat → Value} {E : Nat → List Ent}
theorem RingAt.older (h : RingAt w B R V E) (hb : Below w.heap.size w w') : RingAt w' B R V E :=
 ⟨h.hR, by obtain ⟨C, h1, h2⟩ := h.box; exact ⟨C, h1.older hb, h2⟩, fun t ht => (h.own t ht).older hb, h.sepV, fun t ht e he => (h.ent t ht e he).older hb, h.sepE⟩
/-- What a ring's block is typed. -/
theorem RingAt.typed (h : RingAt w B R V E) {q : Nat} (hq : RBlk R V E q) : ∃ T cs, Bx w q T cs ∧ (T = 102 ∨ T = 103 ∨ T = 106) := by
 rcases hq with rfl | ⟨t, ht, hq | ⟨e, he, rfl⟩⟩
 ·obtain ⟨C, h1, _⟩ := h.box
  exact ⟨_, C, h1, .inl rfl⟩
 ·obtain ⟨cs, hc⟩ := own_typed (h.own t ht) hq
  exact ⟨_, cs, hc, .inr (.inl rfl)⟩
 ·exact ⟨_, _, (h.ent t ht e he).box, .inr (.inr rfl)⟩
theorem RingAt.off (h : RingAt w B R V E) {q T : Nat} {cs : Array Value} (hb : Bx w q T cs) (h1 : T ≠ 102) (h2 : T ≠ 103) (h3 : T ≠ 106) : ¬ RBlk R V E q := fun hq => by
 obtain ⟨T', cs', hb', h'⟩ := h.typed hq
 obtain ⟨rfl, _⟩ := hb.inj hb'
 rcases h' with h' | h' | h'
 ·exact h1 h'
 ·exact h2 h'
 ·exact h3 h'
theorem RingAt.ge (h : RingAt w B R V E) {q : Nat} (hq : RBlk R V E q) : B ≤ q := by
 rcases hq with rfl | ⟨t, ht, hq | ⟨e, he, rfl⟩⟩
 ·exact h.hR
 ·exact ((h.own t ht).lt q hq).1
 ·exact (h.ent t ht e he).hb
theorem RingAt.lt (h : RingAt w B R V E) {q : Nat} (hq : RBlk R V E q) : q < w.heap.size := by
 obtain ⟨T, cs, hb, _⟩ := h.typed hq
 exact hb.lt
/-- No secret lies in block q. -/
def SecOff (E : Nat → List Ent) (q : Nat) : Prop := ∀ t, t < 16 → ∀ e ∈ E t, ¬ e.sv.ownBlock = some q
theorem RingAt.touch {S : Nat → Prop} (h : RingAt w B R V E) (ht : Touch S w w') (hq : ∀ k, S k → ¬ RBlk R V E k) (hs : ∀ k, S k → SecOff E k) : RingAt w' B R V E :=
 ⟨h.hR, by obtain ⟨C, h1, h2⟩ := h.box; exact ⟨C, h1.touch ht (fun e => hq R e (.inl rfl)), h2⟩, fun t h9 => (h.own t h9).touch ht (fun k hk e => hq k e (.inr ⟨t, h9, .inl hk⟩)), h.sepV,
   fun t h9 e he => ⟨(h.ent t h9 e he).hb, (h.ent t h9 e he).box.touch ht (fun e' => hq _ e' (.inr ⟨t, h9, .inr ⟨e, he, rfl⟩⟩)), (h.ent t h9 e he).sec.touch ht (fun k hk e' => hs k e' t h9 e he hk)⟩, h.sepE⟩
theorem RingAt.secOff (h : RingAt w B R V E) {q T : Nat} {cs : Array Value} (hb : Bx w q T cs) (hT : T ≠ 5) : SecOff E q := fun t ht e he hq =>
 hb.neOwn (h.ent t ht e he).sec (fun e' => hT e'.symm) q hq rfl
/-- A store into a block of another type. -/
theorem RingAt.setF (h : RingAt w B R V E) {q T : Nat} {cs : Array Value} (hb : Bx w q T cs) (h1 : T ≠ 102) (h2 : T ≠ 103) (h3 : T ≠ 106) (h4 : T ≠ 5) (i : Nat) (u : Value) : RingAt (w.setCell ⟨q, i, none⟩ u) B R V E :=
 h.touch (touch_set1 w q i u) (fun k hk => by subst hk; exact h.off hb h1 h2 h3) (fun k hk => by subst hk; exact h.secOff hb h4)
/-- What a call may have written. -/
structure RGoes (w w' : World) (R : Nat) (V V' : Nat → Value) (E E' : Nat → List Ent) : Prop where
 touch : Touch (RBlk R V E) w w'
 lies : ∀ q, RBlk R V' E' q → RBlk R V E q ∨ w.heap.size ≤ q
theorem RGoes.of_below (h : Below w.heap.size w w') : RGoes w w' R V V E E := ⟨Touch.of_below h (Nat.le_refl _), fun q hq => .inl hq⟩
theorem RGoes.refl (w : World) : RGoes w w R V V E E := RGoes.of_below (Below.refl _ _)
theorem RGoes.trans {w1 w2 : World} {V1 V2 : Nat → Value} {E1 E2 : Nat → List Ent} (h : RGoes w w1 R V V1 E E1) (k : RGoes w1 w2 R V1 V2 E1 E2) : RGoes w w2 R V V2 E E2 :=
 ⟨h.touch.trans' k.touch fun i hi hs => by
  rcases h.lies i hs with h1 | h1
  ·exact h1
  ·omega,
  fun q hq => by
   rcases k.lies q hq with h1 | h1
   ·exact h.lies q h1
   ·exact .inr (Nat.le_trans h.touch.size h1)⟩
theorem RGoes.older {w1 w2 : World} {V1 : Nat → Value} {E1 : Nat → List Ent} (h : RGoes w w1 R V V1 E E1) (hb : Below w1.heap.size w1 w2) : RGoes w w2 R V V1 E E1 := h.trans (RGoes.of_below hb)
theorem RGoes.below {V1 : Nat → Value} {E1 : Nat → List Ent} (h : RGoes w w' R V V1 E E1) (hr : RingAt w B R V E) (hB : B ≤ w.heap.size) : Below B w w' := h.touch.below hB fun i hi => hr.ge hi
/-- What is typed otherwise stays. -/
theorem RGoes.own {V1 : Nat → Value} {E1 : Nat → List Ent} {C e size n : Nat} {u : Value} {xs : List Value} (h : RGoes w w' R V V1 E E1) (hr : RingAt w B R V E) (ho : OwnWin w C e size u n xs) (h1 : e ≠ 102) (h2 : e ≠ 103) (h3 : e ≠ 106) : OwnWin w' C e size u n xs :=
 ho.touch h.touch fun k hk => by
  obtain ⟨cs, hc⟩ := own_typed ho hk
  exact hr.off hc h1 h2 h3
theorem RGoes.bx {V1 : Nat → Value} {E1 : Nat → List Ent} {q T : Nat} {cs : Array Value} (h : RGoes w w' R V V1 E E1) (hr : RingAt w B R V E) (ho : Bx w q T cs) (h1 : T ≠ 102) (h2 : T ≠ 103) (h3 : T ≠ 106) : Bx w' q T cs :=
 ho.touch h.touch (hr.off ho h1 h2 h3)
end
/-- Another list for one tenant. -/
def updT {α : Type} (E : Nat → α) (t : Nat) (l : α) : Nat → α := fun s => if s = t then l else E s
theorem updT_same {α : Type} (E : Nat → α) (t : Nat) (l : α) : updT E t l t = l := by simp [updT]
theorem updT_other {α : Type} (E : Nat → α) {t s : Nat} (l : α) (h : ¬ s = t) : updT E t l s = E s := by simp [updT, h]
/-- A tenant's keys, a tenant's slice: none out of range. -/
def tlK (E : Nat → List Ent) (t : Int) : List Ent := if 0 ≤ t ∧ t < 16 then E t.toNat else []
def vtK (V : Nat → Value) (t : Int) : Value := if 0 ≤ t ∧ t < 16 then V t.toNat else .slice none 0 0
theorem tlK_nat (E : Nat → List Ent) {t : Nat} (h : t < 16) : tlK E (t : Int) = E t := by unfold tlK; rw [if_pos (by omega)]; rfl
theorem vtK_nat (V : Nat → Value) {t : Nat} (h : t < 16) : vtK V (t : Int) = V t := by unfold vtK; rw [if_pos (by omega)]; rfl
theorem RingAt.slot {w : World} {B R : Nat} {V : Nat → Value} {E : Nat → List Ent} (h : RingAt w B R V E) (t : Int) :
 ∃ a c, vtK V t = .slice a (tlK E t).length c ∧ ∀ k (hk : k < (tlK E t).length), ∃ b o, a = some ⟨b, o, none⟩ ∧ (tlK E t).length ≤ c ∧ w.cell? ⟨b, o + k, none⟩ = some (ptrK (tlK E t)[k].blk) ∧ EntAt w B (tlK E t)[k] := by
 by_cases ht : 0 ≤ t ∧ t < 16
 ·obtain ⟨n, rfl⟩ : ∃ n : Nat, t = (n : Int) := ⟨t.toNat, by omega⟩
  have hn : n < 16 := by omega
  rw [vtK_nat V hn, tlK_nat E hn]
  obtain ⟨a, c, hv, hc⟩ := (h.own n hn).form
  refine ⟨a, c, hv, fun k hk => ?_⟩
  obtain ⟨b, o, c', e', h1, _, _, _, h5⟩ := (h.own n hn).cells (by omega)
  rw [hv] at e'
  cases e'
  exact ⟨b, o, rfl, h1, h5 k _ (by simp [hk, Ent.ptr]), h.ent n hn _ (List.getElem_mem hk)⟩
 ·unfold vtK tlK
  rw [if_neg ht, if_neg ht]
  exact ⟨none, 0, rfl, fun k hk => by simp at hk⟩
end Kr
end Go.Proofs.YtpkhbhdidkkebaaGreatDoor
end

