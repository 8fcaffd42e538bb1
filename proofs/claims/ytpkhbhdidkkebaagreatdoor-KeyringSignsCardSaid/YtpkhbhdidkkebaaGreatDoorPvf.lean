/- Contracts and plain facts that the statement's proof leans on (texts joined). No condition beyond those that each names. -/
import Derived.Deep.RegionHeld3
import Derived.OrdersHeld
import Derived.Deep.LoopGhost
import Derived.Stop.LaidErr
import Derived.Test.YtpkhbhdidkkebaaGreatDoorPvM
import Derived.Test.YtpkhbhdidkkebaaGreatDoorPvc
import Derived.Test.YtpkhbhdidkkebaaGreatDoorPvd
import Derived.Test.YtpkhbhdidkkebaaGreatDoorPve
section
namespace Go.Proofs.YtpkhbhdidkkebaaGreatDoor
open Go.RowKit Pl Ad Go.Shelf
attribute [local go_sem] ba_get ba_append ba_extract_end ba_extract_zero ba_extract conv_one
set_option maxRecDepth 100000
set_option maxHeartbeats 4000000
set_option linter.unusedVariables false
set_option linter.unusedSimpArgs false
namespace Sg
open Kr A1 Dg
attribute [local go_sem] guard_pa neq_pa
attribute [-go_sem] run_neq_struct run_eqGuard_agg
@[reducible] def adZ : Value := .agg (#[.string ⟨#[]⟩, .string ⟨#[]⟩, .string ⟨#[]⟩, .bool false])
@[reducible] def tkZ : Value := .agg (#[.string ⟨#[]⟩, .int .i64 0, .int .i64 0])
/-- What Read answers. -/
def rdV : Option SigM → Value
  | none => .tuple #[adZ, tkZ, .string ⟨#[]⟩, errV 2]
  | some r => .tuple #[adV r.rest, tkV r.tok, .string ⟨r.sig.toArray⟩, .nilIface]
theorem satoi_yes (s : Bs) (n : Int) (w : World) (h : Lib.atoiAll s = .ok n) (hl : s.length ≤ 134217728) :
 Calls Tryz.prog 57 #[.string ⟨s.toArray⟩] w fun e w' => e = .returned (.tuple #[.int .i64 n, .nilIface]) ∧ Below w.heap.size w w' :=
 (Tryz.strconv_Atoi_ok ⟨s.toArray⟩ (by rw [size_str]; omega) n h w).mono fun e w' hx => by
  obtain ⟨rfl, rfl | ⟨t, rfl⟩⟩ := hx
  ·exact ⟨rfl, Below.refl _ _⟩
  ·exact ⟨rfl, Lib.bytesWorld_below _ _ _⟩
theorem satoi_no (s : Bs) (w : World) (h : ∀ n, Lib.atoiAll s ≠ .ok n) (hp : SgnAt w) (hl : s.length ≤ 134217728) :
 Calls Tryz.prog 57 #[.string ⟨s.toArray⟩] w fun e w' => (∃ n p, e = .returned (.tuple #[.int .i64 n, .iface 184 p])) ∧ Below w.heap.size w w' := by
 cases ha : Lib.atoiAll s
 ·exact absurd ha (h _)
 ·obtain ⟨tp, p, hv⟩ := hp.stx
  exact (Any.strconv_Atoi_syntax_var Tryz.laysC172 ⟨s.toArray⟩ (by rw [size_str]; omega) ha tp p w hv).mono fun e w' hx => by
   obtain ⟨N, rfl, _, _, hb⟩ := hx
   exact ⟨⟨_, _, rfl⟩, hb⟩
 ·obtain ⟨tp, p, hv⟩ := hp.rng
  exact (Tryz.strconv_Atoi_range_var ⟨s.toArray⟩ (by rw [size_str]; omega) ha tp p w hv).mono fun e w' hx => by
   obtain ⟨N, rfl, _, _, hb⟩ := hx
   exact ⟨⟨_, _, rfl⟩, hb⟩
/-- Three boxes: the address, the results. -/
structure R3S (U1 U2 : Nat) (w0 w : World) (a : Adr) : Prop where
 bel : Below w0.heap.size w0 w
 ab : Bx w w0.heap.size U1 #[.string ⟨a.host.toArray⟩, .string ⟨a.path.toArray⟩, .string ⟨a.query.toArray⟩, .bool a.has]
 rb : Bx w (w0.heap.size + 1) U1 (#[.string ⟨#[]⟩, .string ⟨#[]⟩, .string ⟨#[]⟩, .bool false])
 tb : Bx w (w0.heap.size + 2) U2 (#[.string ⟨#[]⟩, .int .i64 0, .int .i64 0])
theorem R3S.older {U1 U2 : Nat} {w0 w w' : World} {a : Adr} (h : R3S U1 U2 w0 w a) (hb : Below w.heap.size w w') : R3S U1 U2 w0 w' a :=
 ⟨h.bel.trans (hb.mono h.bel.size), h.ab.older hb, h.rb.older hb, h.tb.older hb⟩
theorem r3S_new (U1 U2 : Nat) (w : World) (h p q : Bs) (b : Bool) : R3S U1 U2 w (((w.alloc (.cells #[.string ⟨h.toArray⟩, .string ⟨p.toArray⟩, .string ⟨q.toArray⟩, .bool b] U1)).alloc (.cells (#[.string ⟨#[]⟩, .string ⟨#[]⟩, .string ⟨#[]⟩, .bool false]) U1)).alloc (.cells (#[.string ⟨#[]⟩, .int .i64 0, .int .i64 0]) U2)) ⟨h, p, q, b⟩ :=
 ⟨(((Below.refl _ _).alloc (Nat.le_refl _) _).alloc (by simp) _).alloc (by simp; omega) _, ((Bx.new w _ _).older ((Below.refl _ _).alloc (Nat.le_refl _) _)).older ((Below.refl _ _).alloc (Nat.le_refl _) _),
  by have h9 := (Bx.new (w.alloc (.cells #[.string ⟨h.toArray⟩, .string ⟨p.toArray⟩, .string ⟨q.toArray⟩, .bool b] U1)) U1 (#[.string ⟨#[]⟩, .string ⟨#[]⟩, .string ⟨#[]⟩, .bool false])).older ((Below.refl _ _).alloc (Nat.le_refl _) (.cells (#[.string ⟨#[]⟩, .int .i64 0, .int .i64 0]) U2)); rw [show (w.alloc (.cells #[.string ⟨h.toArray⟩, .string ⟨p.toArray⟩, .string ⟨q.toArray⟩, .bool b] U1)).heap.size = w.heap.size + 1 by simp] at h9; exact h9,
  by have h9 := Bx.new ((w.alloc (.cells #[.string ⟨h.toArray⟩, .string ⟨p.toArray⟩, .string ⟨q.toArray⟩, .bool b] U1)).alloc (.cells (#[.string ⟨#[]⟩, .string ⟨#[]⟩, .string ⟨#[]⟩, .bool false]) U1)) U2 (#[.string ⟨#[]⟩, .int .i64 0, .int .i64 0]); rw [show ((w.alloc (.cells #[.string ⟨h.toArray⟩, .string ⟨p.toArray⟩, .string ⟨q.toArray⟩, .bool b] U1)).alloc (.cells (#[.string ⟨#[]⟩, .string ⟨#[]⟩, .string ⟨#[]⟩, .bool false]) U1)).heap.size = w.heap.size + 2 by simp] at h9; exact h9⟩
theorem R3S.facts {U1 U2 : Nat} {w0 w : World} {a : Adr} (h : R3S U1 U2 w0 w a) :
 (w.cell? ⟨w0.heap.size, 0, none⟩ = some (.string ⟨a.host.toArray⟩) ∧ w.cell? ⟨w0.heap.size, 1, none⟩ = some (.string ⟨a.path.toArray⟩) ∧ w.cell? ⟨w0.heap.size, 2, none⟩ = some (.string ⟨a.query.toArray⟩) ∧ w.cell? ⟨w0.heap.size, 3, none⟩ = some (.bool a.has)) ∧
 ((w.cell? ⟨w0.heap.size + 1, 0, none⟩ = some (.string ⟨#[]⟩) ∧ w.cell? ⟨w0.heap.size + 1, 1, none⟩ = some (.string ⟨#[]⟩) ∧ w.cell? ⟨w0.heap.size + 1, 2, none⟩ = some (.string ⟨#[]⟩) ∧ w.cell? ⟨w0.heap.size + 1, 3, none⟩ = some (.bool false)) ∧
  (w.frozen? ⟨w0.heap.size + 1, 0, none⟩ = false ∧ w.frozen? ⟨w0.heap.size + 1, 1, none⟩ = false ∧ w.frozen? ⟨w0.heap.size + 1, 2, none⟩ = false ∧ w.frozen? ⟨w0.heap.size + 1, 3, none⟩ = false)) ∧
 ((w.cell? ⟨w0.heap.size + 2, 0, none⟩ = some (.string ⟨#[]⟩) ∧ w.cell? ⟨w0.heap.size + 2, 1, none⟩ = some (.int .i64 0) ∧ w.cell? ⟨w0.heap.size + 2, 2, none⟩ = some (.int .i64 0)) ∧
  (w.frozen? ⟨w0.heap.size + 2, 0, none⟩ = false ∧ w.frozen? ⟨w0.heap.size + 2, 1, none⟩ = false ∧ w.frozen? ⟨w0.heap.size + 2, 2, none⟩ = false)) ∧ w0.heap.size + 2 < w.heap.size :=
 ⟨⟨h.ab.cell (i := 0) rfl, h.ab.cell (i := 1) rfl, h.ab.cell (i := 2) rfl, h.ab.cell (i := 3) rfl⟩, ⟨⟨h.rb.cell (i := 0) rfl, h.rb.cell (i := 1) rfl, h.rb.cell (i := 2) rfl, h.rb.cell (i := 3) rfl⟩, ⟨h.rb.frz 0, h.rb.frz 1, h.rb.frz 2, h.rb.frz 3⟩⟩,
  ⟨⟨h.tb.cell (i := 0) rfl, h.tb.cell (i := 1) rfl, h.tb.cell (i := 2) rfl⟩, ⟨h.tb.frz 0, h.tb.frz 1, h.tb.frz 2⟩⟩, h.tb.lt⟩
/-- The results, stored. -/
theorem R3S.done {U1 U2 : Nat} {w0 w : World} {a : Adr} (h : R3S U1 U2 w0 w a) (u0 u1 u2 u3 t0 t1 t2 : Value) :
 let W := (((((((w.setCell ⟨w0.heap.size + 1, 0, none⟩ u0).setCell ⟨w0.heap.size + 1, 1, none⟩ u1).setCell ⟨w0.heap.size + 1, 2, none⟩ u2).setCell ⟨w0.heap.size + 1, 3, none⟩ u3).setCell ⟨w0.heap.size + 2, 0, none⟩ t0).setCell ⟨w0.heap.size + 2, 1, none⟩ t1).setCell ⟨w0.heap.size + 2, 2, none⟩ t2)
 ((W.cell? ⟨w0.heap.size + 1, 0, none⟩ = some u0 ∧ W.cell? ⟨w0.heap.size + 1, 1, none⟩ = some u1 ∧ W.cell? ⟨w0.heap.size + 1, 2, none⟩ = some u2 ∧ W.cell? ⟨w0.heap.size + 1, 3, none⟩ = some u3) ∧ (W.cell? ⟨w0.heap.size + 2, 0, none⟩ = some t0 ∧ W.cell? ⟨w0.heap.size + 2, 1, none⟩ = some t1 ∧ W.cell? ⟨w0.heap.size + 2, 2, none⟩ = some t2)) ∧ Below w0.heap.size w0 W :=
 have st : ∀ {w : World} {R Q T i : Nat} {cs : Array Value} {u : Value}, Bx w R T cs → ¬ R = Q → Bx (w.setCell ⟨Q, i, none⟩ u) R T cs := fun h hne => h.touch (touch_set1 _ _ _ _) hne
 have hr := ((((h.rb.set 0 u0).set 1 u1).set 2 u2).set 3 u3)
 have hr2 := st (i := 2) (u := t2) (st (i := 1) (u := t1) (st (Q := w0.heap.size + 2) (i := 0) (u := t0) hr (by omega)) (by omega)) (by omega)
 have ht0 := st (i := 3) (u := u3) (st (i := 2) (u := u2) (st (i := 1) (u := u1) (st (Q := w0.heap.size + 1) (i := 0) (u := u0) h.tb (by omega)) (by omega)) (by omega)) (by omega)
 have ht := (((ht0.set 0 t0).set 1 t1).set 2 t2)
 ⟨⟨⟨hr2.cell (i := 0) rfl, hr2.cell (i := 1) rfl, hr2.cell (i := 2) rfl, hr2.cell (i := 3) rfl⟩, ⟨ht.cell (i := 0) rfl, ht.cell (i := 1) rfl, ht.cell (i := 2) rfl⟩⟩,
  (((Box.set h.bel (show w0.heap.size ≤ w0.heap.size + 1 by omega) _ _ _ _).setCell (p := ⟨w0.heap.size + 2, 0, none⟩) (show w0.heap.size ≤ w0.heap.size + 2 by omega) _).setCell (p := ⟨w0.heap.size + 2, 1, none⟩) (show w0.heap.size ≤ w0.heap.size + 2 by omega) _).setCell (p := ⟨w0.heap.size + 2, 2, none⟩) (show w0.heap.size ≤ w0.heap.size + 2 by omega) _⟩
/-- The parts of the query beside them. -/
structure RdS (U1 U2 : Nat) (w0 w : World) (a : Adr) (bb : Nat) (xs : List Bs) : Prop where
 r3 : R3S U1 U2 w0 w a
 lt : w0.heap.size + 2 < bb
 bl : bb < w.heap.size
 cells : CellsAt w bb 0 xs
theorem RdS.older {U1 U2 : Nat} {w0 w w' : World} {a : Adr} {bb : Nat} {xs : List Bs} (h : RdS U1 U2 w0 w a bb xs) (hb : Below w.heap.size w w') : RdS U1 U2 w0 w' a bb xs :=
 ⟨h.r3.older hb, h.lt, Nat.lt_of_lt_of_le h.bl hb.size, h.cells.below hb h.bl⟩
theorem RdS.set {U1 U2 : Nat} {w0 w : World} {a : Adr} {bb : Nat} {xs : List Bs} (h : RdS U1 U2 w0 w a bb xs) {Q : Nat} (hQ : bb < Q) (i : Nat) (u : Value) : RdS U1 U2 w0 (w.setCell ⟨Q, i, none⟩ u) a bb xs := by
 have hlt := h.lt
 have st : ∀ {R T : Nat} {cs : Array Value}, Bx w R T cs → ¬ R = Q → Bx (w.setCell ⟨Q, i, none⟩ u) R T cs := fun h hne => h.touch (touch_set1 _ _ _ _) hne
 refine ⟨⟨h.r3.bel.setCell (p := ⟨Q, i, none⟩) (show w0.heap.size ≤ Q by omega) _, st h.r3.ab (by omega), st h.r3.rb (by omega), st h.r3.tb (by omega)⟩, h.lt, by rw [show (w.setCell ⟨Q, i, none⟩ u).heap.size = w.heap.size by simp]; exact h.bl, fun k x hx => ?_⟩
 exact (touch_set1 w Q i u).cell (h.cells k x hx) (fun (e : bb = Q) => by omega)
/-- The four values as the loop fills them. -/
def valC : Nat → Bs → Bs → Bs → Bs → Array Value
  | 0, _, _, _, _ => #[.string ⟨#[]⟩, .string ⟨#[]⟩, .string ⟨#[]⟩, .string ⟨#[]⟩]
  | 1, a, _, _, _ => #[.string ⟨a.toArray⟩, .string ⟨#[]⟩, .string ⟨#[]⟩, .string ⟨#[]⟩]
  | 2, a, b, _, _ => #[.string ⟨a.toArray⟩, .string ⟨b.toArray⟩, .string ⟨#[]⟩, .string ⟨#[]⟩]
  | 3, a, b, c, _ => #[.string ⟨a.toArray⟩, .string ⟨b.toArray⟩, .string ⟨c.toArray⟩, .string ⟨#[]⟩]
  | _, a, b, c, d => #[.string ⟨a.toArray⟩, .string ⟨b.toArray⟩, .string ⟨c.toArray⟩, .string ⟨d.toArray⟩]
structure LpS (w0 w : World) (a : Adr) (bb : Nat) (xs : List Bs) (Q R : Nat) (j : Nat) (v0 v1 v2 v3 : Bs) : Prop where
 rd : RdS 27 51 w0 w a bb xs
 lq : bb < Q
 lr : Q < R
 vb : Bx w Q 120 (valC j v0 v1 v2 v3)
 pb : Bx w R 9 pfx
theorem LpS.older {w0 w w' : World} {a : Adr} {bb : Nat} {xs : List Bs} {Q R j : Nat} {v0 v1 v2 v3 : Bs} (h : LpS w0 w a bb xs Q R j v0 v1 v2 v3) (hb : Below w.heap.size w w') : LpS w0 w' a bb xs Q R j v0 v1 v2 v3 :=
 ⟨h.rd.older hb, h.lq, h.lr, h.vb.older hb, h.pb.older hb⟩
theorem LpS.set {w0 w : World} {a : Adr} {bb : Nat} {xs : List Bs} {Q R j : Nat} {v0 v1 v2 v3 : Bs} (h : LpS w0 w a bb xs Q R j v0 v1 v2 v3) {u : Value} {j' : Nat} (hc : (valC j v0 v1 v2 v3).setIfInBounds j u = valC j' v0 v1 v2 v3) : LpS w0 (w.setCell ⟨Q, j, none⟩ u) a bb xs Q R j' v0 v1 v2 v3 :=
 ⟨h.rd.set h.lq j u, h.lq, h.lr, hc ▸ h.vb.set j u, h.pb.touch (touch_set1 _ _ _ _) (fun (e : R = Q) => absurd h.lr (by omega))⟩
/-- Behind the loop: the token and the address that were read. -/
structure RtS (w0 w : World) (a : Adr) (bb : Nat) (xs : List Bs) (Q R S : Nat) (v0 v1 v2 v3 : Bs) (x y : Int) (r : Adr) : Prop where
 rd : RdS 27 51 w0 w a bb xs
 vb : Bx w Q 120 (valC 4 v0 v1 v2 v3)
 kb : Bx w R 51 #[.string ⟨v0.toArray⟩, .int .i64 x, .int .i64 y]
 sb : Bx w S 27 #[.string ⟨r.host.toArray⟩, .string ⟨r.path.toArray⟩, .string ⟨r.query.toArray⟩, .bool r.has]
 lq : bb < Q
 lr : Q < R
 ls : R < S
section
variable {w0 w w' : World} {a : Adr} {bb : Nat} {xs : List Bs} {Q R S : Nat} {v0 v1 v2 v3 : Bs} {x y : Int} {r : Adr}
theorem RtS.older (h : RtS w0 w a bb xs Q R S v0 v1 v2 v3 x y r) (hb : Below w.heap.size w w') : RtS w0 w' a bb xs Q R S v0 v1 v2 v3 x y r :=
 ⟨h.rd.older hb, h.vb.older hb, h.kb.older hb, h.sb.older hb, h.lq, h.lr, h.ls⟩
theorem RtS.facts (h : RtS w0 w a bb xs Q R S v0 v1 v2 v3 x y r) :
 w.cell? ⟨Q, 3, none⟩ = some (.string ⟨v3.toArray⟩) ∧ (w.cell? ⟨R, 0, none⟩ = some (.string ⟨v0.toArray⟩) ∧ w.cell? ⟨R, 1, none⟩ = some (.int .i64 x) ∧ w.cell? ⟨R, 2, none⟩ = some (.int .i64 y)) ∧
 (w.cell? ⟨S, 0, none⟩ = some (.string ⟨r.host.toArray⟩) ∧ w.cell? ⟨S, 1, none⟩ = some (.string ⟨r.path.toArray⟩) ∧ w.cell? ⟨S, 2, none⟩ = some (.string ⟨r.query.toArray⟩) ∧ w.cell? ⟨S, 3, none⟩ = some (.bool r.has)) ∧
 (w.cell? ⟨w0.heap.size, 0, none⟩ = some (.string ⟨a.host.toArray⟩) ∧ w.cell? ⟨w0.heap.size, 1, none⟩ = some (.string ⟨a.path.toArray⟩) ∧ w.cell? ⟨w0.heap.size, 2, none⟩ = some (.string ⟨a.query.toArray⟩) ∧ w.cell? ⟨w0.heap.size, 3, none⟩ = some (.bool a.has)) ∧ S < w.heap.size :=
 ⟨h.vb.cell (i := 3) rfl, ⟨h.kb.cell (i := 0) rfl, h.kb.cell (i := 1) rfl, h.kb.cell (i := 2) rfl⟩, ⟨h.sb.cell (i := 0) rfl, h.sb.cell (i := 1) rfl, h.sb.cell (i := 2) rfl, h.sb.cell (i := 3) rfl⟩, h.rd.r3.facts.1, h.sb.lt⟩
theorem rtS_new {w : World} (h : RdS 27 51 w0 w a bb xs) (hv : Bx w Q 120 (valC 4 v0 v1 v2 v3)) (hQ : bb < Q) (x y : Int) (hh pp : Bs) :
 RtS w0 ((w.alloc (.cells #[.string ⟨v0.toArray⟩, .int .i64 x, .int .i64 y] 51)).alloc (.cells #[.string ⟨hh.toArray⟩, .string ⟨pp.toArray⟩, .string ⟨#[]⟩, .bool false] 27)) a bb xs Q w.heap.size (w.heap.size + 1) v0 v1 v2 v3 x y ⟨hh, pp, [], false⟩ :=
 have b1 : Below w.heap.size w (w.alloc (.cells #[.string ⟨v0.toArray⟩, .int .i64 x, .int .i64 y] 51)) := (Below.refl _ _).alloc (Nat.le_refl _) _
 have b2 : Below w.heap.size w ((w.alloc (.cells #[.string ⟨v0.toArray⟩, .int .i64 x, .int .i64 y] 51)).alloc (.cells #[.string ⟨hh.toArray⟩, .string ⟨pp.toArray⟩, .string ⟨#[]⟩, .bool false] 27)) := b1.alloc b1.size _
 ⟨h.older b2, hv.older b2, (Bx.new w _ _).older ((Below.refl _ _).alloc (Nat.le_refl _) _),
  by have h9 := Bx.new (w.alloc (.cells #[.string ⟨v0.toArray⟩, .int .i64 x, .int .i64 y] 51)) 27 #[.string ⟨hh.toArray⟩, .string ⟨pp.toArray⟩, .string ⟨#[]⟩, .bool false]; rw [show (w.alloc (.cells #[.string ⟨v0.toArray⟩, .int .i64 x, .int .i64 y] 51)).heap.size = w.heap.size + 1 by simp] at h9; exact h9, hQ, hv.lt, by omega⟩
theorem RtS.rest {hh pp : Bs} (h : RtS w0 w a bb xs Q R S v0 v1 v2 v3 x y ⟨hh, pp, [], false⟩) (J : Bs) : RtS w0 ((w.setCell ⟨S, 3, none⟩ (.bool true)).setCell ⟨S, 2, none⟩ (.string ⟨J.toArray⟩)) a bb xs Q R S v0 v1 v2 v3 x y ⟨hh, pp, J, true⟩ :=
 have l1 := h.lq
 have l2 := h.lr
 have l3 := h.ls
 have st : ∀ {w : World} {R T i : Nat} {cs : Array Value} {u : Value}, Bx w R T cs → ¬ R = S → Bx (w.setCell ⟨S, i, none⟩ u) R T cs := fun h hne => h.touch (touch_set1 _ _ _ _) hne
 ⟨(h.rd.set (by omega) 3 _).set (by omega) 2 _, st (st h.vb (by omega)) (by omega), st (st h.kb (by omega)) (by omega), (h.sb.set 3 _).set 2 _, l1, l2, l3⟩
end
/-- What Read returns is read ahead of the results' stores. -/
theorem RtS.keep {w0 w W : World} {a : Adr} {bb : Nat} {xs : List Bs} {Q R S : Nat} {v0 v1 v2 v3 : Bs} {x y : Int} {r : Adr} (h : RtS w0 w a bb xs Q R S v0 v1 v2 v3 x y r) (ht : Touch (fun k => k ≤ w0.heap.size + 2) w W) :
 W.cell? ⟨Q, 3, none⟩ = some (.string ⟨v3.toArray⟩) ∧ W.cell? ⟨R, 0, none⟩ = some (.string ⟨v0.toArray⟩) ∧ W.cell? ⟨R, 1, none⟩ = some (.int .i64 x) ∧ W.cell? ⟨R, 2, none⟩ = some (.int .i64 y) ∧
 W.cell? ⟨S, 0, none⟩ = some (.string ⟨r.host.toArray⟩) ∧ W.cell? ⟨S, 1, none⟩ = some (.string ⟨r.path.toArray⟩) ∧ W.cell? ⟨S, 2, none⟩ = some (.string ⟨r.query.toArray⟩) ∧ W.cell? ⟨S, 3, none⟩ = some (.bool r.has) := by
 have l0 := h.rd.lt
 have l1 := h.lq
 have l2 := h.lr
 have l3 := h.ls
 have v := h.vb.touch ht (fun (e : Q ≤ w0.heap.size + 2) => by omega)
 have k := h.kb.touch ht (fun (e : R ≤ w0.heap.size + 2) => by omega)
 have s := h.sb.touch ht (fun (e : S ≤ w0.heap.size + 2) => by omega)
 exact ⟨v.cell (i := 3) rfl, k.cell (i := 0) rfl, k.cell (i := 1) rfl, k.cell (i := 2) rfl, s.cell (i := 0) rfl, s.cell (i := 1) rfl, s.cell (i := 2) rfl, s.cell (i := 3) rfl⟩
theorem touchR {B : Nat} {w W : World} (h : Touch (fun k => k ≤ B + 2) w W) (R i : Nat) (hR : R ≤ B + 2) (u : Value) : Touch (fun k => k ≤ B + 2) w (W.setCell ⟨R, i, none⟩ u) := h.setCell (a := ⟨R, i, none⟩) hR u
theorem touch4 {B : Nat} {w W : World} (h : Touch (fun k => k ≤ B + 2) w W) (u0 u1 u2 u3 : Value) : Touch (fun k => k ≤ B + 2) w ((((W.setCell ⟨B + 1, 0, none⟩ u0).setCell ⟨B + 1, 1, none⟩ u1).setCell ⟨B + 1, 2, none⟩ u2).setCell ⟨B + 1, 3, none⟩ u3) :=
 touchR (touchR (touchR (touchR h _ 0 (by omega) u0) _ 1 (by omega) u1) _ 2 (by omega) u2) _ 3 (by omega) u3
theorem touch3 {B : Nat} {w W : World} (h : Touch (fun k => k ≤ B + 2) w W) (t0 t1 t2 : Value) : Touch (fun k => k ≤ B + 2) w (((W.setCell ⟨B + 2, 0, none⟩ t0).setCell ⟨B + 2, 1, none⟩ t1).setCell ⟨B + 2, 2, none⟩ t2) :=
 touchR (touchR (touchR h _ 0 (by omega) t0) _ 1 (by omega) t1) _ 2 (by omega) t2
theorem cells_pre {w : World} {b o : Nat} {l m : List Bs} (h : CellsAt w b o (l ++ m)) : CellsAt w b o l := fun k x hx => h k x (by rw [List.getElem?_append_left (List.getElem?_eq_some_iff.1 hx).1]; exact hx)
theorem satoi_gen (s : Bs) (w : World) (hp : SgnAt w) (hl : s.length ≤ 134217728) :
 Calls Tryz.prog 57 #[.string ⟨s.toArray⟩] w fun e w' => (∃ n v, e = .returned (.tuple #[.int .i64 n, v])) ∧ Below w.heap.size w w' := by
 rcases Classical.em (∃ x, Lib.atoiAll s = .ok x) with ⟨x, hx⟩ | hx
 ·exact (satoi_yes s x w hx hl).mono fun e w' h => ⟨⟨_, _, h.1⟩, h.2⟩
 ·exact (satoi_no s w (fun n hn => hx ⟨n, hn⟩) hp hl).mono fun e w' h => ⟨by obtain ⟨n, p, rfl⟩ := h.1; exact ⟨_, _, rfl⟩, h.2⟩
theorem cutV2_none {p s : Bs} (h : cutP p s = none) : cutV2 p s = .tuple #[.string ⟨s.toArray⟩, .bool false] := by unfold cutV2; rw [h]; rfl
theorem cutV2_some {p s v : Bs} (h : cutP p s = some v) : cutV2 p s = .tuple #[.string ⟨v.toArray⟩, .bool true] := by unfold cutV2; rw [h]; rfl
theorem read_any (a : Adr) (w : World) (hg : SgnAt w) (h1 : a.host.length ≤ 33554432) (h2 : a.path.length ≤ 33554432) (h3 : a.query.length ≤ 33554432) :
 Calls Tryz.prog 20 #[adV a] w fun e w' => e = .returned (rdV (readS a)) ∧ Below w.heap.size w w' := by
 obtain ⟨h, p, q, b⟩ := a
 simp only at h1 h2 h3
 have HG := Lib.hid hg
 have HN0 := Lib.hid (r3S_new 27 51 w h p q b)
 have HLN := Lib.hid (splitOn_count 38 q)
 have HPL : Hid (∀ x ∈ splitOn 38 q, x.length ≤ q.length) := Lib.hid (fun x hx => part_len hx)
 clear hg
 go_enter Tryz.func20, Tryz.ntmps20
 go_wp2_with fail
 refine (split_any q 38 _ (by omega) (HG.out.below HN0.out.bel).rdy).mono ?_
 rintro e w1 ⟨bb, c, rfl, hcap, hwb, hbw, hcells, hb1⟩
 generalize hxs : splitOn 38 q = xs at hcells hcap HPL
 have hln : xs.length ≤ q.length + 1 := by rw [← hxs]; exact HLN.out
 have HS1 := Lib.hid (show RdS 27 51 w w1 ⟨h, p, q, b⟩ bb xs from ⟨HN0.out.older hb1, by have h9 := HN0.out.tb.lt; omega, hbw, hcells⟩)
 have HXS := Lib.hid hxs
 clear hb1 hxs hcells hwb hbw
 by_cases hn : xs.length < 4
 ·obtain ⟨m, hm⟩ : ∃ m, xs.length = m := ⟨_, rfl⟩
  rw [hm] at hn hcap ⊢
  have HR := Lib.hid (show readS ⟨h, p, q, b⟩ = none from read_short (by show (splitOn 38 q).length < 4; rw [HXS.out, hm]; exact hn))
  have hmi : (m : Int) - 4 < 0 := by omega
  have hmx : m ≤ 4 := by omega
  obtain ⟨⟨c0, c1, c2, c3⟩, ⟨⟨e0, e1, e2, e3⟩, ⟨g0, g1, g2, g3⟩⟩, ⟨⟨d0, d1, d2⟩, ⟨k0, k1, k2⟩⟩, hz⟩ := HS1.out.r3.facts
  clear hm
  go_wp2_with fail
  obtain ⟨⟨⟨z0, z1, z2, z3⟩, ⟨y0, y1, y2⟩⟩, hbf⟩ := HS1.out.r3.done (.string ⟨#[]⟩) (.string ⟨#[]⟩) (.string ⟨#[]⟩) (.bool false) (.string ⟨#[]⟩) (.int .i64 0) (.int .i64 0)
  refine bodyPost_ret (v := .tuple #[adZ, tkZ, .string ⟨#[]⟩, errV 2]) (by simp [results, Tryz.results20, go_sem, z0, z1, z2, z3, y0, y1, y2]) rfl ⟨?_, hbf⟩
  rw [HR.out]; rfl
 ·obtain ⟨l, x0, x1, x2, x3, hxe, hll, hlt⟩ := parts4 (Nat.le_of_not_lt hn)
  obtain ⟨n4, hn4⟩ : ∃ n, l.length = n := ⟨_, rfl⟩
  have hlen : xs.length = n4 + 4 := by omega
  have HXE := Lib.hid (show splitOn 38 q = l ++ [x0, x1, x2, x3] by rw [HXS.out, hxe])
  have HLL := Lib.hid hn4
  have HXT := Lib.hid hxe
  have hx0l : x0.length ≤ 33554432 := by have := HPL.out x0 (by rw [hxe]; simp); omega
  have hx1l : x1.length ≤ 33554432 := by have := HPL.out x1 (by rw [hxe]; simp); omega
  have hx2l : x2.length ≤ 33554432 := by have := HPL.out x2 (by rw [hxe]; simp); omega
  have hx3l : x3.length ≤ 33554432 := by have := HPL.out x3 (by rw [hxe]; simp); omega
  have HC0 : Hid (∀ wz, RdS 27 51 w wz ⟨h, p, q, b⟩ bb xs → wz.cell? ⟨bb, n4, none⟩ = some (.string ⟨x0.toArray⟩)) := Lib.hid (fun wz hz => by have h9 := hz.cells (n4 + 0) x0 (by rw [hxe, ← hn4]; simp); rw [Nat.zero_add] at h9; exact h9)
  have HC1 : Hid (∀ wz, RdS 27 51 w wz ⟨h, p, q, b⟩ bb xs → wz.cell? ⟨bb, n4 + 1, none⟩ = some (.string ⟨x1.toArray⟩)) := Lib.hid (fun wz hz => by have h9 := hz.cells (n4 + 1) x1 (by rw [hxe, ← hn4]; simp); rw [Nat.zero_add] at h9; exact h9)
  have HC2 : Hid (∀ wz, RdS 27 51 w wz ⟨h, p, q, b⟩ bb xs → wz.cell? ⟨bb, n4 + 2, none⟩ = some (.string ⟨x2.toArray⟩)) := Lib.hid (fun wz hz => by have h9 := hz.cells (n4 + 2) x2 (by rw [hxe, ← hn4]; simp); rw [Nat.zero_add] at h9; exact h9)
  have HC3 : Hid (∀ wz, RdS 27 51 w wz ⟨h, p, q, b⟩ bb xs → wz.cell? ⟨bb, n4 + 3, none⟩ = some (.string ⟨x3.toArray⟩)) := Lib.hid (fun wz hz => by have h9 := hz.cells (n4 + 3) x3 (by rw [hxe, ← hn4]; simp); rw [Nat.zero_add] at h9; exact h9)
  obtain ⟨v0, hv0⟩ : ∃ v, (cutP pK x0).getD [] = v := ⟨_, rfl⟩
  have HV0 := Lib.hid hv0
  obtain ⟨v1, hv1⟩ : ∃ v, (cutP pF x1).getD [] = v := ⟨_, rfl⟩
  have HV1 := Lib.hid hv1
  obtain ⟨v2, hv2⟩ : ∃ v, (cutP pU x2).getD [] = v := ⟨_, rfl⟩
  have HV2 := Lib.hid hv2
  obtain ⟨v3, hv3⟩ : ∃ v, (cutP pS x3).getD [] = v := ⟨_, rfl⟩
  have HV3 := Lib.hid hv3
  rw [hlen] at hcap hln ⊢
  clear hxe hll hlt hlen hn4 hn hv0 hv1 hv2 hv3 HLN HPL
  have HS2 := Lib.hid (show Bx (w1.alloc (.cells (valC 0 v0 v1 v2 v3) 120)) w1.heap.size 120 (valC 0 v0 v1 v2 v3) from Bx.new _ _ _)
  have HS2R := Lib.hid (HS1.out.older ((Below.refl _ _).alloc (Nat.le_refl _) (.cells (valC 0 v0 v1 v2 v3) 120)))
  go_wp2_with (go_at_call 55; refine (prefixes_any _).mono ?_; rintro e w2 ⟨rfl, hbx, hb2⟩; have HLP := Lib.hid (show LpS w w2 ⟨h, p, q, b⟩ bb xs w1.heap.size (w1.alloc (.cells (valC 0 v0 v1 v2 v3) 120)).heap.size 0 v0 v1 v2 v3 from ⟨HS2R.out.older hb2, HS1.out.bl, by simp, HS2.out.older hb2, hbx⟩); clear hb2 hbx)
  have HS0 := Lib.hid (show LpS w w2 ⟨h, p, q, b⟩ bb xs w1.heap.size (w1.heap.size + 1) 0 v0 v1 v2 v3 by have h9 := HLP.out; simpa using h9)
  clear HS2 HS2R HLP
  go_loopg [32] 4 (fun gq iv wr => ∃ (j : Nat) (i : Int), i = j ∧ j ≤ 4 ∧ Hid (4 ≤ gq + j) ∧ iv = .int .i64 i ∧ Hid ((1 ≤ j → x0 = pK ++ v0) ∧ (2 ≤ j → x1 = pF ++ v1) ∧ (3 ≤ j → x2 = pU ++ v2) ∧ (4 ≤ j → x3 = pS ++ v3)) ∧ LpS w wr ⟨h, p, q, b⟩ bb xs w1.heap.size (w1.heap.size + 1) j v0 v1 v2 v3)
  case atStart => exact ⟨0, 0, rfl, Nat.zero_le _, Lib.hid (by omega), rfl, Lib.hid ⟨fun h => absurd h (by omega), fun h => absurd h (by omega), fun h => absurd h (by omega), fun h => absurd h (by omega)⟩, HS0.out⟩
  case round =>
   obtain ⟨j, i, hki, hk4, HQ, rfl, HB, hm⟩ := hrel
   clear HS0
   have HM := Lib.hid hm
   have n0 := hm.pb.cell (i := 0) rfl
   have n1 := hm.pb.cell (i := 1) rfl
   have n2 := hm.pb.cell (i := 2) rfl
   have n3 := hm.pb.cell (i := 3) rfl
   have hzp := hm.pb.lt
   have p0 := HC0.out _ hm.rd
   have p1 := HC1.out _ hm.rd
   have p2 := HC2.out _ hm.rd
   have p3 := HC3.out _ hm.rd
   have hzq := hm.vb.lt
   have hf0 := hm.vb.frz 0
   have hf1 := hm.vb.frz 1
   have hf2 := hm.vb.frz 2
   have hf3 := hm.vb.frz 3
   rcases (show (j = 0 ∧ i = 0) ∨ (j = 1 ∧ i = 1) ∨ (j = 2 ∧ i = 2) ∨ (j = 3 ∧ i = 3) ∨ (j = 4 ∧ i = 4) by omega) with ⟨rfl, rfl⟩ | ⟨rfl, rfl⟩ | ⟨rfl, rfl⟩ | ⟨rfl, rfl⟩ | ⟨rfl, rfl⟩
   ·clear hk4 hki
    have q0 := hm.vb.cell (i := 0) (v := .string ⟨#[]⟩) rfl
    have q1 := hm.vb.cell (i := 1) (v := .string ⟨#[]⟩) rfl
    have q2 := hm.vb.cell (i := 2) (v := .string ⟨#[]⟩) rfl
    have q3 := hm.vb.cell (i := 3) (v := .string ⟨#[]⟩) rfl
    clear hm
    cases hf : cutP pK x0 with
    | none =>
      have HR := Lib.hid (show readS ⟨h, p, q, b⟩ = none from read_miss HXE.out (.inl hf))
      have HV := Lib.hid (show cutV2 [113, 107, 61] x0 = .tuple #[.string ⟨x0.toArray⟩, .bool false] from cutV2_none hf)
      clear hf
      obtain ⟨⟨c0, c1, c2, c3⟩, ⟨⟨e0, e1, e2, e3⟩, ⟨g0, g1, g2, g3⟩⟩, ⟨⟨d0, d1, d2⟩, ⟨k0, k1, k2⟩⟩, hz⟩ := HM.out.rd.r3.facts
      go_wp2_with (go_at_call 56; refine (cutPrefix_any x0 [113, 107, 61] _ (by omega) (by decide)).mono ?_; rw [HV.out]; rintro e w3 ⟨rfl, rfl⟩)
      obtain ⟨⟨⟨z0, z1, z2, z3⟩, ⟨y0, y1, y2⟩⟩, hbf⟩ := HM.out.rd.r3.done (.string ⟨#[]⟩) (.string ⟨#[]⟩) (.string ⟨#[]⟩) (.bool false) (.string ⟨#[]⟩) (.int .i64 0) (.int .i64 0)
      refine bodyPost_ret (v := .tuple #[adZ, tkZ, .string ⟨#[]⟩, errV 2]) (by simp [results, Tryz.results20, go_sem, z0, z1, z2, z3, y0, y1, y2]) rfl ⟨?_, hbf⟩
      rw [HR.out]; rfl
    | some v =>
      obtain rfl : v = v0 := by have := HV0.out; rw [hf] at this; exact this
      have HX := Lib.hid (cutP_some hf)
      have HV := Lib.hid (show cutV2 [113, 107, 61] x0 = .tuple #[.string ⟨v.toArray⟩, .bool true] from cutV2_some hf)
      clear hf
      go_wp2_with (go_at_call 56; refine (cutPrefix_any x0 [113, 107, 61] _ (by omega) (by decide)).mono ?_; rw [HV.out]; rintro e w3 ⟨rfl, rfl⟩)
      go_roundg (gk - 1)
      case rel => exact ⟨1, 1, rfl, by omega, Lib.hid (by have := HQ.out; omega), by go_num, Lib.hid ⟨fun _ => HX.out, fun h => absurd h (by omega), fun h => absurd h (by omega), fun h => absurd h (by omega)⟩, HM.out.set rfl⟩
      case measure => have := HQ.out; omega
   ·clear hk4 hki
    have q0 := hm.vb.cell (i := 0) (v := .string ⟨v0.toArray⟩) rfl
    have q1 := hm.vb.cell (i := 1) (v := .string ⟨#[]⟩) rfl
    have q2 := hm.vb.cell (i := 2) (v := .string ⟨#[]⟩) rfl
    have q3 := hm.vb.cell (i := 3) (v := .string ⟨#[]⟩) rfl
    clear hm
    cases hf : cutP pF x1 with
    | none =>
      have HR := Lib.hid (show readS ⟨h, p, q, b⟩ = none from read_miss HXE.out (.inr (.inl hf)))
      have HV := Lib.hid (show cutV2 [113, 102, 61] x1 = .tuple #[.string ⟨x1.toArray⟩, .bool false] from cutV2_none hf)
      clear hf
      obtain ⟨⟨c0, c1, c2, c3⟩, ⟨⟨e0, e1, e2, e3⟩, ⟨g0, g1, g2, g3⟩⟩, ⟨⟨d0, d1, d2⟩, ⟨k0, k1, k2⟩⟩, hz⟩ := HM.out.rd.r3.facts
      go_wp2_with (go_at_call 56; refine (cutPrefix_any x1 [113, 102, 61] _ (by omega) (by decide)).mono ?_; rw [HV.out]; rintro e w3 ⟨rfl, rfl⟩)
      obtain ⟨⟨⟨z0, z1, z2, z3⟩, ⟨y0, y1, y2⟩⟩, hbf⟩ := HM.out.rd.r3.done (.string ⟨#[]⟩) (.string ⟨#[]⟩) (.string ⟨#[]⟩) (.bool false) (.string ⟨#[]⟩) (.int .i64 0) (.int .i64 0)
      refine bodyPost_ret (v := .tuple #[adZ, tkZ, .string ⟨#[]⟩, errV 2]) (by simp [results, Tryz.results20, go_sem, z0, z1, z2, z3, y0, y1, y2]) rfl ⟨?_, hbf⟩
      rw [HR.out]; rfl
    | some v =>
      obtain rfl : v = v1 := by have := HV1.out; rw [hf] at this; exact this
      have HX := Lib.hid (cutP_some hf)
      have HV := Lib.hid (show cutV2 [113, 102, 61] x1 = .tuple #[.string ⟨v.toArray⟩, .bool true] from cutV2_some hf)
      clear hf
      go_wp2_with (go_at_call 56; refine (cutPrefix_any x1 [113, 102, 61] _ (by omega) (by decide)).mono ?_; rw [HV.out]; rintro e w3 ⟨rfl, rfl⟩)
      go_roundg (gk - 1)
      case rel => exact ⟨2, 2, rfl, by omega, Lib.hid (by have := HQ.out; omega), by go_num, Lib.hid ⟨fun _ => HB.out.1 (by omega), fun _ => HX.out, fun h => absurd h (by omega), fun h => absurd h (by omega)⟩, HM.out.set rfl⟩
      case measure => have := HQ.out; omega
   ·clear hk4 hki
    have q0 := hm.vb.cell (i := 0) (v := .string ⟨v0.toArray⟩) rfl
    have q1 := hm.vb.cell (i := 1) (v := .string ⟨v1.toArray⟩) rfl
    have q2 := hm.vb.cell (i := 2) (v := .string ⟨#[]⟩) rfl
    have q3 := hm.vb.cell (i := 3) (v := .string ⟨#[]⟩) rfl
    clear hm
    cases hf : cutP pU x2 with
    | none =>
      have HR := Lib.hid (show readS ⟨h, p, q, b⟩ = none from read_miss HXE.out (.inr (.inr (.inl hf))))
      have HV := Lib.hid (show cutV2 [113, 117, 61] x2 = .tuple #[.string ⟨x2.toArray⟩, .bool false] from cutV2_none hf)
      clear hf
      obtain ⟨⟨c0, c1, c2, c3⟩, ⟨⟨e0, e1, e2, e3⟩, ⟨g0, g1, g2, g3⟩⟩, ⟨⟨d0, d1, d2⟩, ⟨k0, k1, k2⟩⟩, hz⟩ := HM.out.rd.r3.facts
      go_wp2_with (go_at_call 56; refine (cutPrefix_any x2 [113, 117, 61] _ (by omega) (by decide)).mono ?_; rw [HV.out]; rintro e w3 ⟨rfl, rfl⟩)
      obtain ⟨⟨⟨z0, z1, z2, z3⟩, ⟨y0, y1, y2⟩⟩, hbf⟩ := HM.out.rd.r3.done (.string ⟨#[]⟩) (.string ⟨#[]⟩) (.string ⟨#[]⟩) (.bool false) (.string ⟨#[]⟩) (.int .i64 0) (.int .i64 0)
      refine bodyPost_ret (v := .tuple #[adZ, tkZ, .string ⟨#[]⟩, errV 2]) (by simp [results, Tryz.results20, go_sem, z0, z1, z2, z3, y0, y1, y2]) rfl ⟨?_, hbf⟩
      rw [HR.out]; rfl
    | some v =>
      obtain rfl : v = v2 := by have := HV2.out; rw [hf] at this; exact this
      have HX := Lib.hid (cutP_some hf)
      have HV := Lib.hid (show cutV2 [113, 117, 61] x2 = .tuple #[.string ⟨v.toArray⟩, .bool true] from cutV2_some hf)
      clear hf
      go_wp2_with (go_at_call 56; refine (cutPrefix_any x2 [113, 117, 61] _ (by omega) (by decide)).mono ?_; rw [HV.out]; rintro e w3 ⟨rfl, rfl⟩)
      go_roundg (gk - 1)
      case rel => exact ⟨3, 3, rfl, by omega, Lib.hid (by have := HQ.out; omega), by go_num, Lib.hid ⟨fun _ => HB.out.1 (by omega), fun _ => HB.out.2.1 (by omega), fun _ => HX.out, fun h => absurd h (by omega)⟩, HM.out.set rfl⟩
      case measure => have := HQ.out; omega
   ·clear hk4 hki
    have q0 := hm.vb.cell (i := 0) (v := .string ⟨v0.toArray⟩) rfl
    have q1 := hm.vb.cell (i := 1) (v := .string ⟨v1.toArray⟩) rfl
    have q2 := hm.vb.cell (i := 2) (v := .string ⟨v2.toArray⟩) rfl
    have q3 := hm.vb.cell (i := 3) (v := .string ⟨#[]⟩) rfl
    clear hm
    cases hf : cutP pS x3 with
    | none =>
      have HR := Lib.hid (show readS ⟨h, p, q, b⟩ = none from read_miss HXE.out (.inr (.inr (.inr hf))))
      have HV := Lib.hid (show cutV2 [113, 115, 61] x3 = .tuple #[.string ⟨x3.toArray⟩, .bool false] from cutV2_none hf)
      clear hf
      obtain ⟨⟨c0, c1, c2, c3⟩, ⟨⟨e0, e1, e2, e3⟩, ⟨g0, g1, g2, g3⟩⟩, ⟨⟨d0, d1, d2⟩, ⟨k0, k1, k2⟩⟩, hz⟩ := HM.out.rd.r3.facts
      go_wp2_with (go_at_call 56; refine (cutPrefix_any x3 [113, 115, 61] _ (by omega) (by decide)).mono ?_; rw [HV.out]; rintro e w3 ⟨rfl, rfl⟩)
      obtain ⟨⟨⟨z0, z1, z2, z3⟩, ⟨y0, y1, y2⟩⟩, hbf⟩ := HM.out.rd.r3.done (.string ⟨#[]⟩) (.string ⟨#[]⟩) (.string ⟨#[]⟩) (.bool false) (.string ⟨#[]⟩) (.int .i64 0) (.int .i64 0)
      refine bodyPost_ret (v := .tuple #[adZ, tkZ, .string ⟨#[]⟩, errV 2]) (by simp [results, Tryz.results20, go_sem, z0, z1, z2, z3, y0, y1, y2]) rfl ⟨?_, hbf⟩
      rw [HR.out]; rfl
    | some v =>
      obtain rfl : v = v3 := by have := HV3.out; rw [hf] at this; exact this
      have HX := Lib.hid (cutP_some hf)
      have HV := Lib.hid (show cutV2 [113, 115, 61] x3 = .tuple #[.string ⟨v.toArray⟩, .bool true] from cutV2_some hf)
      clear hf
      go_wp2_with (go_at_call 56; refine (cutPrefix_any x3 [113, 115, 61] _ (by omega) (by decide)).mono ?_; rw [HV.out]; rintro e w3 ⟨rfl, rfl⟩)
      go_roundg (gk - 1)
      case rel => exact ⟨4, 4, rfl, by omega, Lib.hid (by have := HQ.out; omega), by go_num, Lib.hid ⟨fun _ => HB.out.1 (by omega), fun _ => HB.out.2.1 (by omega), fun _ => HB.out.2.2.1 (by omega), fun _ => HX.out⟩, HM.out.set rfl⟩
      case measure => have := HQ.out; omega
   ·clear hk4 hki
    have HLP := Lib.hid hm
    clear hm n0 n1 n2 n3 p0 p1 p2 p3 hf0 hf1 hf2 hf3 hzp hzq HM
    have hx0 := HB.out.1 (by omega)
    have hx1 := HB.out.2.1 (by omega)
    have hx2 := HB.out.2.2.1 (by omega)
    have hx3 := HB.out.2.2.2 (by omega)
    have HP := Lib.hid (show splitOn 38 (Adr.mk h p q b).query = l ++ [pK ++ v0, pF ++ v1, pU ++ v2, pS ++ v3] by rw [← hx0, ← hx1, ← hx2, ← hx3]; exact HXE.out)
    have HRL := Lib.hid (rest_len HXE.out)
    have hv0l : v0.length ≤ 33554432 := by rw [hx0] at hx0l; simp at hx0l; omega
    have hv1l : v1.length ≤ 33554432 := by rw [hx1] at hx1l; simp at hx1l; omega
    have hv2l : v2.length ≤ 33554432 := by rw [hx2] at hx2l; simp at hx2l; omega
    have hv3l : v3.length ≤ 33554432 := by rw [hx3] at hx3l; simp at hx3l; omega
    clear hx0 hx1 hx2 hx3 hx0l hx1l hx2l hx3l HB HC0 HC1 HC2 HC3 HV0 HV1 HV2 HV3 HQ
    by_cases hk0 : n4 = 0
    ·subst hk0
     have hre : restA ⟨h, p, q, b⟩ l = ⟨h, p, [], false⟩ := by rw [List.eq_nil_of_length_eq_zero HLL.out]; exact restA_nil h p q b
     rcases Classical.em (∃ x, Lib.atoiAll v1 = .ok x) with ⟨x, hax⟩ | hax
     ·have HA1 := Lib.hid hax
      rcases Classical.em (∃ y, Lib.atoiAll v2 = .ok y) with ⟨y, hay⟩ | hay
      ·have HA2 := Lib.hid hay
       cases hhx : hexOk v3 with
       | false =>
         have HR := Lib.hid (read_bad HP.out hax hay (fun hk => by rw [hk.1] at hhx; cases hhx))
         have HHEX : Hid (∀ wz, Calls Tryz.prog 58 #[.string ⟨v3.toArray⟩] wz fun e w' => e = .returned (.bool false) ∧ wz = w') := Lib.hid (fun wz => by have h9 := hexadecimal_any v3 wz (by omega); rw [hhx] at h9; exact h9)
         clear hax hay hhx
         have q1 := HLP.out.vb.cell (i := 1) (v := .string ⟨v1.toArray⟩) rfl
         have hzq := HLP.out.vb.lt
         go_wp2_with fail
         refine (satoi_yes v1 x _ HA1.out (by omega)).mono ?_
         rintro e w3 ⟨rfl, hb3⟩
         have HLP3 := Lib.hid (HLP.out.older hb3)
         clear hb3 q1 hzq
         have q2 := HLP3.out.vb.cell (i := 2) (v := .string ⟨v2.toArray⟩) rfl
         have hzq := HLP3.out.vb.lt
         go_wp2_with fail
         refine (satoi_yes v2 y _ HA2.out (by omega)).mono ?_
         rintro e w4 ⟨rfl, hb4⟩
         have HLP4 := Lib.hid (HLP3.out.older hb4)
         clear hb4 q2 hzq
         have q0 := HLP4.out.vb.cell (i := 0) (v := .string ⟨v0.toArray⟩) rfl
         have hzq := HLP4.out.vb.lt
         obtain ⟨⟨c0, c1, c2, c3⟩, _, _, hz⟩ := HLP4.out.rd.r3.facts
         have hz1 : w.heap.size < w4.heap.size := by omega
         have HT := Lib.hid (rtS_new HLP4.out.rd HLP4.out.vb HLP4.out.lq x y h p)
         go_wp2_with fail
         obtain ⟨RR, hRR⟩ : ∃ zz, w4.heap.size = zz := ⟨_, rfl⟩
         obtain ⟨w8, hw8⟩ : ∃ wz, ((w4.alloc (.cells #[.string ⟨v0.toArray⟩, .int .i64 x, .int .i64 y] 51)).alloc (.cells #[.string ⟨h.toArray⟩, .string ⟨p.toArray⟩, .string ⟨#[]⟩, .bool false] 27)) = wz := ⟨_, rfl⟩
         rw [hw8] at HT ⊢
         rw [hRR] at HT ⊢
         clear hw8 c0 c1 c2 c3 hz hz1 q0 hzq
         have HT8 := HT
         obtain ⟨q3, ⟨t0, t1, t2⟩, ⟨r0, r1, r2, r3⟩, ⟨c0, c1, c2, c3⟩, hzs⟩ := HT8.out.facts
         have HTD := Lib.hid (HT8.out.older ((Below.refl _ _).drew))
         refine wp_region_held_drew (S := fun w' => w'.cell? ⟨w1.heap.size, 3, none⟩ = some (.string ⟨v3.toArray⟩) ∧ w'.cell? ⟨RR, 0, none⟩ = some (.string ⟨v0.toArray⟩) ∧ w'.cell? ⟨RR, 1, none⟩ = some (.int .i64 x) ∧ w'.cell? ⟨RR, 2, none⟩ = some (.int .i64 y) ∧ w'.cell? ⟨RR + 1, 0, none⟩ = some (.string ⟨h.toArray⟩) ∧ w'.cell? ⟨RR + 1, 1, none⟩ = some (.string ⟨p.toArray⟩) ∧ w'.cell? ⟨RR + 1, 2, none⟩ = some (.string ⟨#[]⟩) ∧ w'.cell? ⟨RR + 1, 3, none⟩ = some (.bool false) ∧ w'.cell? ⟨w.heap.size, 0, none⟩ = some (.string ⟨h.toArray⟩) ∧ w'.cell? ⟨w.heap.size, 1, none⟩ = some (.string ⟨p.toArray⟩) ∧ w'.cell? ⟨w.heap.size, 2, none⟩ = some (.string ⟨q.toArray⟩) ∧ w'.cell? ⟨w.heap.size, 3, none⟩ = some (.bool b)) (by kernel_rfl) (by exact ⟨q3, t0, t1, t2, r0, r1, r2, r3, c0, c1, c2, c3⟩) (fun hHeld => ?_)
         obtain ⟨wd, hwd⟩ : ∃ z, w8.drew = z := ⟨_, rfl⟩
         rw [hwd] at hHeld HTD ⊢
         clear hwd
         clear q3 t0 t1 t2 r0 r1 r2 r3 c0 c1 c2 c3 hzs
         obtain ⟨q3, ⟨t0, t1, t2⟩, ⟨r0, r1, r2, r3⟩, ⟨c0, c1, c2, c3⟩, hzs⟩ := HTD.out.facts
         refine Hd.tk 0 ?_
         try simp only [Act.put, List.setIfInBounds_toArray, List.set_cons_zero, List.set_cons_succ]
         refine Hd.tk 1 ?_
         try simp only [Act.put, List.setIfInBounds_toArray, List.set_cons_zero, List.set_cons_succ]
         refine Hd.tk 2 ?_
         try simp only [Act.put, List.setIfInBounds_toArray, List.set_cons_zero, List.set_cons_succ]
         refine Hd.tk 3 ?_
         try simp only [Act.put, List.setIfInBounds_toArray, List.set_cons_zero, List.set_cons_succ]
         refine Hd.tk 4 ?_
         try simp only [Act.put, List.setIfInBounds_toArray, List.set_cons_zero, List.set_cons_succ]
         refine Hd.tk 5 ?_
         try simp only [Act.put, List.setIfInBounds_toArray, List.set_cons_zero, List.set_cons_succ]
         refine Hd.tk 6 ?_
         try simp only [Act.put, List.setIfInBounds_toArray, List.set_cons_zero, List.set_cons_succ]
         refine Hd.tk 7 ?_
         try simp only [Act.put, List.setIfInBounds_toArray, List.set_cons_zero, List.set_cons_succ]
         refine Hd.tk 8 ?_
         try simp only [Act.put, List.setIfInBounds_toArray, List.set_cons_zero, List.set_cons_succ]
         refine wpAnyH_ready (rs := [9]) (by kernel_rfl) (by simp) (AllReadyH.cons (by simp only [List.getElem?_toArray, List.getElem?_cons_succ, List.getElem?_cons_zero]; rfl) (fun K hK => ?_) AllReadyH.nil)
         go_simp
         go_at_call 58
         refine (HHEX.out _).mono ?_
         rintro e u9 ⟨rfl, rfl⟩
         go_wp2_with fail
         refine hK.out _ _ (by exact ⟨q3, t0, t1, t2, r0, r1, r2, r3, c0, c1, c2, c3⟩) (fun hHf9 => ?_)
         clear hK K
         try simp only [Act.put, List.setIfInBounds_toArray, List.set_cons_zero, List.set_cons_succ]
         refine Hd.tk 10 ?_
         try simp only [Act.put, List.setIfInBounds_toArray, List.set_cons_zero, List.set_cons_succ]
         refine Hd.tk 11 ?_
         try simp only [Act.put, List.setIfInBounds_toArray, List.set_cons_zero, List.set_cons_succ]
         refine Hd.tk 12 ?_
         try simp only [Act.put, List.setIfInBounds_toArray, List.set_cons_zero, List.set_cons_succ]
         refine Hd.sk 13 ?_
         try simp only [Act.put, List.setIfInBounds_toArray, List.set_cons_zero, List.set_cons_succ]
         refine Hd.sk 14 ?_
         try simp only [Act.put, List.setIfInBounds_toArray, List.set_cons_zero, List.set_cons_succ]
         refine Hd.sk 15 ?_
         try simp only [Act.put, List.setIfInBounds_toArray, List.set_cons_zero, List.set_cons_succ]
         refine Hd.sk 16 ?_
         try simp only [Act.put, List.setIfInBounds_toArray, List.set_cons_zero, List.set_cons_succ]
         refine Hd.tk 17 ?_
         try simp only [Act.put, List.setIfInBounds_toArray, List.set_cons_zero, List.set_cons_succ]
         refine Hd.tk 18 ?_
         try simp only [Act.put, List.setIfInBounds_toArray, List.set_cons_zero, List.set_cons_succ]
         refine Hd.sk 19 ?_
         try simp only [Act.put, List.setIfInBounds_toArray, List.set_cons_zero, List.set_cons_succ]
         refine Hd.sk 20 ?_
         try simp only [Act.put, List.setIfInBounds_toArray, List.set_cons_zero, List.set_cons_succ]
         refine Hd.sk 21 ?_
         try simp only [Act.put, List.setIfInBounds_toArray, List.set_cons_zero, List.set_cons_succ]
         refine Hd.sk 22 ?_
         try simp only [Act.put, List.setIfInBounds_toArray, List.set_cons_zero, List.set_cons_succ]
         refine Hd.sk 23 ?_
         try simp only [Act.put, List.setIfInBounds_toArray, List.set_cons_zero, List.set_cons_succ]
         refine Hd.sk 24 ?_
         try simp only [Act.put, List.setIfInBounds_toArray, List.set_cons_zero, List.set_cons_succ]
         refine Hd.sk 25 ?_
         try simp only [Act.put, List.setIfInBounds_toArray, List.set_cons_zero, List.set_cons_succ]
         refine Hd.sk 26 ?_
         try simp only [Act.put, List.setIfInBounds_toArray, List.set_cons_zero, List.set_cons_succ]
         refine Hd.sk 27 ?_
         try simp only [Act.put, List.setIfInBounds_toArray, List.set_cons_zero, List.set_cons_succ]
         refine Hd.tk 28 ?_
         try simp only [Act.put, List.setIfInBounds_toArray, List.set_cons_zero, List.set_cons_succ]
         refine wpAnyH_done (by kernel_rfl) ?_ _
         obtain ⟨_, ⟨⟨e0, e1, e2, e3⟩, ⟨g0, g1, g2, g3⟩⟩, ⟨⟨d0, d1, d2⟩, ⟨k0, k1, k2⟩⟩, hz⟩ := HTD.out.rd.r3.facts
         go_wp2_with fail
         obtain ⟨⟨⟨z0, z1, z2, z3⟩, ⟨y0, y1, y2⟩⟩, hbf⟩ := HTD.out.rd.r3.done (.string ⟨#[]⟩) (.string ⟨#[]⟩) (.string ⟨#[]⟩) (.bool false) (.string ⟨#[]⟩) (.int .i64 0) (.int .i64 0)
         refine bodyPost_ret (v := .tuple #[adZ, tkZ, .string ⟨#[]⟩, errV 2]) (by simp [results, Tryz.results20, go_sem, z0, z1, z2, z3, y0, y1, y2]) rfl ⟨?_, hbf⟩
         rw [HR.out]; rfl
       | true =>
         have HHEX : Hid (∀ wz, Calls Tryz.prog 58 #[.string ⟨v3.toArray⟩] wz fun e w' => e = .returned (.bool true) ∧ wz = w') := Lib.hid (fun wz => by have h9 := hexadecimal_any v3 wz (by omega); rw [hhx] at h9; exact h9)
         have hhx9 := hhx
         clear hhx
         by_cases hck : checkS ⟨h, p, [], false⟩ ⟨v0, x, y⟩ = 0
         ·have HCHK : Hid (∀ wz, SgnAt wz → Calls Tryz.prog 46 #[.agg #[.string ⟨h.toArray⟩, .string ⟨p.toArray⟩, .string ⟨#[]⟩, .bool false], .agg #[.string ⟨v0.toArray⟩, .int .i64 x, .int .i64 y]] wz fun e w' => e = .returned (.nilIface) ∧ Below wz.heap.size wz w') := Lib.hid (fun wz hz => by have h9 := check_any ⟨h, p, [], false⟩ ⟨v0, x, y⟩ wz hz (by simp only; omega) (by simp only; omega) (by simp only; (first | omega | (simp; done))) (by simp only; omega); rw [show Sg.errC (checkS ⟨h, p, [], false⟩ ⟨v0, x, y⟩) = .nilIface from errC_ok hck] at h9; exact h9)
          by_cases hsg : signed ⟨h, p, [], false⟩ ⟨v0, x, y⟩ v3 = ⟨h, p, q, b⟩
          ·have HR := Lib.hid (read_ok (a := ⟨h, p, q, b⟩) (l := l) (v0 := v0) (v3 := v3) (x := x) (y := y) ⟨hhx9, by rw [hre]; exact hck, by rw [hre]; exact hsg⟩)
           rw [hre] at HR
           obtain ⟨_, _, _, m4, m5, m6, _⟩ := checkS_ok.1 hck
           simp only at m4 m5 m6
           have hbl := begun_lens ⟨h, p, [], false⟩ ⟨v0, x, y⟩ (by simp only; omega) (by simp only; omega)
           have HBG0 := fun wz hz => begun_any ⟨h, p, [], false⟩ ⟨v0, x, y⟩ wz hz (by simp only; (first | omega | (simp; done))) (by simp only; omega) (by simp only; omega) (by simp only; omega) (by simp only; omega) (by simp only; omega)
           have hsd : signed ⟨h, p, [], false⟩ ⟨v0, x, y⟩ v3 = (Ad.begun ⟨h, p, [], false⟩ ⟨v0, x, y⟩).plus (pS ++ v3) := rfl
           obtain ⟨bg, hbg⟩ : ∃ z, Ad.begun ⟨h, p, [], false⟩ ⟨v0, x, y⟩ = z := ⟨_, rfl⟩
           rw [hbg] at hbl HBG0 hsd
           obtain ⟨l1, l2, l3, l4⟩ := hbl
           simp only at l4
           have HW0 := fun wz => with_any bg (pS ++ v3) wz (by (first | omega | (simp at l4; omega))) (by simp [pS]; omega)
           rw [← hsd] at HW0
           generalize signed ⟨h, p, [], false⟩ ⟨v0, x, y⟩ v3 = sd at *
           obtain ⟨bh, bp, bq, bbo⟩ := bg
           obtain ⟨sh, sp, sq, sbo⟩ := sd
           have HBGN := Lib.hid HBG0
           have HWTH := Lib.hid HW0
           have hv3b : ¬ 9223372036854775807 < 3 + v3.length := by omega
           clear HBG0 HW0 hsd hbg l1 l2 l3 l4 m4 m5 m6
           have hab : adB sh sp sq sbo h p q b = true := by rw [adB_iff, hsg]; exact decide_eq_true rfl
           clear hsg hck hax hay hhx9 hre
           have q1 := HLP.out.vb.cell (i := 1) (v := .string ⟨v1.toArray⟩) rfl
           have hzq := HLP.out.vb.lt
           go_wp2_with fail
           refine (satoi_yes v1 x _ HA1.out (by omega)).mono ?_
           rintro e w3 ⟨rfl, hb3⟩
           have HLP3 := Lib.hid (HLP.out.older hb3)
           clear hb3 q1 hzq
           have q2 := HLP3.out.vb.cell (i := 2) (v := .string ⟨v2.toArray⟩) rfl
           have hzq := HLP3.out.vb.lt
           go_wp2_with fail
           refine (satoi_yes v2 y _ HA2.out (by omega)).mono ?_
           rintro e w4 ⟨rfl, hb4⟩
           have HLP4 := Lib.hid (HLP3.out.older hb4)
           clear hb4 q2 hzq
           have q0 := HLP4.out.vb.cell (i := 0) (v := .string ⟨v0.toArray⟩) rfl
           have hzq := HLP4.out.vb.lt
           obtain ⟨⟨c0, c1, c2, c3⟩, _, _, hz⟩ := HLP4.out.rd.r3.facts
           have hz1 : w.heap.size < w4.heap.size := by omega
           have HT := Lib.hid (rtS_new HLP4.out.rd HLP4.out.vb HLP4.out.lq x y h p)
           go_wp2_with fail
           obtain ⟨RR, hRR⟩ : ∃ zz, w4.heap.size = zz := ⟨_, rfl⟩
           obtain ⟨w8, hw8⟩ : ∃ wz, ((w4.alloc (.cells #[.string ⟨v0.toArray⟩, .int .i64 x, .int .i64 y] 51)).alloc (.cells #[.string ⟨h.toArray⟩, .string ⟨p.toArray⟩, .string ⟨#[]⟩, .bool false] 27)) = wz := ⟨_, rfl⟩
           rw [hw8] at HT ⊢
           rw [hRR] at HT ⊢
           clear hw8 c0 c1 c2 c3 hz hz1 q0 hzq
           have HT8 := HT
           obtain ⟨q3, ⟨t0, t1, t2⟩, ⟨r0, r1, r2, r3⟩, ⟨c0, c1, c2, c3⟩, hzs⟩ := HT8.out.facts
           have HTD := Lib.hid (HT8.out.older ((Below.refl _ _).drew))
           refine wp_region_held_drew (S := fun w' => w'.cell? ⟨w1.heap.size, 3, none⟩ = some (.string ⟨v3.toArray⟩) ∧ w'.cell? ⟨RR, 0, none⟩ = some (.string ⟨v0.toArray⟩) ∧ w'.cell? ⟨RR, 1, none⟩ = some (.int .i64 x) ∧ w'.cell? ⟨RR, 2, none⟩ = some (.int .i64 y) ∧ w'.cell? ⟨RR + 1, 0, none⟩ = some (.string ⟨h.toArray⟩) ∧ w'.cell? ⟨RR + 1, 1, none⟩ = some (.string ⟨p.toArray⟩) ∧ w'.cell? ⟨RR + 1, 2, none⟩ = some (.string ⟨#[]⟩) ∧ w'.cell? ⟨RR + 1, 3, none⟩ = some (.bool false) ∧ w'.cell? ⟨w.heap.size, 0, none⟩ = some (.string ⟨h.toArray⟩) ∧ w'.cell? ⟨w.heap.size, 1, none⟩ = some (.string ⟨p.toArray⟩) ∧ w'.cell? ⟨w.heap.size, 2, none⟩ = some (.string ⟨q.toArray⟩) ∧ w'.cell? ⟨w.heap.size, 3, none⟩ = some (.bool b)) (by kernel_rfl) (by exact ⟨q3, t0, t1, t2, r0, r1, r2, r3, c0, c1, c2, c3⟩) (fun hHeld => ?_)
           obtain ⟨wd, hwd⟩ : ∃ z, w8.drew = z := ⟨_, rfl⟩
           rw [hwd] at hHeld HTD ⊢
           clear hwd
           clear q3 t0 t1 t2 r0 r1 r2 r3 c0 c1 c2 c3 hzs
           obtain ⟨q3, ⟨t0, t1, t2⟩, ⟨r0, r1, r2, r3⟩, ⟨c0, c1, c2, c3⟩, hzs⟩ := HTD.out.facts
           refine Hd.tk 0 ?_
           try simp only [Act.put, List.setIfInBounds_toArray, List.set_cons_zero, List.set_cons_succ]
           refine Hd.tk 1 ?_
           try simp only [Act.put, List.setIfInBounds_toArray, List.set_cons_zero, List.set_cons_succ]
           refine Hd.tk 2 ?_
           try simp only [Act.put, List.setIfInBounds_toArray, List.set_cons_zero, List.set_cons_succ]
           refine Hd.tk 3 ?_
           try simp only [Act.put, List.setIfInBounds_toArray, List.set_cons_zero, List.set_cons_succ]
           refine Hd.tk 4 ?_
           try simp only [Act.put, List.setIfInBounds_toArray, List.set_cons_zero, List.set_cons_succ]
           refine Hd.tk 5 ?_
           try simp only [Act.put, List.setIfInBounds_toArray, List.set_cons_zero, List.set_cons_succ]
           refine Hd.tk 6 ?_
           try simp only [Act.put, List.setIfInBounds_toArray, List.set_cons_zero, List.set_cons_succ]
           refine Hd.tk 7 ?_
           try simp only [Act.put, List.setIfInBounds_toArray, List.set_cons_zero, List.set_cons_succ]
           refine Hd.tk 8 ?_
           try simp only [Act.put, List.setIfInBounds_toArray, List.set_cons_zero, List.set_cons_succ]
           refine wpAnyH_ready (rs := [9]) (by kernel_rfl) (by simp) (AllReadyH.cons (by simp only [List.getElem?_toArray, List.getElem?_cons_succ, List.getElem?_cons_zero]; rfl) (fun K hK => ?_) AllReadyH.nil)
           go_simp
           go_at_call 58
           refine (HHEX.out _).mono ?_
           rintro e u9 ⟨rfl, rfl⟩
           go_wp2_with fail
           refine hK.out _ _ (by exact ⟨q3, t0, t1, t2, r0, r1, r2, r3, c0, c1, c2, c3⟩) (fun hHf9 => ?_)
           clear hK K
           try simp only [Act.put, List.setIfInBounds_toArray, List.set_cons_zero, List.set_cons_succ]
           refine Hd.tk 10 ?_
           try simp only [Act.put, List.setIfInBounds_toArray, List.set_cons_zero, List.set_cons_succ]
           refine Hd.tk 11 ?_
           try simp only [Act.put, List.setIfInBounds_toArray, List.set_cons_zero, List.set_cons_succ]
           refine Hd.tk 12 ?_
           try simp only [Act.put, List.setIfInBounds_toArray, List.set_cons_zero, List.set_cons_succ]
           refine Hd.tk 13 ?_
           try simp only [Act.put, List.setIfInBounds_toArray, List.set_cons_zero, List.set_cons_succ]
           refine Hd.tk 14 ?_
           try simp only [Act.put, List.setIfInBounds_toArray, List.set_cons_zero, List.set_cons_succ]
           refine wpAnyH_ready (rs := [15]) (by kernel_rfl) (by simp) (AllReadyH.cons (by simp only [List.getElem?_toArray, List.getElem?_cons_succ, List.getElem?_cons_zero]; rfl) (fun K hK => ?_) AllReadyH.nil)
           go_simp
           go_at_call 46
           refine (HCHK.out _ (HG.out.below HTD.out.rd.r3.bel)).mono ?_
           rintro e u15 ⟨rfl, hu15⟩
           have HTE := Lib.hid (HTD.out.older hu15)
           clear q3 t0 t1 t2 r0 r1 r2 r3 c0 c1 c2 c3 hzs
           obtain ⟨q3, ⟨t0, t1, t2⟩, ⟨r0, r1, r2, r3⟩, ⟨c0, c1, c2, c3⟩, hzs⟩ := HTE.out.facts
           clear hu15
           go_wp2_with fail
           refine hK.out _ _ (by exact ⟨q3, t0, t1, t2, r0, r1, r2, r3, c0, c1, c2, c3⟩) (fun hHf15 => ?_)
           clear hK K
           try simp only [Act.put, List.setIfInBounds_toArray, List.set_cons_zero, List.set_cons_succ]
           refine Hd.tk 16 ?_
           try simp only [Act.put, List.setIfInBounds_toArray, List.set_cons_zero, List.set_cons_succ]
           refine Hd.tk 17 ?_
           try simp only [Act.put, List.setIfInBounds_toArray, List.set_cons_zero, List.set_cons_succ]
           refine Hd.tk 18 ?_
           try simp only [Act.put, List.setIfInBounds_toArray, List.set_cons_zero, List.set_cons_succ]
           refine Hd.tk 19 ?_
           try simp only [Act.put, List.setIfInBounds_toArray, List.set_cons_zero, List.set_cons_succ]
           refine Hd.tk 20 ?_
           try simp only [Act.put, List.setIfInBounds_toArray, List.set_cons_zero, List.set_cons_succ]
           refine Hd.tk 22 ?_
           try simp only [Act.put, List.setIfInBounds_toArray, List.set_cons_zero, List.set_cons_succ]
           refine Hd.tk 23 ?_
           try simp only [Act.put, List.setIfInBounds_toArray, List.set_cons_zero, List.set_cons_succ]
           refine Hd.tk 24 ?_
           try simp only [Act.put, List.setIfInBounds_toArray, List.set_cons_zero, List.set_cons_succ]
           refine Hd.tk 26 ?_
           try simp only [Act.put, List.setIfInBounds_toArray, List.set_cons_zero, List.set_cons_succ]
           refine wpAnyH_ready (rs := [21]) (by kernel_rfl) (by simp) (AllReadyH.cons (by simp only [List.getElem?_toArray, List.getElem?_cons_succ, List.getElem?_cons_zero]; rfl) (fun K hK => ?_) AllReadyH.nil)
           go_simp
           go_at_call 47
           refine (HBGN.out _ (HG.out.below HTE.out.rd.r3.bel)).mono ?_
           rintro e u21 ⟨rfl, hu21⟩
           have HTF := Lib.hid (HTE.out.older hu21)
           clear q3 t0 t1 t2 r0 r1 r2 r3 c0 c1 c2 c3 hzs
           obtain ⟨q3, ⟨t0, t1, t2⟩, ⟨r0, r1, r2, r3⟩, ⟨c0, c1, c2, c3⟩, hzs⟩ := HTF.out.facts
           clear hu21
           go_wp2_with fail
           refine hK.out _ _ (by exact ⟨q3, t0, t1, t2, r0, r1, r2, r3, c0, c1, c2, c3⟩) (fun hHf21 => ?_)
           clear hK K
           try simp only [Act.put, List.setIfInBounds_toArray, List.set_cons_zero, List.set_cons_succ]
           refine wpAnyH_ready (rs := [25]) (by kernel_rfl) (by simp) (AllReadyH.cons (by simp only [List.getElem?_toArray, List.getElem?_cons_succ, List.getElem?_cons_zero]; rfl) (fun K hK => ?_) AllReadyH.nil)
           go_simp
           go_at_call 49
           refine (HWTH.out _).mono ?_
           rintro e u25 ⟨rfl, hu25⟩
           have HTG := Lib.hid (HTF.out.older hu25)
           clear q3 t0 t1 t2 r0 r1 r2 r3 c0 c1 c2 c3 hzs
           obtain ⟨q3, ⟨t0, t1, t2⟩, ⟨r0, r1, r2, r3⟩, ⟨c0, c1, c2, c3⟩, hzs⟩ := HTG.out.facts
           clear hu25
           go_wp2_with fail
           refine hK.out _ _ (by exact ⟨q3, t0, t1, t2, r0, r1, r2, r3, c0, c1, c2, c3⟩) (fun hHf25 => ?_)
           clear hK K
           try simp only [Act.put, List.setIfInBounds_toArray, List.set_cons_zero, List.set_cons_succ]
           refine Hd.tk 27 ?_
           try simp only [Act.put, List.setIfInBounds_toArray, List.set_cons_zero, List.set_cons_succ]
           refine Hd.tk 28 ?_
           try simp only [Act.put, List.setIfInBounds_toArray, List.set_cons_zero, List.set_cons_succ]
           refine wpAnyH_done (by kernel_rfl) ?_ _
           have HTH := Lib.hid (HTG.out.older ((Below.refl _ _).drew))
           go_wp2_with fail
           refine wp_region_held_drew (S := fun w' => w'.cell? ⟨w1.heap.size, 3, none⟩ = some (.string ⟨v3.toArray⟩) ∧ w'.cell? ⟨RR, 0, none⟩ = some (.string ⟨v0.toArray⟩) ∧ w'.cell? ⟨RR, 1, none⟩ = some (.int .i64 x) ∧ w'.cell? ⟨RR, 2, none⟩ = some (.int .i64 y) ∧ w'.cell? ⟨RR + 1, 0, none⟩ = some (.string ⟨h.toArray⟩) ∧ w'.cell? ⟨RR + 1, 1, none⟩ = some (.string ⟨p.toArray⟩) ∧ w'.cell? ⟨RR + 1, 2, none⟩ = some (.string ⟨#[]⟩) ∧ w'.cell? ⟨RR + 1, 3, none⟩ = some (.bool false)) (by kernel_rfl) (by exact ⟨q3, t0, t1, t2, r0, r1, r2, r3⟩) (fun hHeld => ?_)
           obtain ⟨we, hwe⟩ : ∃ z, u25.drew = z := ⟨_, rfl⟩
           rw [hwe] at hHeld HTH ⊢
           clear hwe
           clear q3 t0 t1 t2 r0 r1 r2 r3 c0 c1 c2 c3 hzs
           obtain ⟨q3, ⟨t0, t1, t2⟩, ⟨r0, r1, r2, r3⟩, ⟨c0, c1, c2, c3⟩, hzs⟩ := HTH.out.facts
           obtain ⟨_, ⟨⟨e0, e1, e2, e3⟩, ⟨g0, g1, g2, g3⟩⟩, ⟨⟨d0, d1, d2⟩, ⟨k0, k1, k2⟩⟩, hz⟩ := HTH.out.rd.r3.facts
           refine Hd.tk 0 ?_
           try simp only [Act.put, List.setIfInBounds_toArray, List.set_cons_zero, List.set_cons_succ]
           refine Hd.tk 1 ?_
           try simp only [Act.put, List.setIfInBounds_toArray, List.set_cons_zero, List.set_cons_succ]
           refine Hd.tk 2 ?_
           try simp only [Act.put, List.setIfInBounds_toArray, List.set_cons_zero, List.set_cons_succ]
           refine Hd.tk 3 ?_
           try simp only [Act.put, List.setIfInBounds_toArray, List.set_cons_zero, List.set_cons_succ]
           refine wpAnyH_ready (rs := [4]) (by kernel_rfl) (by simp) (AllReadyH.cons (by simp only [List.getElem?_toArray, List.getElem?_cons_succ, List.getElem?_cons_zero]; rfl) (fun K hK => ?_) AllReadyH.nil)
           go_simp
           refine hK.out _ _ (by exact HTH.out.keep (touch4 (Touch.refl _ _) (.string ⟨h.toArray⟩) (.string ⟨p.toArray⟩) (.string ⟨#[]⟩) (.bool false))) (fun hHs1 => ?_)
           clear hK K
           try simp only [Act.put, List.setIfInBounds_toArray, List.set_cons_zero, List.set_cons_succ]
           refine wpAnyH_ready (rs := [5]) (by kernel_rfl) (by simp) (AllReadyH.cons (by simp only [List.getElem?_toArray, List.getElem?_cons_succ, List.getElem?_cons_zero]; rfl) (fun K hK => ?_) AllReadyH.nil)
           go_simp
           refine hK.out _ _ (by exact HTH.out.keep (touch3 (touch4 (Touch.refl _ _) (.string ⟨h.toArray⟩) (.string ⟨p.toArray⟩) (.string ⟨#[]⟩) (.bool false)) (.string ⟨v0.toArray⟩) (.int .i64 x) (.int .i64 y))) (fun hHs2 => ?_)
           clear hK K
           try simp only [Act.put, List.setIfInBounds_toArray, List.set_cons_zero, List.set_cons_succ]
           refine Hd.tk 6 ?_
           try simp only [Act.put, List.setIfInBounds_toArray, List.set_cons_zero, List.set_cons_succ]
           refine Hd.tk 7 ?_
           try simp only [Act.put, List.setIfInBounds_toArray, List.set_cons_zero, List.set_cons_succ]
           refine wpAnyH_done (by kernel_rfl) ?_ _
           go_wp2_with fail
           obtain ⟨⟨⟨z0, z1, z2, z3⟩, ⟨y0, y1, y2⟩⟩, hbf⟩ := HTH.out.rd.r3.done (.string ⟨h.toArray⟩) (.string ⟨p.toArray⟩) (.string ⟨#[]⟩) (.bool false) (.string ⟨v0.toArray⟩) (.int .i64 x) (.int .i64 y)
           refine bodyPost_ret (v := rdV (some ⟨⟨h, p, [], false⟩, ⟨v0, x, y⟩, v3⟩)) (by simp [results, Tryz.results20, go_sem, rdV, z0, z1, z2, z3, y0, y1, y2]) rfl ⟨?_, hbf⟩
           rw [HR.out]
          ·have HR := Lib.hid (read_bad HP.out hax hay (fun hk => by have h9 := hk.2.2; rw [hre] at h9; exact hsg h9))
           obtain ⟨_, _, _, m4, m5, m6, _⟩ := checkS_ok.1 hck
           simp only at m4 m5 m6
           have hbl := begun_lens ⟨h, p, [], false⟩ ⟨v0, x, y⟩ (by simp only; omega) (by simp only; omega)
           have HBG0 := fun wz hz => begun_any ⟨h, p, [], false⟩ ⟨v0, x, y⟩ wz hz (by simp only; (first | omega | (simp; done))) (by simp only; omega) (by simp only; omega) (by simp only; omega) (by simp only; omega) (by simp only; omega)
           have hsd : signed ⟨h, p, [], false⟩ ⟨v0, x, y⟩ v3 = (Ad.begun ⟨h, p, [], false⟩ ⟨v0, x, y⟩).plus (pS ++ v3) := rfl
           obtain ⟨bg, hbg⟩ : ∃ z, Ad.begun ⟨h, p, [], false⟩ ⟨v0, x, y⟩ = z := ⟨_, rfl⟩
           rw [hbg] at hbl HBG0 hsd
           obtain ⟨l1, l2, l3, l4⟩ := hbl
           simp only at l4
           have HW0 := fun wz => with_any bg (pS ++ v3) wz (by (first | omega | (simp at l4; omega))) (by simp [pS]; omega)
           rw [← hsd] at HW0
           generalize signed ⟨h, p, [], false⟩ ⟨v0, x, y⟩ v3 = sd at *
           obtain ⟨bh, bp, bq, bbo⟩ := bg
           obtain ⟨sh, sp, sq, sbo⟩ := sd
           have HBGN := Lib.hid HBG0
           have HWTH := Lib.hid HW0
           have hv3b : ¬ 9223372036854775807 < 3 + v3.length := by omega
           clear HBG0 HW0 hsd hbg l1 l2 l3 l4 m4 m5 m6
           have hab : adB sh sp sq sbo h p q b = false := by rw [adB_iff]; exact decide_eq_false hsg
           clear hsg hck hax hay hhx9 hre
           have q1 := HLP.out.vb.cell (i := 1) (v := .string ⟨v1.toArray⟩) rfl
           have hzq := HLP.out.vb.lt
           go_wp2_with fail
           refine (satoi_yes v1 x _ HA1.out (by omega)).mono ?_
           rintro e w3 ⟨rfl, hb3⟩
           have HLP3 := Lib.hid (HLP.out.older hb3)
           clear hb3 q1 hzq
           have q2 := HLP3.out.vb.cell (i := 2) (v := .string ⟨v2.toArray⟩) rfl
           have hzq := HLP3.out.vb.lt
           go_wp2_with fail
           refine (satoi_yes v2 y _ HA2.out (by omega)).mono ?_
           rintro e w4 ⟨rfl, hb4⟩
           have HLP4 := Lib.hid (HLP3.out.older hb4)
           clear hb4 q2 hzq
           have q0 := HLP4.out.vb.cell (i := 0) (v := .string ⟨v0.toArray⟩) rfl
           have hzq := HLP4.out.vb.lt
           obtain ⟨⟨c0, c1, c2, c3⟩, _, _, hz⟩ := HLP4.out.rd.r3.facts
           have hz1 : w.heap.size < w4.heap.size := by omega
           have HT := Lib.hid (rtS_new HLP4.out.rd HLP4.out.vb HLP4.out.lq x y h p)
           go_wp2_with fail
           obtain ⟨RR, hRR⟩ : ∃ zz, w4.heap.size = zz := ⟨_, rfl⟩
           obtain ⟨w8, hw8⟩ : ∃ wz, ((w4.alloc (.cells #[.string ⟨v0.toArray⟩, .int .i64 x, .int .i64 y] 51)).alloc (.cells #[.string ⟨h.toArray⟩, .string ⟨p.toArray⟩, .string ⟨#[]⟩, .bool false] 27)) = wz := ⟨_, rfl⟩
           rw [hw8] at HT ⊢
           rw [hRR] at HT ⊢
           clear hw8 c0 c1 c2 c3 hz hz1 q0 hzq
           have HT8 := HT
           obtain ⟨q3, ⟨t0, t1, t2⟩, ⟨r0, r1, r2, r3⟩, ⟨c0, c1, c2, c3⟩, hzs⟩ := HT8.out.facts
           have HTD := Lib.hid (HT8.out.older ((Below.refl _ _).drew))
           refine wp_region_held_drew (S := fun w' => w'.cell? ⟨w1.heap.size, 3, none⟩ = some (.string ⟨v3.toArray⟩) ∧ w'.cell? ⟨RR, 0, none⟩ = some (.string ⟨v0.toArray⟩) ∧ w'.cell? ⟨RR, 1, none⟩ = some (.int .i64 x) ∧ w'.cell? ⟨RR, 2, none⟩ = some (.int .i64 y) ∧ w'.cell? ⟨RR + 1, 0, none⟩ = some (.string ⟨h.toArray⟩) ∧ w'.cell? ⟨RR + 1, 1, none⟩ = some (.string ⟨p.toArray⟩) ∧ w'.cell? ⟨RR + 1, 2, none⟩ = some (.string ⟨#[]⟩) ∧ w'.cell? ⟨RR + 1, 3, none⟩ = some (.bool false) ∧ w'.cell? ⟨w.heap.size, 0, none⟩ = some (.string ⟨h.toArray⟩) ∧ w'.cell? ⟨w.heap.size, 1, none⟩ = some (.string ⟨p.toArray⟩) ∧ w'.cell? ⟨w.heap.size, 2, none⟩ = some (.string ⟨q.toArray⟩) ∧ w'.cell? ⟨w.heap.size, 3, none⟩ = some (.bool b)) (by kernel_rfl) (by exact ⟨q3, t0, t1, t2, r0, r1, r2, r3, c0, c1, c2, c3⟩) (fun hHeld => ?_)
           obtain ⟨wd, hwd⟩ : ∃ z, w8.drew = z := ⟨_, rfl⟩
           rw [hwd] at hHeld HTD ⊢
           clear hwd
           clear q3 t0 t1 t2 r0 r1 r2 r3 c0 c1 c2 c3 hzs
           obtain ⟨q3, ⟨t0, t1, t2⟩, ⟨r0, r1, r2, r3⟩, ⟨c0, c1, c2, c3⟩, hzs⟩ := HTD.out.facts
           refine Hd.tk 0 ?_
           try simp only [Act.put, List.setIfInBounds_toArray, List.set_cons_zero, List.set_cons_succ]
           refine Hd.tk 1 ?_
           try simp only [Act.put, List.setIfInBounds_toArray, List.set_cons_zero, List.set_cons_succ]
           refine Hd.tk 2 ?_
           try simp only [Act.put, List.setIfInBounds_toArray, List.set_cons_zero, List.set_cons_succ]
           refine Hd.tk 3 ?_
           try simp only [Act.put, List.setIfInBounds_toArray, List.set_cons_zero, List.set_cons_succ]
           refine Hd.tk 4 ?_
           try simp only [Act.put, List.setIfInBounds_toArray, List.set_cons_zero, List.set_cons_succ]
           refine Hd.tk 5 ?_
           try simp only [Act.put, List.setIfInBounds_toArray, List.set_cons_zero, List.set_cons_succ]
           refine Hd.tk 6 ?_
           try simp only [Act.put, List.setIfInBounds_toArray, List.set_cons_zero, List.set_cons_succ]
           refine Hd.tk 7 ?_
           try simp only [Act.put, List.setIfInBounds_toArray, List.set_cons_zero, List.set_cons_succ]
           refine Hd.tk 8 ?_
           try simp only [Act.put, List.setIfInBounds_toArray, List.set_cons_zero, List.set_cons_succ]
           refine wpAnyH_ready (rs := [9]) (by kernel_rfl) (by simp) (AllReadyH.cons (by simp only [List.getElem?_toArray, List.getElem?_cons_succ, List.getElem?_cons_zero]; rfl) (fun K hK => ?_) AllReadyH.nil)
           go_simp
           go_at_call 58
           refine (HHEX.out _).mono ?_
           rintro e u9 ⟨rfl, rfl⟩
           go_wp2_with fail
           refine hK.out _ _ (by exact ⟨q3, t0, t1, t2, r0, r1, r2, r3, c0, c1, c2, c3⟩) (fun hHf9 => ?_)
           clear hK K
           try simp only [Act.put, List.setIfInBounds_toArray, List.set_cons_zero, List.set_cons_succ]
           refine Hd.tk 10 ?_
           try simp only [Act.put, List.setIfInBounds_toArray, List.set_cons_zero, List.set_cons_succ]
           refine Hd.tk 11 ?_
           try simp only [Act.put, List.setIfInBounds_toArray, List.set_cons_zero, List.set_cons_succ]
           refine Hd.tk 12 ?_
           try simp only [Act.put, List.setIfInBounds_toArray, List.set_cons_zero, List.set_cons_succ]
           refine Hd.tk 13 ?_
           try simp only [Act.put, List.setIfInBounds_toArray, List.set_cons_zero, List.set_cons_succ]
           refine Hd.tk 14 ?_
           try simp only [Act.put, List.setIfInBounds_toArray, List.set_cons_zero, List.set_cons_succ]
           refine wpAnyH_ready (rs := [15]) (by kernel_rfl) (by simp) (AllReadyH.cons (by simp only [List.getElem?_toArray, List.getElem?_cons_succ, List.getElem?_cons_zero]; rfl) (fun K hK => ?_) AllReadyH.nil)
           go_simp
           go_at_call 46
           refine (HCHK.out _ (HG.out.below HTD.out.rd.r3.bel)).mono ?_
           rintro e u15 ⟨rfl, hu15⟩
           have HTE := Lib.hid (HTD.out.older hu15)
           clear q3 t0 t1 t2 r0 r1 r2 r3 c0 c1 c2 c3 hzs
           obtain ⟨q3, ⟨t0, t1, t2⟩, ⟨r0, r1, r2, r3⟩, ⟨c0, c1, c2, c3⟩, hzs⟩ := HTE.out.facts
           clear hu15
           go_wp2_with fail
           refine hK.out _ _ (by exact ⟨q3, t0, t1, t2, r0, r1, r2, r3, c0, c1, c2, c3⟩) (fun hHf15 => ?_)
           clear hK K
           try simp only [Act.put, List.setIfInBounds_toArray, List.set_cons_zero, List.set_cons_succ]
           refine Hd.tk 16 ?_
           try simp only [Act.put, List.setIfInBounds_toArray, List.set_cons_zero, List.set_cons_succ]
           refine Hd.tk 17 ?_
           try simp only [Act.put, List.setIfInBounds_toArray, List.set_cons_zero, List.set_cons_succ]
           refine Hd.tk 18 ?_
           try simp only [Act.put, List.setIfInBounds_toArray, List.set_cons_zero, List.set_cons_succ]
           refine Hd.tk 19 ?_
           try simp only [Act.put, List.setIfInBounds_toArray, List.set_cons_zero, List.set_cons_succ]
           refine Hd.tk 20 ?_
           try simp only [Act.put, List.setIfInBounds_toArray, List.set_cons_zero, List.set_cons_succ]
           refine Hd.tk 22 ?_
           try simp only [Act.put, List.setIfInBounds_toArray, List.set_cons_zero, List.set_cons_succ]
           refine Hd.tk 23 ?_
           try simp only [Act.put, List.setIfInBounds_toArray, List.set_cons_zero, List.set_cons_succ]
           refine Hd.tk 24 ?_
           try simp only [Act.put, List.setIfInBounds_toArray, List.set_cons_zero, List.set_cons_succ]
           refine Hd.tk 26 ?_
           try simp only [Act.put, List.setIfInBounds_toArray, List.set_cons_zero, List.set_cons_succ]
           refine wpAnyH_ready (rs := [21]) (by kernel_rfl) (by simp) (AllReadyH.cons (by simp only [List.getElem?_toArray, List.getElem?_cons_succ, List.getElem?_cons_zero]; rfl) (fun K hK => ?_) AllReadyH.nil)
           go_simp
           go_at_call 47
           refine (HBGN.out _ (HG.out.below HTE.out.rd.r3.bel)).mono ?_
           rintro e u21 ⟨rfl, hu21⟩
           have HTF := Lib.hid (HTE.out.older hu21)
           clear q3 t0 t1 t2 r0 r1 r2 r3 c0 c1 c2 c3 hzs
           obtain ⟨q3, ⟨t0, t1, t2⟩, ⟨r0, r1, r2, r3⟩, ⟨c0, c1, c2, c3⟩, hzs⟩ := HTF.out.facts
           clear hu21
           go_wp2_with fail
           refine hK.out _ _ (by exact ⟨q3, t0, t1, t2, r0, r1, r2, r3, c0, c1, c2, c3⟩) (fun hHf21 => ?_)
           clear hK K
           try simp only [Act.put, List.setIfInBounds_toArray, List.set_cons_zero, List.set_cons_succ]
           refine wpAnyH_ready (rs := [25]) (by kernel_rfl) (by simp) (AllReadyH.cons (by simp only [List.getElem?_toArray, List.getElem?_cons_succ, List.getElem?_cons_zero]; rfl) (fun K hK => ?_) AllReadyH.nil)
           go_simp
           go_at_call 49
           refine (HWTH.out _).mono ?_
           rintro e u25 ⟨rfl, hu25⟩
           have HTG := Lib.hid (HTF.out.older hu25)
           clear q3 t0 t1 t2 r0 r1 r2 r3 c0 c1 c2 c3 hzs
           obtain ⟨q3, ⟨t0, t1, t2⟩, ⟨r0, r1, r2, r3⟩, ⟨c0, c1, c2, c3⟩, hzs⟩ := HTG.out.facts
           clear hu25
           go_wp2_with fail
           refine hK.out _ _ (by exact ⟨q3, t0, t1, t2, r0, r1, r2, r3, c0, c1, c2, c3⟩) (fun hHf25 => ?_)
           clear hK K
           try simp only [Act.put, List.setIfInBounds_toArray, List.set_cons_zero, List.set_cons_succ]
           refine Hd.tk 27 ?_
           try simp only [Act.put, List.setIfInBounds_toArray, List.set_cons_zero, List.set_cons_succ]
           refine Hd.tk 28 ?_
           try simp only [Act.put, List.setIfInBounds_toArray, List.set_cons_zero, List.set_cons_succ]
           refine wpAnyH_done (by kernel_rfl) ?_ _
           obtain ⟨_, ⟨⟨e0, e1, e2, e3⟩, ⟨g0, g1, g2, g3⟩⟩, ⟨⟨d0, d1, d2⟩, ⟨k0, k1, k2⟩⟩, hz⟩ := HTG.out.rd.r3.facts
           go_wp2_with fail
           obtain ⟨⟨⟨z0, z1, z2, z3⟩, ⟨y0, y1, y2⟩⟩, hbf⟩ := HTG.out.rd.r3.done (.string ⟨#[]⟩) (.string ⟨#[]⟩) (.string ⟨#[]⟩) (.bool false) (.string ⟨#[]⟩) (.int .i64 0) (.int .i64 0)
           refine bodyPost_ret (v := .tuple #[adZ, tkZ, .string ⟨#[]⟩, errV 2]) (by simp [results, Tryz.results20, go_sem, z0, z1, z2, z3, y0, y1, y2]) rfl ⟨?_, hbf⟩
           rw [HR.out]; rfl
         ·have HR := Lib.hid (read_bad HP.out hax hay (fun hk => by have h9 := hk.2.1; rw [hre] at h9; exact hck h9))
          obtain ⟨n, hn⟩ : ∃ z, checkS ⟨h, p, [], false⟩ ⟨v0, x, y⟩ = z := ⟨_, rfl⟩
          rw [hn] at hck
          have HCHK : Hid (∀ wz, SgnAt wz → Calls Tryz.prog 46 #[.agg #[.string ⟨h.toArray⟩, .string ⟨p.toArray⟩, .string ⟨#[]⟩, .bool false], .agg #[.string ⟨v0.toArray⟩, .int .i64 x, .int .i64 y]] wz fun e w' => e = .returned (errV n) ∧ Below wz.heap.size wz w') := Lib.hid (fun wz hz => by have h9 := check_any ⟨h, p, [], false⟩ ⟨v0, x, y⟩ wz hz (by simp only; omega) (by simp only; omega) (by simp only; (first | omega | (simp; done))) (by simp only; omega); rw [show Sg.errC (checkS ⟨h, p, [], false⟩ ⟨v0, x, y⟩) = errV n from errC_of hn hck] at h9; exact h9)
          clear hn hck hax hay hhx9 hre
          have q1 := HLP.out.vb.cell (i := 1) (v := .string ⟨v1.toArray⟩) rfl
          have hzq := HLP.out.vb.lt
          go_wp2_with fail
          refine (satoi_yes v1 x _ HA1.out (by omega)).mono ?_
          rintro e w3 ⟨rfl, hb3⟩
          have HLP3 := Lib.hid (HLP.out.older hb3)
          clear hb3 q1 hzq
          have q2 := HLP3.out.vb.cell (i := 2) (v := .string ⟨v2.toArray⟩) rfl
          have hzq := HLP3.out.vb.lt
          go_wp2_with fail
          refine (satoi_yes v2 y _ HA2.out (by omega)).mono ?_
          rintro e w4 ⟨rfl, hb4⟩
          have HLP4 := Lib.hid (HLP3.out.older hb4)
          clear hb4 q2 hzq
          have q0 := HLP4.out.vb.cell (i := 0) (v := .string ⟨v0.toArray⟩) rfl
          have hzq := HLP4.out.vb.lt
          obtain ⟨⟨c0, c1, c2, c3⟩, _, _, hz⟩ := HLP4.out.rd.r3.facts
          have hz1 : w.heap.size < w4.heap.size := by omega
          have HT := Lib.hid (rtS_new HLP4.out.rd HLP4.out.vb HLP4.out.lq x y h p)
          go_wp2_with fail
          obtain ⟨RR, hRR⟩ : ∃ zz, w4.heap.size = zz := ⟨_, rfl⟩
          obtain ⟨w8, hw8⟩ : ∃ wz, ((w4.alloc (.cells #[.string ⟨v0.toArray⟩, .int .i64 x, .int .i64 y] 51)).alloc (.cells #[.string ⟨h.toArray⟩, .string ⟨p.toArray⟩, .string ⟨#[]⟩, .bool false] 27)) = wz := ⟨_, rfl⟩
          rw [hw8] at HT ⊢
          rw [hRR] at HT ⊢
          clear hw8 c0 c1 c2 c3 hz hz1 q0 hzq
          have HT8 := HT
          obtain ⟨q3, ⟨t0, t1, t2⟩, ⟨r0, r1, r2, r3⟩, ⟨c0, c1, c2, c3⟩, hzs⟩ := HT8.out.facts
          have HTD := Lib.hid (HT8.out.older ((Below.refl _ _).drew))
          refine wp_region_held_drew (S := fun w' => w'.cell? ⟨w1.heap.size, 3, none⟩ = some (.string ⟨v3.toArray⟩) ∧ w'.cell? ⟨RR, 0, none⟩ = some (.string ⟨v0.toArray⟩) ∧ w'.cell? ⟨RR, 1, none⟩ = some (.int .i64 x) ∧ w'.cell? ⟨RR, 2, none⟩ = some (.int .i64 y) ∧ w'.cell? ⟨RR + 1, 0, none⟩ = some (.string ⟨h.toArray⟩) ∧ w'.cell? ⟨RR + 1, 1, none⟩ = some (.string ⟨p.toArray⟩) ∧ w'.cell? ⟨RR + 1, 2, none⟩ = some (.string ⟨#[]⟩) ∧ w'.cell? ⟨RR + 1, 3, none⟩ = some (.bool false) ∧ w'.cell? ⟨w.heap.size, 0, none⟩ = some (.string ⟨h.toArray⟩) ∧ w'.cell? ⟨w.heap.size, 1, none⟩ = some (.string ⟨p.toArray⟩) ∧ w'.cell? ⟨w.heap.size, 2, none⟩ = some (.string ⟨q.toArray⟩) ∧ w'.cell? ⟨w.heap.size, 3, none⟩ = some (.bool b)) (by kernel_rfl) (by exact ⟨q3, t0, t1, t2, r0, r1, r2, r3, c0, c1, c2, c3⟩) (fun hHeld => ?_)
          obtain ⟨wd, hwd⟩ : ∃ z, w8.drew = z := ⟨_, rfl⟩
          rw [hwd] at hHeld HTD ⊢
          clear hwd
          clear q3 t0 t1 t2 r0 r1 r2 r3 c0 c1 c2 c3 hzs
          obtain ⟨q3, ⟨t0, t1, t2⟩, ⟨r0, r1, r2, r3⟩, ⟨c0, c1, c2, c3⟩, hzs⟩ := HTD.out.facts
          refine Hd.tk 0 ?_
          try simp only [Act.put, List.setIfInBounds_toArray, List.set_cons_zero, List.set_cons_succ]
          refine Hd.tk 1 ?_
          try simp only [Act.put, List.setIfInBounds_toArray, List.set_cons_zero, List.set_cons_succ]
          refine Hd.tk 2 ?_
          try simp only [Act.put, List.setIfInBounds_toArray, List.set_cons_zero, List.set_cons_succ]
          refine Hd.tk 3 ?_
          try simp only [Act.put, List.setIfInBounds_toArray, List.set_cons_zero, List.set_cons_succ]
          refine Hd.tk 4 ?_
          try simp only [Act.put, List.setIfInBounds_toArray, List.set_cons_zero, List.set_cons_succ]
          refine Hd.tk 5 ?_
          try simp only [Act.put, List.setIfInBounds_toArray, List.set_cons_zero, List.set_cons_succ]
          refine Hd.tk 6 ?_
          try simp only [Act.put, List.setIfInBounds_toArray, List.set_cons_zero, List.set_cons_succ]
          refine Hd.tk 7 ?_
          try simp only [Act.put, List.setIfInBounds_toArray, List.set_cons_zero, List.set_cons_succ]
          refine Hd.tk 8 ?_
          try simp only [Act.put, List.setIfInBounds_toArray, List.set_cons_zero, List.set_cons_succ]
          refine wpAnyH_ready (rs := [9]) (by kernel_rfl) (by simp) (AllReadyH.cons (by simp only [List.getElem?_toArray, List.getElem?_cons_succ, List.getElem?_cons_zero]; rfl) (fun K hK => ?_) AllReadyH.nil)
          go_simp
          go_at_call 58
          refine (HHEX.out _).mono ?_
          rintro e u9 ⟨rfl, rfl⟩
          go_wp2_with fail
          refine hK.out _ _ (by exact ⟨q3, t0, t1, t2, r0, r1, r2, r3, c0, c1, c2, c3⟩) (fun hHf9 => ?_)
          clear hK K
          try simp only [Act.put, List.setIfInBounds_toArray, List.set_cons_zero, List.set_cons_succ]
          refine Hd.tk 10 ?_
          try simp only [Act.put, List.setIfInBounds_toArray, List.set_cons_zero, List.set_cons_succ]
          refine Hd.tk 11 ?_
          try simp only [Act.put, List.setIfInBounds_toArray, List.set_cons_zero, List.set_cons_succ]
          refine Hd.tk 12 ?_
          try simp only [Act.put, List.setIfInBounds_toArray, List.set_cons_zero, List.set_cons_succ]
          refine Hd.tk 13 ?_
          try simp only [Act.put, List.setIfInBounds_toArray, List.set_cons_zero, List.set_cons_succ]
          refine Hd.tk 14 ?_
          try simp only [Act.put, List.setIfInBounds_toArray, List.set_cons_zero, List.set_cons_succ]
          refine wpAnyH_ready (rs := [15]) (by kernel_rfl) (by simp) (AllReadyH.cons (by simp only [List.getElem?_toArray, List.getElem?_cons_succ, List.getElem?_cons_zero]; rfl) (fun K hK => ?_) AllReadyH.nil)
          go_simp
          go_at_call 46
          refine (HCHK.out _ (HG.out.below HTD.out.rd.r3.bel)).mono ?_
          rintro e u15 ⟨rfl, hu15⟩
          have HTE := Lib.hid (HTD.out.older hu15)
          clear q3 t0 t1 t2 r0 r1 r2 r3 c0 c1 c2 c3 hzs
          obtain ⟨q3, ⟨t0, t1, t2⟩, ⟨r0, r1, r2, r3⟩, ⟨c0, c1, c2, c3⟩, hzs⟩ := HTE.out.facts
          clear hu15
          go_wp2_with fail
          refine hK.out _ _ (by exact ⟨q3, t0, t1, t2, r0, r1, r2, r3, c0, c1, c2, c3⟩) (fun hHf15 => ?_)
          clear hK K
          try simp only [Act.put, List.setIfInBounds_toArray, List.set_cons_zero, List.set_cons_succ]
          refine Hd.tk 16 ?_
          try simp only [Act.put, List.setIfInBounds_toArray, List.set_cons_zero, List.set_cons_succ]
          refine Hd.tk 17 ?_
          try simp only [Act.put, List.setIfInBounds_toArray, List.set_cons_zero, List.set_cons_succ]
          refine Hd.tk 18 ?_
          try simp only [Act.put, List.setIfInBounds_toArray, List.set_cons_zero, List.set_cons_succ]
          refine Hd.sk 19 ?_
          try simp only [Act.put, List.setIfInBounds_toArray, List.set_cons_zero, List.set_cons_succ]
          refine Hd.sk 20 ?_
          try simp only [Act.put, List.setIfInBounds_toArray, List.set_cons_zero, List.set_cons_succ]
          refine Hd.sk 21 ?_
          try simp only [Act.put, List.setIfInBounds_toArray, List.set_cons_zero, List.set_cons_succ]
          refine Hd.sk 22 ?_
          try simp only [Act.put, List.setIfInBounds_toArray, List.set_cons_zero, List.set_cons_succ]
          refine Hd.sk 23 ?_
          try simp only [Act.put, List.setIfInBounds_toArray, List.set_cons_zero, List.set_cons_succ]
          refine Hd.sk 24 ?_
          try simp only [Act.put, List.setIfInBounds_toArray, List.set_cons_zero, List.set_cons_succ]
          refine Hd.sk 25 ?_
          try simp only [Act.put, List.setIfInBounds_toArray, List.set_cons_zero, List.set_cons_succ]
          refine Hd.sk 26 ?_
          try simp only [Act.put, List.setIfInBounds_toArray, List.set_cons_zero, List.set_cons_succ]
          refine Hd.sk 27 ?_
          try simp only [Act.put, List.setIfInBounds_toArray, List.set_cons_zero, List.set_cons_succ]
          refine Hd.tk 28 ?_
          try simp only [Act.put, List.setIfInBounds_toArray, List.set_cons_zero, List.set_cons_succ]
          refine wpAnyH_done (by kernel_rfl) ?_ _
          obtain ⟨_, ⟨⟨e0, e1, e2, e3⟩, ⟨g0, g1, g2, g3⟩⟩, ⟨⟨d0, d1, d2⟩, ⟨k0, k1, k2⟩⟩, hz⟩ := HTE.out.rd.r3.facts
          go_wp2_with fail
          obtain ⟨⟨⟨z0, z1, z2, z3⟩, ⟨y0, y1, y2⟩⟩, hbf⟩ := HTE.out.rd.r3.done (.string ⟨#[]⟩) (.string ⟨#[]⟩) (.string ⟨#[]⟩) (.bool false) (.string ⟨#[]⟩) (.int .i64 0) (.int .i64 0)
          refine bodyPost_ret (v := .tuple #[adZ, tkZ, .string ⟨#[]⟩, errV 2]) (by simp [results, Tryz.results20, go_sem, z0, z1, z2, z3, y0, y1, y2]) rfl ⟨?_, hbf⟩
          rw [HR.out]; rfl
      ·have HR := Lib.hid (read_noatoi HP.out (.inr (fun n hn => hay ⟨n, hn⟩)))
       have HA2 := Lib.hid (fun n hn => hay ⟨n, hn⟩)
       clear hax hay hre
       have q1 := HLP.out.vb.cell (i := 1) (v := .string ⟨v1.toArray⟩) rfl
       have hzq := HLP.out.vb.lt
       go_wp2_with fail
       refine (satoi_yes v1 x _ HA1.out (by omega)).mono ?_
       rintro e w3 ⟨rfl, hb3⟩
       have HLP3 := Lib.hid (HLP.out.older hb3)
       clear hb3 q1 hzq
       have q2 := HLP3.out.vb.cell (i := 2) (v := .string ⟨v2.toArray⟩) rfl
       have hzq := HLP3.out.vb.lt
       go_wp2_with fail
       refine (satoi_no v2 _ HA2.out (HG.out.below HLP3.out.rd.r3.bel) (by omega)).mono ?_
       rintro e w4 ⟨⟨y, pe, rfl⟩, hb4⟩
       have HLP4 := Lib.hid (HLP3.out.older hb4)
       clear hb4 q2 hzq
       have q0 := HLP4.out.vb.cell (i := 0) (v := .string ⟨v0.toArray⟩) rfl
       have hzq := HLP4.out.vb.lt
       obtain ⟨⟨c0, c1, c2, c3⟩, _, _, hz⟩ := HLP4.out.rd.r3.facts
       have hz1 : w.heap.size < w4.heap.size := by omega
       have HT := Lib.hid (rtS_new HLP4.out.rd HLP4.out.vb HLP4.out.lq x y h p)
       go_wp2_with fail
       obtain ⟨RR, hRR⟩ : ∃ zz, w4.heap.size = zz := ⟨_, rfl⟩
       obtain ⟨w8, hw8⟩ : ∃ wz, ((w4.alloc (.cells #[.string ⟨v0.toArray⟩, .int .i64 x, .int .i64 y] 51)).alloc (.cells #[.string ⟨h.toArray⟩, .string ⟨p.toArray⟩, .string ⟨#[]⟩, .bool false] 27)) = wz := ⟨_, rfl⟩
       rw [hw8] at HT ⊢
       rw [hRR] at HT ⊢
       clear hw8 c0 c1 c2 c3 hz hz1 q0 hzq
       have HT8 := HT
       obtain ⟨q3, ⟨t0, t1, t2⟩, ⟨r0, r1, r2, r3⟩, ⟨c0, c1, c2, c3⟩, hzs⟩ := HT8.out.facts
       have HTD := Lib.hid (HT8.out.older ((Below.refl _ _).drew))
       refine wp_region_held_drew (S := fun w' => w'.cell? ⟨w1.heap.size, 3, none⟩ = some (.string ⟨v3.toArray⟩) ∧ w'.cell? ⟨RR, 0, none⟩ = some (.string ⟨v0.toArray⟩) ∧ w'.cell? ⟨RR, 1, none⟩ = some (.int .i64 x) ∧ w'.cell? ⟨RR, 2, none⟩ = some (.int .i64 y) ∧ w'.cell? ⟨RR + 1, 0, none⟩ = some (.string ⟨h.toArray⟩) ∧ w'.cell? ⟨RR + 1, 1, none⟩ = some (.string ⟨p.toArray⟩) ∧ w'.cell? ⟨RR + 1, 2, none⟩ = some (.string ⟨#[]⟩) ∧ w'.cell? ⟨RR + 1, 3, none⟩ = some (.bool false) ∧ w'.cell? ⟨w.heap.size, 0, none⟩ = some (.string ⟨h.toArray⟩) ∧ w'.cell? ⟨w.heap.size, 1, none⟩ = some (.string ⟨p.toArray⟩) ∧ w'.cell? ⟨w.heap.size, 2, none⟩ = some (.string ⟨q.toArray⟩) ∧ w'.cell? ⟨w.heap.size, 3, none⟩ = some (.bool b)) (by kernel_rfl) (by exact ⟨q3, t0, t1, t2, r0, r1, r2, r3, c0, c1, c2, c3⟩) (fun hHeld => ?_)
       obtain ⟨wd, hwd⟩ : ∃ z, w8.drew = z := ⟨_, rfl⟩
       rw [hwd] at hHeld HTD ⊢
       clear hwd
       clear q3 t0 t1 t2 r0 r1 r2 r3 c0 c1 c2 c3 hzs
       obtain ⟨q3, ⟨t0, t1, t2⟩, ⟨r0, r1, r2, r3⟩, ⟨c0, c1, c2, c3⟩, hzs⟩ := HTD.out.facts
       refine Hd.tk 0 ?_
       try simp only [Act.put, List.setIfInBounds_toArray, List.set_cons_zero, List.set_cons_succ]
       refine Hd.tk 1 ?_
       try simp only [Act.put, List.setIfInBounds_toArray, List.set_cons_zero, List.set_cons_succ]
       refine Hd.tk 2 ?_
       try simp only [Act.put, List.setIfInBounds_toArray, List.set_cons_zero, List.set_cons_succ]
       refine Hd.tk 3 ?_
       try simp only [Act.put, List.setIfInBounds_toArray, List.set_cons_zero, List.set_cons_succ]
       refine Hd.tk 4 ?_
       try simp only [Act.put, List.setIfInBounds_toArray, List.set_cons_zero, List.set_cons_succ]
       refine Hd.tk 5 ?_
       try simp only [Act.put, List.setIfInBounds_toArray, List.set_cons_zero, List.set_cons_succ]
       refine Hd.tk 6 ?_
       try simp only [Act.put, List.setIfInBounds_toArray, List.set_cons_zero, List.set_cons_succ]
       refine Hd.sk 7 ?_
       try simp only [Act.put, List.setIfInBounds_toArray, List.set_cons_zero, List.set_cons_succ]
       refine Hd.sk 8 ?_
       try simp only [Act.put, List.setIfInBounds_toArray, List.set_cons_zero, List.set_cons_succ]
       refine Hd.sk 9 ?_
       try simp only [Act.put, List.setIfInBounds_toArray, List.set_cons_zero, List.set_cons_succ]
       refine Hd.sk 10 ?_
       try simp only [Act.put, List.setIfInBounds_toArray, List.set_cons_zero, List.set_cons_succ]
       refine Hd.tk 11 ?_
       try simp only [Act.put, List.setIfInBounds_toArray, List.set_cons_zero, List.set_cons_succ]
       refine Hd.tk 12 ?_
       try simp only [Act.put, List.setIfInBounds_toArray, List.set_cons_zero, List.set_cons_succ]
       refine Hd.sk 13 ?_
       try simp only [Act.put, List.setIfInBounds_toArray, List.set_cons_zero, List.set_cons_succ]
       refine Hd.sk 14 ?_
       try simp only [Act.put, List.setIfInBounds_toArray, List.set_cons_zero, List.set_cons_succ]
       refine Hd.sk 15 ?_
       try simp only [Act.put, List.setIfInBounds_toArray, List.set_cons_zero, List.set_cons_succ]
       refine Hd.sk 16 ?_
       try simp only [Act.put, List.setIfInBounds_toArray, List.set_cons_zero, List.set_cons_succ]
       refine Hd.tk 17 ?_
       try simp only [Act.put, List.setIfInBounds_toArray, List.set_cons_zero, List.set_cons_succ]
       refine Hd.tk 18 ?_
       try simp only [Act.put, List.setIfInBounds_toArray, List.set_cons_zero, List.set_cons_succ]
       refine Hd.sk 19 ?_
       try simp only [Act.put, List.setIfInBounds_toArray, List.set_cons_zero, List.set_cons_succ]
       refine Hd.sk 20 ?_
       try simp only [Act.put, List.setIfInBounds_toArray, List.set_cons_zero, List.set_cons_succ]
       refine Hd.sk 21 ?_
       try simp only [Act.put, List.setIfInBounds_toArray, List.set_cons_zero, List.set_cons_succ]
       refine Hd.sk 22 ?_
       try simp only [Act.put, List.setIfInBounds_toArray, List.set_cons_zero, List.set_cons_succ]
       refine Hd.sk 23 ?_
       try simp only [Act.put, List.setIfInBounds_toArray, List.set_cons_zero, List.set_cons_succ]
       refine Hd.sk 24 ?_
       try simp only [Act.put, List.setIfInBounds_toArray, List.set_cons_zero, List.set_cons_succ]
       refine Hd.sk 25 ?_
       try simp only [Act.put, List.setIfInBounds_toArray, List.set_cons_zero, List.set_cons_succ]
       refine Hd.sk 26 ?_
       try simp only [Act.put, List.setIfInBounds_toArray, List.set_cons_zero, List.set_cons_succ]
       refine Hd.sk 27 ?_
       try simp only [Act.put, List.setIfInBounds_toArray, List.set_cons_zero, List.set_cons_succ]
       refine Hd.tk 28 ?_
       try simp only [Act.put, List.setIfInBounds_toArray, List.set_cons_zero, List.set_cons_succ]
       refine wpAnyH_done (by kernel_rfl) ?_ _
       obtain ⟨_, ⟨⟨e0, e1, e2, e3⟩, ⟨g0, g1, g2, g3⟩⟩, ⟨⟨d0, d1, d2⟩, ⟨k0, k1, k2⟩⟩, hz⟩ := HTD.out.rd.r3.facts
       go_wp2_with fail
       obtain ⟨⟨⟨z0, z1, z2, z3⟩, ⟨y0, y1, y2⟩⟩, hbf⟩ := HTD.out.rd.r3.done (.string ⟨#[]⟩) (.string ⟨#[]⟩) (.string ⟨#[]⟩) (.bool false) (.string ⟨#[]⟩) (.int .i64 0) (.int .i64 0)
       refine bodyPost_ret (v := .tuple #[adZ, tkZ, .string ⟨#[]⟩, errV 2]) (by simp [results, Tryz.results20, go_sem, z0, z1, z2, z3, y0, y1, y2]) rfl ⟨?_, hbf⟩
       rw [HR.out]; rfl
     ·have HR := Lib.hid (read_noatoi HP.out (.inl (fun n hn => hax ⟨n, hn⟩)))
      have HA1 := Lib.hid (fun n hn => hax ⟨n, hn⟩)
      clear hax hre
      have q1 := HLP.out.vb.cell (i := 1) (v := .string ⟨v1.toArray⟩) rfl
      have hzq := HLP.out.vb.lt
      go_wp2_with fail
      refine (satoi_no v1 _ HA1.out (HG.out.below HLP.out.rd.r3.bel) (by omega)).mono ?_
      rintro e w3 ⟨⟨x, pe, rfl⟩, hb3⟩
      have HLP3 := Lib.hid (HLP.out.older hb3)
      clear hb3 q1 hzq
      have q2 := HLP3.out.vb.cell (i := 2) (v := .string ⟨v2.toArray⟩) rfl
      have hzq := HLP3.out.vb.lt
      go_wp2_with fail
      refine (satoi_gen v2 _ (HG.out.below HLP3.out.rd.r3.bel) (by omega)).mono ?_
      rintro e w4 ⟨⟨y, ev, rfl⟩, hb4⟩
      have HLP4 := Lib.hid (HLP3.out.older hb4)
      clear hb4 q2 hzq
      have q0 := HLP4.out.vb.cell (i := 0) (v := .string ⟨v0.toArray⟩) rfl
      have hzq := HLP4.out.vb.lt
      obtain ⟨⟨c0, c1, c2, c3⟩, _, _, hz⟩ := HLP4.out.rd.r3.facts
      have hz1 : w.heap.size < w4.heap.size := by omega
      have HT := Lib.hid (rtS_new HLP4.out.rd HLP4.out.vb HLP4.out.lq x y h p)
      go_wp2_with fail
      obtain ⟨RR, hRR⟩ : ∃ zz, w4.heap.size = zz := ⟨_, rfl⟩
      obtain ⟨w8, hw8⟩ : ∃ wz, ((w4.alloc (.cells #[.string ⟨v0.toArray⟩, .int .i64 x, .int .i64 y] 51)).alloc (.cells #[.string ⟨h.toArray⟩, .string ⟨p.toArray⟩, .string ⟨#[]⟩, .bool false] 27)) = wz := ⟨_, rfl⟩
      rw [hw8] at HT ⊢
      rw [hRR] at HT ⊢
      clear hw8 c0 c1 c2 c3 hz hz1 q0 hzq
      have HT8 := HT
      obtain ⟨q3, ⟨t0, t1, t2⟩, ⟨r0, r1, r2, r3⟩, ⟨c0, c1, c2, c3⟩, hzs⟩ := HT8.out.facts
      have HTD := Lib.hid (HT8.out.older ((Below.refl _ _).drew))
      refine wp_region_held_drew (S := fun w' => w'.cell? ⟨w1.heap.size, 3, none⟩ = some (.string ⟨v3.toArray⟩) ∧ w'.cell? ⟨RR, 0, none⟩ = some (.string ⟨v0.toArray⟩) ∧ w'.cell? ⟨RR, 1, none⟩ = some (.int .i64 x) ∧ w'.cell? ⟨RR, 2, none⟩ = some (.int .i64 y) ∧ w'.cell? ⟨RR + 1, 0, none⟩ = some (.string ⟨h.toArray⟩) ∧ w'.cell? ⟨RR + 1, 1, none⟩ = some (.string ⟨p.toArray⟩) ∧ w'.cell? ⟨RR + 1, 2, none⟩ = some (.string ⟨#[]⟩) ∧ w'.cell? ⟨RR + 1, 3, none⟩ = some (.bool false) ∧ w'.cell? ⟨w.heap.size, 0, none⟩ = some (.string ⟨h.toArray⟩) ∧ w'.cell? ⟨w.heap.size, 1, none⟩ = some (.string ⟨p.toArray⟩) ∧ w'.cell? ⟨w.heap.size, 2, none⟩ = some (.string ⟨q.toArray⟩) ∧ w'.cell? ⟨w.heap.size, 3, none⟩ = some (.bool b)) (by kernel_rfl) (by exact ⟨q3, t0, t1, t2, r0, r1, r2, r3, c0, c1, c2, c3⟩) (fun hHeld => ?_)
      obtain ⟨wd, hwd⟩ : ∃ z, w8.drew = z := ⟨_, rfl⟩
      rw [hwd] at hHeld HTD ⊢
      clear hwd
      clear q3 t0 t1 t2 r0 r1 r2 r3 c0 c1 c2 c3 hzs
      obtain ⟨q3, ⟨t0, t1, t2⟩, ⟨r0, r1, r2, r3⟩, ⟨c0, c1, c2, c3⟩, hzs⟩ := HTD.out.facts
      refine Hd.tk 0 ?_
      try simp only [Act.put, List.setIfInBounds_toArray, List.set_cons_zero, List.set_cons_succ]
      refine Hd.tk 1 ?_
      try simp only [Act.put, List.setIfInBounds_toArray, List.set_cons_zero, List.set_cons_succ]
      refine Hd.tk 2 ?_
      try simp only [Act.put, List.setIfInBounds_toArray, List.set_cons_zero, List.set_cons_succ]
      refine Hd.sk 3 ?_
      try simp only [Act.put, List.setIfInBounds_toArray, List.set_cons_zero, List.set_cons_succ]
      refine Hd.sk 4 ?_
      try simp only [Act.put, List.setIfInBounds_toArray, List.set_cons_zero, List.set_cons_succ]
      refine Hd.tk 5 ?_
      try simp only [Act.put, List.setIfInBounds_toArray, List.set_cons_zero, List.set_cons_succ]
      refine Hd.tk 6 ?_
      try simp only [Act.put, List.setIfInBounds_toArray, List.set_cons_zero, List.set_cons_succ]
      refine Hd.sk 7 ?_
      try simp only [Act.put, List.setIfInBounds_toArray, List.set_cons_zero, List.set_cons_succ]
      refine Hd.sk 8 ?_
      try simp only [Act.put, List.setIfInBounds_toArray, List.set_cons_zero, List.set_cons_succ]
      refine Hd.sk 9 ?_
      try simp only [Act.put, List.setIfInBounds_toArray, List.set_cons_zero, List.set_cons_succ]
      refine Hd.sk 10 ?_
      try simp only [Act.put, List.setIfInBounds_toArray, List.set_cons_zero, List.set_cons_succ]
      refine Hd.tk 11 ?_
      try simp only [Act.put, List.setIfInBounds_toArray, List.set_cons_zero, List.set_cons_succ]
      refine Hd.tk 12 ?_
      try simp only [Act.put, List.setIfInBounds_toArray, List.set_cons_zero, List.set_cons_succ]
      refine Hd.sk 13 ?_
      try simp only [Act.put, List.setIfInBounds_toArray, List.set_cons_zero, List.set_cons_succ]
      refine Hd.sk 14 ?_
      try simp only [Act.put, List.setIfInBounds_toArray, List.set_cons_zero, List.set_cons_succ]
      refine Hd.sk 15 ?_
      try simp only [Act.put, List.setIfInBounds_toArray, List.set_cons_zero, List.set_cons_succ]
      refine Hd.sk 16 ?_
      try simp only [Act.put, List.setIfInBounds_toArray, List.set_cons_zero, List.set_cons_succ]
      refine Hd.tk 17 ?_
      try simp only [Act.put, List.setIfInBounds_toArray, List.set_cons_zero, List.set_cons_succ]
      refine Hd.tk 18 ?_
      try simp only [Act.put, List.setIfInBounds_toArray, List.set_cons_zero, List.set_cons_succ]
      refine Hd.sk 19 ?_
      try simp only [Act.put, List.setIfInBounds_toArray, List.set_cons_zero, List.set_cons_succ]
      refine Hd.sk 20 ?_
      try simp only [Act.put, List.setIfInBounds_toArray, List.set_cons_zero, List.set_cons_succ]
      refine Hd.sk 21 ?_
      try simp only [Act.put, List.setIfInBounds_toArray, List.set_cons_zero, List.set_cons_succ]
      refine Hd.sk 22 ?_
      try simp only [Act.put, List.setIfInBounds_toArray, List.set_cons_zero, List.set_cons_succ]
      refine Hd.sk 23 ?_
      try simp only [Act.put, List.setIfInBounds_toArray, List.set_cons_zero, List.set_cons_succ]
      refine Hd.sk 24 ?_
      try simp only [Act.put, List.setIfInBounds_toArray, List.set_cons_zero, List.set_cons_succ]
      refine Hd.sk 25 ?_
      try simp only [Act.put, List.setIfInBounds_toArray, List.set_cons_zero, List.set_cons_succ]
      refine Hd.sk 26 ?_
      try simp only [Act.put, List.setIfInBounds_toArray, List.set_cons_zero, List.set_cons_succ]
      refine Hd.sk 27 ?_
      try simp only [Act.put, List.setIfInBounds_toArray, List.set_cons_zero, List.set_cons_succ]
      refine Hd.tk 28 ?_
      try simp only [Act.put, List.setIfInBounds_toArray, List.set_cons_zero, List.set_cons_succ]
      refine wpAnyH_done (by kernel_rfl) ?_ _
      obtain ⟨_, ⟨⟨e0, e1, e2, e3⟩, ⟨g0, g1, g2, g3⟩⟩, ⟨⟨d0, d1, d2⟩, ⟨k0, k1, k2⟩⟩, hz⟩ := HTD.out.rd.r3.facts
      go_wp2_with fail
      obtain ⟨⟨⟨z0, z1, z2, z3⟩, ⟨y0, y1, y2⟩⟩, hbf⟩ := HTD.out.rd.r3.done (.string ⟨#[]⟩) (.string ⟨#[]⟩) (.string ⟨#[]⟩) (.bool false) (.string ⟨#[]⟩) (.int .i64 0) (.int .i64 0)
      refine bodyPost_ret (v := .tuple #[adZ, tkZ, .string ⟨#[]⟩, errV 2]) (by simp [results, Tryz.results20, go_sem, z0, z1, z2, z3, y0, y1, y2]) rfl ⟨?_, hbf⟩
      rw [HR.out]; rfl
    ·have hk1 : (0 : Int) < (n4 : Int) := by omega
     obtain ⟨J, hJ⟩ : ∃ z, Lib.join l [38] = z := ⟨_, rfl⟩
     have hre : restA ⟨h, p, q, b⟩ l = ⟨h, p, J, true⟩ := by rw [restA_cons h p q b (by rw [HLL.out]; omega), hJ]
     have hJl : J.length ≤ 33554432 := by have := HRL.out; rw [hJ] at this; omega
     have HJOIN : Hid (∀ wz, RdS 27 51 w wz ⟨h, p, q, b⟩ bb xs → Calls Tryz.prog 38 #[.slice (some ⟨bb, 0, none⟩) n4 c, .string ⟨#[38]⟩] wz fun e w' => e = .returned (.string ⟨J.toArray⟩) ∧ Below wz.heap.size wz w') := Lib.hid (fun wz hz => by have h9 := join_any bb c l [38] wz (cells_pre (m := [x0, x1, x2, x3]) (by rw [← HXT.out]; exact hz.cells)) hz.bl (by rw [HLL.out]; omega) (by rw [HLL.out]; omega) (by rw [hJ]; omega); rw [hJ, HLL.out] at h9; exact h9)
     clear hk0 hJ
     rcases Classical.em (∃ x, Lib.atoiAll v1 = .ok x) with ⟨x, hax⟩ | hax
     ·have HA1 := Lib.hid hax
      rcases Classical.em (∃ y, Lib.atoiAll v2 = .ok y) with ⟨y, hay⟩ | hay
      ·have HA2 := Lib.hid hay
       cases hhx : hexOk v3 with
       | false =>
         have HR := Lib.hid (read_bad HP.out hax hay (fun hk => by rw [hk.1] at hhx; cases hhx))
         have HHEX : Hid (∀ wz, Calls Tryz.prog 58 #[.string ⟨v3.toArray⟩] wz fun e w' => e = .returned (.bool false) ∧ wz = w') := Lib.hid (fun wz => by have h9 := hexadecimal_any v3 wz (by omega); rw [hhx] at h9; exact h9)
         clear hax hay hhx
         have q1 := HLP.out.vb.cell (i := 1) (v := .string ⟨v1.toArray⟩) rfl
         have hzq := HLP.out.vb.lt
         go_wp2_with fail
         refine (satoi_yes v1 x _ HA1.out (by omega)).mono ?_
         rintro e w3 ⟨rfl, hb3⟩
         have HLP3 := Lib.hid (HLP.out.older hb3)
         clear hb3 q1 hzq
         have q2 := HLP3.out.vb.cell (i := 2) (v := .string ⟨v2.toArray⟩) rfl
         have hzq := HLP3.out.vb.lt
         go_wp2_with fail
         refine (satoi_yes v2 y _ HA2.out (by omega)).mono ?_
         rintro e w4 ⟨rfl, hb4⟩
         have HLP4 := Lib.hid (HLP3.out.older hb4)
         clear hb4 q2 hzq
         have q0 := HLP4.out.vb.cell (i := 0) (v := .string ⟨v0.toArray⟩) rfl
         have hzq := HLP4.out.vb.lt
         obtain ⟨⟨c0, c1, c2, c3⟩, _, _, hz⟩ := HLP4.out.rd.r3.facts
         have hz1 : w.heap.size < w4.heap.size := by omega
         have HT := Lib.hid (rtS_new HLP4.out.rd HLP4.out.vb HLP4.out.lq x y h p)
         go_wp2_with fail
         refine (HJOIN.out _ HT.out.rd).mono ?_
         rintro e w5 ⟨rfl, hb5⟩
         have HT5 := Lib.hid (HT.out.older hb5)
         clear hb5 c0 c1 c2 c3 hz hz1 q0 hzq
         have s2 := HT5.out.sb.cell (i := 2) rfl
         have s3 := HT5.out.sb.cell (i := 3) rfl
         have hs2 := HT5.out.sb.frz 2
         have hs3 := HT5.out.sb.frz 3
         have hzs := HT5.out.sb.lt
         go_wp2_with fail
         have HT6 := Lib.hid (HT5.out.rest J)
         obtain ⟨RR, hRR⟩ : ∃ zz, w4.heap.size = zz := ⟨_, rfl⟩
         rw [hRR] at HT6 ⊢
         obtain ⟨w8, hw8⟩ : ∃ wz, (w5.setCell ⟨RR + 1, 3, none⟩ (.bool true)).setCell ⟨RR + 1, 2, none⟩ (.string ⟨J.toArray⟩) = wz := ⟨_, rfl⟩
         rw [hw8] at HT6 ⊢
         clear hw8 s2 s3 hs2 hs3 hzs
         have HT8 := HT6
         obtain ⟨q3, ⟨t0, t1, t2⟩, ⟨r0, r1, r2, r3⟩, ⟨c0, c1, c2, c3⟩, hzs⟩ := HT8.out.facts
         have HTD := Lib.hid (HT8.out.older ((Below.refl _ _).drew))
         refine wp_region_held_drew (S := fun w' => w'.cell? ⟨w1.heap.size, 3, none⟩ = some (.string ⟨v3.toArray⟩) ∧ w'.cell? ⟨RR, 0, none⟩ = some (.string ⟨v0.toArray⟩) ∧ w'.cell? ⟨RR, 1, none⟩ = some (.int .i64 x) ∧ w'.cell? ⟨RR, 2, none⟩ = some (.int .i64 y) ∧ w'.cell? ⟨RR + 1, 0, none⟩ = some (.string ⟨h.toArray⟩) ∧ w'.cell? ⟨RR + 1, 1, none⟩ = some (.string ⟨p.toArray⟩) ∧ w'.cell? ⟨RR + 1, 2, none⟩ = some (.string ⟨J.toArray⟩) ∧ w'.cell? ⟨RR + 1, 3, none⟩ = some (.bool true) ∧ w'.cell? ⟨w.heap.size, 0, none⟩ = some (.string ⟨h.toArray⟩) ∧ w'.cell? ⟨w.heap.size, 1, none⟩ = some (.string ⟨p.toArray⟩) ∧ w'.cell? ⟨w.heap.size, 2, none⟩ = some (.string ⟨q.toArray⟩) ∧ w'.cell? ⟨w.heap.size, 3, none⟩ = some (.bool b)) (by kernel_rfl) (by exact ⟨q3, t0, t1, t2, r0, r1, r2, r3, c0, c1, c2, c3⟩) (fun hHeld => ?_)
         obtain ⟨wd, hwd⟩ : ∃ z, w8.drew = z := ⟨_, rfl⟩
         rw [hwd] at hHeld HTD ⊢
         clear hwd
         clear q3 t0 t1 t2 r0 r1 r2 r3 c0 c1 c2 c3 hzs
         obtain ⟨q3, ⟨t0, t1, t2⟩, ⟨r0, r1, r2, r3⟩, ⟨c0, c1, c2, c3⟩, hzs⟩ := HTD.out.facts
         refine Hd.tk 0 ?_
         try simp only [Act.put, List.setIfInBounds_toArray, List.set_cons_zero, List.set_cons_succ]
         refine Hd.tk 1 ?_
         try simp only [Act.put, List.setIfInBounds_toArray, List.set_cons_zero, List.set_cons_succ]
         refine Hd.tk 2 ?_
         try simp only [Act.put, List.setIfInBounds_toArray, List.set_cons_zero, List.set_cons_succ]
         refine Hd.tk 3 ?_
         try simp only [Act.put, List.setIfInBounds_toArray, List.set_cons_zero, List.set_cons_succ]
         refine Hd.tk 4 ?_
         try simp only [Act.put, List.setIfInBounds_toArray, List.set_cons_zero, List.set_cons_succ]
         refine Hd.tk 5 ?_
         try simp only [Act.put, List.setIfInBounds_toArray, List.set_cons_zero, List.set_cons_succ]
         refine Hd.tk 6 ?_
         try simp only [Act.put, List.setIfInBounds_toArray, List.set_cons_zero, List.set_cons_succ]
         refine Hd.tk 7 ?_
         try simp only [Act.put, List.setIfInBounds_toArray, List.set_cons_zero, List.set_cons_succ]
         refine Hd.tk 8 ?_
         try simp only [Act.put, List.setIfInBounds_toArray, List.set_cons_zero, List.set_cons_succ]
         refine wpAnyH_ready (rs := [9]) (by kernel_rfl) (by simp) (AllReadyH.cons (by simp only [List.getElem?_toArray, List.getElem?_cons_succ, List.getElem?_cons_zero]; rfl) (fun K hK => ?_) AllReadyH.nil)
         go_simp
         go_at_call 58
         refine (HHEX.out _).mono ?_
         rintro e u9 ⟨rfl, rfl⟩
         go_wp2_with fail
         refine hK.out _ _ (by exact ⟨q3, t0, t1, t2, r0, r1, r2, r3, c0, c1, c2, c3⟩) (fun hHf9 => ?_)
         clear hK K
         try simp only [Act.put, List.setIfInBounds_toArray, List.set_cons_zero, List.set_cons_succ]
         refine Hd.tk 10 ?_
         try simp only [Act.put, List.setIfInBounds_toArray, List.set_cons_zero, List.set_cons_succ]
         refine Hd.tk 11 ?_
         try simp only [Act.put, List.setIfInBounds_toArray, List.set_cons_zero, List.set_cons_succ]
         refine Hd.tk 12 ?_
         try simp only [Act.put, List.setIfInBounds_toArray, List.set_cons_zero, List.set_cons_succ]
         refine Hd.sk 13 ?_
         try simp only [Act.put, List.setIfInBounds_toArray, List.set_cons_zero, List.set_cons_succ]
         refine Hd.sk 14 ?_
         try simp only [Act.put, List.setIfInBounds_toArray, List.set_cons_zero, List.set_cons_succ]
         refine Hd.sk 15 ?_
         try simp only [Act.put, List.setIfInBounds_toArray, List.set_cons_zero, List.set_cons_succ]
         refine Hd.sk 16 ?_
         try simp only [Act.put, List.setIfInBounds_toArray, List.set_cons_zero, List.set_cons_succ]
         refine Hd.tk 17 ?_
         try simp only [Act.put, List.setIfInBounds_toArray, List.set_cons_zero, List.set_cons_succ]
         refine Hd.tk 18 ?_
         try simp only [Act.put, List.setIfInBounds_toArray, List.set_cons_zero, List.set_cons_succ]
         refine Hd.sk 19 ?_
         try simp only [Act.put, List.setIfInBounds_toArray, List.set_cons_zero, List.set_cons_succ]
         refine Hd.sk 20 ?_
         try simp only [Act.put, List.setIfInBounds_toArray, List.set_cons_zero, List.set_cons_succ]
         refine Hd.sk 21 ?_
         try simp only [Act.put, List.setIfInBounds_toArray, List.set_cons_zero, List.set_cons_succ]
         refine Hd.sk 22 ?_
         try simp only [Act.put, List.setIfInBounds_toArray, List.set_cons_zero, List.set_cons_succ]
         refine Hd.sk 23 ?_
         try simp only [Act.put, List.setIfInBounds_toArray, List.set_cons_zero, List.set_cons_succ]
         refine Hd.sk 24 ?_
         try simp only [Act.put, List.setIfInBounds_toArray, List.set_cons_zero, List.set_cons_succ]
         refine Hd.sk 25 ?_
         try simp only [Act.put, List.setIfInBounds_toArray, List.set_cons_zero, List.set_cons_succ]
         refine Hd.sk 26 ?_
         try simp only [Act.put, List.setIfInBounds_toArray, List.set_cons_zero, List.set_cons_succ]
         refine Hd.sk 27 ?_
         try simp only [Act.put, List.setIfInBounds_toArray, List.set_cons_zero, List.set_cons_succ]
         refine Hd.tk 28 ?_
         try simp only [Act.put, List.setIfInBounds_toArray, List.set_cons_zero, List.set_cons_succ]
         refine wpAnyH_done (by kernel_rfl) ?_ _
         obtain ⟨_, ⟨⟨e0, e1, e2, e3⟩, ⟨g0, g1, g2, g3⟩⟩, ⟨⟨d0, d1, d2⟩, ⟨k0, k1, k2⟩⟩, hz⟩ := HTD.out.rd.r3.facts
         go_wp2_with fail
         obtain ⟨⟨⟨z0, z1, z2, z3⟩, ⟨y0, y1, y2⟩⟩, hbf⟩ := HTD.out.rd.r3.done (.string ⟨#[]⟩) (.string ⟨#[]⟩) (.string ⟨#[]⟩) (.bool false) (.string ⟨#[]⟩) (.int .i64 0) (.int .i64 0)
         refine bodyPost_ret (v := .tuple #[adZ, tkZ, .string ⟨#[]⟩, errV 2]) (by simp [results, Tryz.results20, go_sem, z0, z1, z2, z3, y0, y1, y2]) rfl ⟨?_, hbf⟩
         rw [HR.out]; rfl
       | true =>
         have HHEX : Hid (∀ wz, Calls Tryz.prog 58 #[.string ⟨v3.toArray⟩] wz fun e w' => e = .returned (.bool true) ∧ wz = w') := Lib.hid (fun wz => by have h9 := hexadecimal_any v3 wz (by omega); rw [hhx] at h9; exact h9)
         have hhx9 := hhx
         clear hhx
         by_cases hck : checkS ⟨h, p, J, true⟩ ⟨v0, x, y⟩ = 0
         ·have HCHK : Hid (∀ wz, SgnAt wz → Calls Tryz.prog 46 #[.agg #[.string ⟨h.toArray⟩, .string ⟨p.toArray⟩, .string ⟨J.toArray⟩, .bool true], .agg #[.string ⟨v0.toArray⟩, .int .i64 x, .int .i64 y]] wz fun e w' => e = .returned (.nilIface) ∧ Below wz.heap.size wz w') := Lib.hid (fun wz hz => by have h9 := check_any ⟨h, p, J, true⟩ ⟨v0, x, y⟩ wz hz (by simp only; omega) (by simp only; omega) (by simp only; (first | omega | (simp; done))) (by simp only; omega); rw [show Sg.errC (checkS ⟨h, p, J, true⟩ ⟨v0, x, y⟩) = .nilIface from errC_ok hck] at h9; exact h9)
          by_cases hsg : signed ⟨h, p, J, true⟩ ⟨v0, x, y⟩ v3 = ⟨h, p, q, b⟩
          ·have HR := Lib.hid (read_ok (a := ⟨h, p, q, b⟩) (l := l) (v0 := v0) (v3 := v3) (x := x) (y := y) ⟨hhx9, by rw [hre]; exact hck, by rw [hre]; exact hsg⟩)
           rw [hre] at HR
           obtain ⟨_, _, _, m4, m5, m6, _⟩ := checkS_ok.1 hck
           simp only at m4 m5 m6
           have hbl := begun_lens ⟨h, p, J, true⟩ ⟨v0, x, y⟩ (by simp only; omega) (by simp only; omega)
           have HBG0 := fun wz hz => begun_any ⟨h, p, J, true⟩ ⟨v0, x, y⟩ wz hz (by simp only; (first | omega | (simp; done))) (by simp only; omega) (by simp only; omega) (by simp only; omega) (by simp only; omega) (by simp only; omega)
           have hsd : signed ⟨h, p, J, true⟩ ⟨v0, x, y⟩ v3 = (Ad.begun ⟨h, p, J, true⟩ ⟨v0, x, y⟩).plus (pS ++ v3) := rfl
           obtain ⟨bg, hbg⟩ : ∃ z, Ad.begun ⟨h, p, J, true⟩ ⟨v0, x, y⟩ = z := ⟨_, rfl⟩
           rw [hbg] at hbl HBG0 hsd
           obtain ⟨l1, l2, l3, l4⟩ := hbl
           simp only at l4
           have HW0 := fun wz => with_any bg (pS ++ v3) wz (by (first | omega | (simp at l4; omega))) (by simp [pS]; omega)
           rw [← hsd] at HW0
           generalize signed ⟨h, p, J, true⟩ ⟨v0, x, y⟩ v3 = sd at *
           obtain ⟨bh, bp, bq, bbo⟩ := bg
           obtain ⟨sh, sp, sq, sbo⟩ := sd
           have HBGN := Lib.hid HBG0
           have HWTH := Lib.hid HW0
           have hv3b : ¬ 9223372036854775807 < 3 + v3.length := by omega
           clear HBG0 HW0 hsd hbg l1 l2 l3 l4 m4 m5 m6
           have hab : adB sh sp sq sbo h p q b = true := by rw [adB_iff, hsg]; exact decide_eq_true rfl
           clear hsg hck hax hay hhx9 hre
           have q1 := HLP.out.vb.cell (i := 1) (v := .string ⟨v1.toArray⟩) rfl
           have hzq := HLP.out.vb.lt
           go_wp2_with fail
           refine (satoi_yes v1 x _ HA1.out (by omega)).mono ?_
           rintro e w3 ⟨rfl, hb3⟩
           have HLP3 := Lib.hid (HLP.out.older hb3)
           clear hb3 q1 hzq
           have q2 := HLP3.out.vb.cell (i := 2) (v := .string ⟨v2.toArray⟩) rfl
           have hzq := HLP3.out.vb.lt
           go_wp2_with fail
           refine (satoi_yes v2 y _ HA2.out (by omega)).mono ?_
           rintro e w4 ⟨rfl, hb4⟩
           have HLP4 := Lib.hid (HLP3.out.older hb4)
           clear hb4 q2 hzq
           have q0 := HLP4.out.vb.cell (i := 0) (v := .string ⟨v0.toArray⟩) rfl
           have hzq := HLP4.out.vb.lt
           obtain ⟨⟨c0, c1, c2, c3⟩, _, _, hz⟩ := HLP4.out.rd.r3.facts
           have hz1 : w.heap.size < w4.heap.size := by omega
           have HT := Lib.hid (rtS_new HLP4.out.rd HLP4.out.vb HLP4.out.lq x y h p)
           go_wp2_with fail
           refine (HJOIN.out _ HT.out.rd).mono ?_
           rintro e w5 ⟨rfl, hb5⟩
           have HT5 := Lib.hid (HT.out.older hb5)
           clear hb5 c0 c1 c2 c3 hz hz1 q0 hzq
           have s2 := HT5.out.sb.cell (i := 2) rfl
           have s3 := HT5.out.sb.cell (i := 3) rfl
           have hs2 := HT5.out.sb.frz 2
           have hs3 := HT5.out.sb.frz 3
           have hzs := HT5.out.sb.lt
           go_wp2_with fail
           have HT6 := Lib.hid (HT5.out.rest J)
           obtain ⟨RR, hRR⟩ : ∃ zz, w4.heap.size = zz := ⟨_, rfl⟩
           rw [hRR] at HT6 ⊢
           obtain ⟨w8, hw8⟩ : ∃ wz, (w5.setCell ⟨RR + 1, 3, none⟩ (.bool true)).setCell ⟨RR + 1, 2, none⟩ (.string ⟨J.toArray⟩) = wz := ⟨_, rfl⟩
           rw [hw8] at HT6 ⊢
           clear hw8 s2 s3 hs2 hs3 hzs
           have HT8 := HT6
           obtain ⟨q3, ⟨t0, t1, t2⟩, ⟨r0, r1, r2, r3⟩, ⟨c0, c1, c2, c3⟩, hzs⟩ := HT8.out.facts
           have HTD := Lib.hid (HT8.out.older ((Below.refl _ _).drew))
           refine wp_region_held_drew (S := fun w' => w'.cell? ⟨w1.heap.size, 3, none⟩ = some (.string ⟨v3.toArray⟩) ∧ w'.cell? ⟨RR, 0, none⟩ = some (.string ⟨v0.toArray⟩) ∧ w'.cell? ⟨RR, 1, none⟩ = some (.int .i64 x) ∧ w'.cell? ⟨RR, 2, none⟩ = some (.int .i64 y) ∧ w'.cell? ⟨RR + 1, 0, none⟩ = some (.string ⟨h.toArray⟩) ∧ w'.cell? ⟨RR + 1, 1, none⟩ = some (.string ⟨p.toArray⟩) ∧ w'.cell? ⟨RR + 1, 2, none⟩ = some (.string ⟨J.toArray⟩) ∧ w'.cell? ⟨RR + 1, 3, none⟩ = some (.bool true) ∧ w'.cell? ⟨w.heap.size, 0, none⟩ = some (.string ⟨h.toArray⟩) ∧ w'.cell? ⟨w.heap.size, 1, none⟩ = some (.string ⟨p.toArray⟩) ∧ w'.cell? ⟨w.heap.size, 2, none⟩ = some (.string ⟨q.toArray⟩) ∧ w'.cell? ⟨w.heap.size, 3, none⟩ = some (.bool b)) (by kernel_rfl) (by exact ⟨q3, t0, t1, t2, r0, r1, r2, r3, c0, c1, c2, c3⟩) (fun hHeld => ?_)
           obtain ⟨wd, hwd⟩ : ∃ z, w8.drew = z := ⟨_, rfl⟩
           rw [hwd] at hHeld HTD ⊢
           clear hwd
           clear q3 t0 t1 t2 r0 r1 r2 r3 c0 c1 c2 c3 hzs
           obtain ⟨q3, ⟨t0, t1, t2⟩, ⟨r0, r1, r2, r3⟩, ⟨c0, c1, c2, c3⟩, hzs⟩ := HTD.out.facts
           refine Hd.tk 0 ?_
           try simp only [Act.put, List.setIfInBounds_toArray, List.set_cons_zero, List.set_cons_succ]
           refine Hd.tk 1 ?_
           try simp only [Act.put, List.setIfInBounds_toArray, List.set_cons_zero, List.set_cons_succ]
           refine Hd.tk 2 ?_
           try simp only [Act.put, List.setIfInBounds_toArray, List.set_cons_zero, List.set_cons_succ]
           refine Hd.tk 3 ?_
           try simp only [Act.put, List.setIfInBounds_toArray, List.set_cons_zero, List.set_cons_succ]
           refine Hd.tk 4 ?_
           try simp only [Act.put, List.setIfInBounds_toArray, List.set_cons_zero, List.set_cons_succ]
           refine Hd.tk 5 ?_
           try simp only [Act.put, List.setIfInBounds_toArray, List.set_cons_zero, List.set_cons_succ]
           refine Hd.tk 6 ?_
           try simp only [Act.put, List.setIfInBounds_toArray, List.set_cons_zero, List.set_cons_succ]
           refine Hd.tk 7 ?_
           try simp only [Act.put, List.setIfInBounds_toArray, List.set_cons_zero, List.set_cons_succ]
           refine Hd.tk 8 ?_
           try simp only [Act.put, List.setIfInBounds_toArray, List.set_cons_zero, List.set_cons_succ]
           refine wpAnyH_ready (rs := [9]) (by kernel_rfl) (by simp) (AllReadyH.cons (by simp only [List.getElem?_toArray, List.getElem?_cons_succ, List.getElem?_cons_zero]; rfl) (fun K hK => ?_) AllReadyH.nil)
           go_simp
           go_at_call 58
           refine (HHEX.out _).mono ?_
           rintro e u9 ⟨rfl, rfl⟩
           go_wp2_with fail
           refine hK.out _ _ (by exact ⟨q3, t0, t1, t2, r0, r1, r2, r3, c0, c1, c2, c3⟩) (fun hHf9 => ?_)
           clear hK K
           try simp only [Act.put, List.setIfInBounds_toArray, List.set_cons_zero, List.set_cons_succ]
           refine Hd.tk 10 ?_
           try simp only [Act.put, List.setIfInBounds_toArray, List.set_cons_zero, List.set_cons_succ]
           refine Hd.tk 11 ?_
           try simp only [Act.put, List.setIfInBounds_toArray, List.set_cons_zero, List.set_cons_succ]
           refine Hd.tk 12 ?_
           try simp only [Act.put, List.setIfInBounds_toArray, List.set_cons_zero, List.set_cons_succ]
           refine Hd.tk 13 ?_
           try simp only [Act.put, List.setIfInBounds_toArray, List.set_cons_zero, List.set_cons_succ]
           refine Hd.tk 14 ?_
           try simp only [Act.put, List.setIfInBounds_toArray, List.set_cons_zero, List.set_cons_succ]
           refine wpAnyH_ready (rs := [15]) (by kernel_rfl) (by simp) (AllReadyH.cons (by simp only [List.getElem?_toArray, List.getElem?_cons_succ, List.getElem?_cons_zero]; rfl) (fun K hK => ?_) AllReadyH.nil)
           go_simp
           go_at_call 46
           refine (HCHK.out _ (HG.out.below HTD.out.rd.r3.bel)).mono ?_
           rintro e u15 ⟨rfl, hu15⟩
           have HTE := Lib.hid (HTD.out.older hu15)
           clear q3 t0 t1 t2 r0 r1 r2 r3 c0 c1 c2 c3 hzs
           obtain ⟨q3, ⟨t0, t1, t2⟩, ⟨r0, r1, r2, r3⟩, ⟨c0, c1, c2, c3⟩, hzs⟩ := HTE.out.facts
           clear hu15
           go_wp2_with fail
           refine hK.out _ _ (by exact ⟨q3, t0, t1, t2, r0, r1, r2, r3, c0, c1, c2, c3⟩) (fun hHf15 => ?_)
           clear hK K
           try simp only [Act.put, List.setIfInBounds_toArray, List.set_cons_zero, List.set_cons_succ]
           refine Hd.tk 16 ?_
           try simp only [Act.put, List.setIfInBounds_toArray, List.set_cons_zero, List.set_cons_succ]
           refine Hd.tk 17 ?_
           try simp only [Act.put, List.setIfInBounds_toArray, List.set_cons_zero, List.set_cons_succ]
           refine Hd.tk 18 ?_
           try simp only [Act.put, List.setIfInBounds_toArray, List.set_cons_zero, List.set_cons_succ]
           refine Hd.tk 19 ?_
           try simp only [Act.put, List.setIfInBounds_toArray, List.set_cons_zero, List.set_cons_succ]
           refine Hd.tk 20 ?_
           try simp only [Act.put, List.setIfInBounds_toArray, List.set_cons_zero, List.set_cons_succ]
           refine Hd.tk 22 ?_
           try simp only [Act.put, List.setIfInBounds_toArray, List.set_cons_zero, List.set_cons_succ]
           refine Hd.tk 23 ?_
           try simp only [Act.put, List.setIfInBounds_toArray, List.set_cons_zero, List.set_cons_succ]
           refine Hd.tk 24 ?_
           try simp only [Act.put, List.setIfInBounds_toArray, List.set_cons_zero, List.set_cons_succ]
           refine Hd.tk 26 ?_
           try simp only [Act.put, List.setIfInBounds_toArray, List.set_cons_zero, List.set_cons_succ]
           refine wpAnyH_ready (rs := [21]) (by kernel_rfl) (by simp) (AllReadyH.cons (by simp only [List.getElem?_toArray, List.getElem?_cons_succ, List.getElem?_cons_zero]; rfl) (fun K hK => ?_) AllReadyH.nil)
           go_simp
           go_at_call 47
           refine (HBGN.out _ (HG.out.below HTE.out.rd.r3.bel)).mono ?_
           rintro e u21 ⟨rfl, hu21⟩
           have HTF := Lib.hid (HTE.out.older hu21)
           clear q3 t0 t1 t2 r0 r1 r2 r3 c0 c1 c2 c3 hzs
           obtain ⟨q3, ⟨t0, t1, t2⟩, ⟨r0, r1, r2, r3⟩, ⟨c0, c1, c2, c3⟩, hzs⟩ := HTF.out.facts
           clear hu21
           go_wp2_with fail
           refine hK.out _ _ (by exact ⟨q3, t0, t1, t2, r0, r1, r2, r3, c0, c1, c2, c3⟩) (fun hHf21 => ?_)
           clear hK K
           try simp only [Act.put, List.setIfInBounds_toArray, List.set_cons_zero, List.set_cons_succ]
           refine wpAnyH_ready (rs := [25]) (by kernel_rfl) (by simp) (AllReadyH.cons (by simp only [List.getElem?_toArray, List.getElem?_cons_succ, List.getElem?_cons_zero]; rfl) (fun K hK => ?_) AllReadyH.nil)
           go_simp
           go_at_call 49
           refine (HWTH.out _).mono ?_
           rintro e u25 ⟨rfl, hu25⟩
           have HTG := Lib.hid (HTF.out.older hu25)
           clear q3 t0 t1 t2 r0 r1 r2 r3 c0 c1 c2 c3 hzs
           obtain ⟨q3, ⟨t0, t1, t2⟩, ⟨r0, r1, r2, r3⟩, ⟨c0, c1, c2, c3⟩, hzs⟩ := HTG.out.facts
           clear hu25
           go_wp2_with fail
           refine hK.out _ _ (by exact ⟨q3, t0, t1, t2, r0, r1, r2, r3, c0, c1, c2, c3⟩) (fun hHf25 => ?_)
           clear hK K
           try simp only [Act.put, List.setIfInBounds_toArray, List.set_cons_zero, List.set_cons_succ]
           refine Hd.tk 27 ?_
           try simp only [Act.put, List.setIfInBounds_toArray, List.set_cons_zero, List.set_cons_succ]
           refine Hd.tk 28 ?_
           try simp only [Act.put, List.setIfInBounds_toArray, List.set_cons_zero, List.set_cons_succ]
           refine wpAnyH_done (by kernel_rfl) ?_ _
           have HTH := Lib.hid (HTG.out.older ((Below.refl _ _).drew))
           go_wp2_with fail
           refine wp_region_held_drew (S := fun w' => w'.cell? ⟨w1.heap.size, 3, none⟩ = some (.string ⟨v3.toArray⟩) ∧ w'.cell? ⟨RR, 0, none⟩ = some (.string ⟨v0.toArray⟩) ∧ w'.cell? ⟨RR, 1, none⟩ = some (.int .i64 x) ∧ w'.cell? ⟨RR, 2, none⟩ = some (.int .i64 y) ∧ w'.cell? ⟨RR + 1, 0, none⟩ = some (.string ⟨h.toArray⟩) ∧ w'.cell? ⟨RR + 1, 1, none⟩ = some (.string ⟨p.toArray⟩) ∧ w'.cell? ⟨RR + 1, 2, none⟩ = some (.string ⟨J.toArray⟩) ∧ w'.cell? ⟨RR + 1, 3, none⟩ = some (.bool true)) (by kernel_rfl) (by exact ⟨q3, t0, t1, t2, r0, r1, r2, r3⟩) (fun hHeld => ?_)
           obtain ⟨we, hwe⟩ : ∃ z, u25.drew = z := ⟨_, rfl⟩
           rw [hwe] at hHeld HTH ⊢
           clear hwe
           clear q3 t0 t1 t2 r0 r1 r2 r3 c0 c1 c2 c3 hzs
           obtain ⟨q3, ⟨t0, t1, t2⟩, ⟨r0, r1, r2, r3⟩, ⟨c0, c1, c2, c3⟩, hzs⟩ := HTH.out.facts
           obtain ⟨_, ⟨⟨e0, e1, e2, e3⟩, ⟨g0, g1, g2, g3⟩⟩, ⟨⟨d0, d1, d2⟩, ⟨k0, k1, k2⟩⟩, hz⟩ := HTH.out.rd.r3.facts
           refine Hd.tk 0 ?_
           try simp only [Act.put, List.setIfInBounds_toArray, List.set_cons_zero, List.set_cons_succ]
           refine Hd.tk 1 ?_
           try simp only [Act.put, List.setIfInBounds_toArray, List.set_cons_zero, List.set_cons_succ]
           refine Hd.tk 2 ?_
           try simp only [Act.put, List.setIfInBounds_toArray, List.set_cons_zero, List.set_cons_succ]
           refine Hd.tk 3 ?_
           try simp only [Act.put, List.setIfInBounds_toArray, List.set_cons_zero, List.set_cons_succ]
           refine wpAnyH_ready (rs := [4]) (by kernel_rfl) (by simp) (AllReadyH.cons (by simp only [List.getElem?_toArray, List.getElem?_cons_succ, List.getElem?_cons_zero]; rfl) (fun K hK => ?_) AllReadyH.nil)
           go_simp
           refine hK.out _ _ (by exact HTH.out.keep (touch4 (Touch.refl _ _) (.string ⟨h.toArray⟩) (.string ⟨p.toArray⟩) (.string ⟨J.toArray⟩) (.bool true))) (fun hHs1 => ?_)
           clear hK K
           try simp only [Act.put, List.setIfInBounds_toArray, List.set_cons_zero, List.set_cons_succ]
           refine wpAnyH_ready (rs := [5]) (by kernel_rfl) (by simp) (AllReadyH.cons (by simp only [List.getElem?_toArray, List.getElem?_cons_succ, List.getElem?_cons_zero]; rfl) (fun K hK => ?_) AllReadyH.nil)
           go_simp
           refine hK.out _ _ (by exact HTH.out.keep (touch3 (touch4 (Touch.refl _ _) (.string ⟨h.toArray⟩) (.string ⟨p.toArray⟩) (.string ⟨J.toArray⟩) (.bool true)) (.string ⟨v0.toArray⟩) (.int .i64 x) (.int .i64 y))) (fun hHs2 => ?_)
           clear hK K
           try simp only [Act.put, List.setIfInBounds_toArray, List.set_cons_zero, List.set_cons_succ]
           refine Hd.tk 6 ?_
           try simp only [Act.put, List.setIfInBounds_toArray, List.set_cons_zero, List.set_cons_succ]
           refine Hd.tk 7 ?_
           try simp only [Act.put, List.setIfInBounds_toArray, List.set_cons_zero, List.set_cons_succ]
           refine wpAnyH_done (by kernel_rfl) ?_ _
           go_wp2_with fail
           obtain ⟨⟨⟨z0, z1, z2, z3⟩, ⟨y0, y1, y2⟩⟩, hbf⟩ := HTH.out.rd.r3.done (.string ⟨h.toArray⟩) (.string ⟨p.toArray⟩) (.string ⟨J.toArray⟩) (.bool true) (.string ⟨v0.toArray⟩) (.int .i64 x) (.int .i64 y)
           refine bodyPost_ret (v := rdV (some ⟨⟨h, p, J, true⟩, ⟨v0, x, y⟩, v3⟩)) (by simp [results, Tryz.results20, go_sem, rdV, z0, z1, z2, z3, y0, y1, y2]) rfl ⟨?_, hbf⟩
           rw [HR.out]
          ·have HR := Lib.hid (read_bad HP.out hax hay (fun hk => by have h9 := hk.2.2; rw [hre] at h9; exact hsg h9))
           obtain ⟨_, _, _, m4, m5, m6, _⟩ := checkS_ok.1 hck
           simp only at m4 m5 m6
           have hbl := begun_lens ⟨h, p, J, true⟩ ⟨v0, x, y⟩ (by simp only; omega) (by simp only; omega)
           have HBG0 := fun wz hz => begun_any ⟨h, p, J, true⟩ ⟨v0, x, y⟩ wz hz (by simp only; (first | omega | (simp; done))) (by simp only; omega) (by simp only; omega) (by simp only; omega) (by simp only; omega) (by simp only; omega)
           have hsd : signed ⟨h, p, J, true⟩ ⟨v0, x, y⟩ v3 = (Ad.begun ⟨h, p, J, true⟩ ⟨v0, x, y⟩).plus (pS ++ v3) := rfl
           obtain ⟨bg, hbg⟩ : ∃ z, Ad.begun ⟨h, p, J, true⟩ ⟨v0, x, y⟩ = z := ⟨_, rfl⟩
           rw [hbg] at hbl HBG0 hsd
           obtain ⟨l1, l2, l3, l4⟩ := hbl
           simp only at l4
           have HW0 := fun wz => with_any bg (pS ++ v3) wz (by (first | omega | (simp at l4; omega))) (by simp [pS]; omega)
           rw [← hsd] at HW0
           generalize signed ⟨h, p, J, true⟩ ⟨v0, x, y⟩ v3 = sd at *
           obtain ⟨bh, bp, bq, bbo⟩ := bg
           obtain ⟨sh, sp, sq, sbo⟩ := sd
           have HBGN := Lib.hid HBG0
           have HWTH := Lib.hid HW0
           have hv3b : ¬ 9223372036854775807 < 3 + v3.length := by omega
           clear HBG0 HW0 hsd hbg l1 l2 l3 l4 m4 m5 m6
           have hab : adB sh sp sq sbo h p q b = false := by rw [adB_iff]; exact decide_eq_false hsg
           clear hsg hck hax hay hhx9 hre
           have q1 := HLP.out.vb.cell (i := 1) (v := .string ⟨v1.toArray⟩) rfl
           have hzq := HLP.out.vb.lt
           go_wp2_with fail
           refine (satoi_yes v1 x _ HA1.out (by omega)).mono ?_
           rintro e w3 ⟨rfl, hb3⟩
           have HLP3 := Lib.hid (HLP.out.older hb3)
           clear hb3 q1 hzq
           have q2 := HLP3.out.vb.cell (i := 2) (v := .string ⟨v2.toArray⟩) rfl
           have hzq := HLP3.out.vb.lt
           go_wp2_with fail
           refine (satoi_yes v2 y _ HA2.out (by omega)).mono ?_
           rintro e w4 ⟨rfl, hb4⟩
           have HLP4 := Lib.hid (HLP3.out.older hb4)
           clear hb4 q2 hzq
           have q0 := HLP4.out.vb.cell (i := 0) (v := .string ⟨v0.toArray⟩) rfl
           have hzq := HLP4.out.vb.lt
           obtain ⟨⟨c0, c1, c2, c3⟩, _, _, hz⟩ := HLP4.out.rd.r3.facts
           have hz1 : w.heap.size < w4.heap.size := by omega
           have HT := Lib.hid (rtS_new HLP4.out.rd HLP4.out.vb HLP4.out.lq x y h p)
           go_wp2_with fail
           refine (HJOIN.out _ HT.out.rd).mono ?_
           rintro e w5 ⟨rfl, hb5⟩
           have HT5 := Lib.hid (HT.out.older hb5)
           clear hb5 c0 c1 c2 c3 hz hz1 q0 hzq
           have s2 := HT5.out.sb.cell (i := 2) rfl
           have s3 := HT5.out.sb.cell (i := 3) rfl
           have hs2 := HT5.out.sb.frz 2
           have hs3 := HT5.out.sb.frz 3
           have hzs := HT5.out.sb.lt
           go_wp2_with fail
           have HT6 := Lib.hid (HT5.out.rest J)
           obtain ⟨RR, hRR⟩ : ∃ zz, w4.heap.size = zz := ⟨_, rfl⟩
           rw [hRR] at HT6 ⊢
           obtain ⟨w8, hw8⟩ : ∃ wz, (w5.setCell ⟨RR + 1, 3, none⟩ (.bool true)).setCell ⟨RR + 1, 2, none⟩ (.string ⟨J.toArray⟩) = wz := ⟨_, rfl⟩
           rw [hw8] at HT6 ⊢
           clear hw8 s2 s3 hs2 hs3 hzs
           have HT8 := HT6
           obtain ⟨q3, ⟨t0, t1, t2⟩, ⟨r0, r1, r2, r3⟩, ⟨c0, c1, c2, c3⟩, hzs⟩ := HT8.out.facts
           have HTD := Lib.hid (HT8.out.older ((Below.refl _ _).drew))
           refine wp_region_held_drew (S := fun w' => w'.cell? ⟨w1.heap.size, 3, none⟩ = some (.string ⟨v3.toArray⟩) ∧ w'.cell? ⟨RR, 0, none⟩ = some (.string ⟨v0.toArray⟩) ∧ w'.cell? ⟨RR, 1, none⟩ = some (.int .i64 x) ∧ w'.cell? ⟨RR, 2, none⟩ = some (.int .i64 y) ∧ w'.cell? ⟨RR + 1, 0, none⟩ = some (.string ⟨h.toArray⟩) ∧ w'.cell? ⟨RR + 1, 1, none⟩ = some (.string ⟨p.toArray⟩) ∧ w'.cell? ⟨RR + 1, 2, none⟩ = some (.string ⟨J.toArray⟩) ∧ w'.cell? ⟨RR + 1, 3, none⟩ = some (.bool true) ∧ w'.cell? ⟨w.heap.size, 0, none⟩ = some (.string ⟨h.toArray⟩) ∧ w'.cell? ⟨w.heap.size, 1, none⟩ = some (.string ⟨p.toArray⟩) ∧ w'.cell? ⟨w.heap.size, 2, none⟩ = some (.string ⟨q.toArray⟩) ∧ w'.cell? ⟨w.heap.size, 3, none⟩ = some (.bool b)) (by kernel_rfl) (by exact ⟨q3, t0, t1, t2, r0, r1, r2, r3, c0, c1, c2, c3⟩) (fun hHeld => ?_)
           obtain ⟨wd, hwd⟩ : ∃ z, w8.drew = z := ⟨_, rfl⟩
           rw [hwd] at hHeld HTD ⊢
           clear hwd
           clear q3 t0 t1 t2 r0 r1 r2 r3 c0 c1 c2 c3 hzs
           obtain ⟨q3, ⟨t0, t1, t2⟩, ⟨r0, r1, r2, r3⟩, ⟨c0, c1, c2, c3⟩, hzs⟩ := HTD.out.facts
           refine Hd.tk 0 ?_
           try simp only [Act.put, List.setIfInBounds_toArray, List.set_cons_zero, List.set_cons_succ]
           refine Hd.tk 1 ?_
           try simp only [Act.put, List.setIfInBounds_toArray, List.set_cons_zero, List.set_cons_succ]
           refine Hd.tk 2 ?_
           try simp only [Act.put, List.setIfInBounds_toArray, List.set_cons_zero, List.set_cons_succ]
           refine Hd.tk 3 ?_
           try simp only [Act.put, List.setIfInBounds_toArray, List.set_cons_zero, List.set_cons_succ]
           refine Hd.tk 4 ?_
           try simp only [Act.put, List.setIfInBounds_toArray, List.set_cons_zero, List.set_cons_succ]
           refine Hd.tk 5 ?_
           try simp only [Act.put, List.setIfInBounds_toArray, List.set_cons_zero, List.set_cons_succ]
           refine Hd.tk 6 ?_
           try simp only [Act.put, List.setIfInBounds_toArray, List.set_cons_zero, List.set_cons_succ]
           refine Hd.tk 7 ?_
           try simp only [Act.put, List.setIfInBounds_toArray, List.set_cons_zero, List.set_cons_succ]
           refine Hd.tk 8 ?_
           try simp only [Act.put, List.setIfInBounds_toArray, List.set_cons_zero, List.set_cons_succ]
           refine wpAnyH_ready (rs := [9]) (by kernel_rfl) (by simp) (AllReadyH.cons (by simp only [List.getElem?_toArray, List.getElem?_cons_succ, List.getElem?_cons_zero]; rfl) (fun K hK => ?_) AllReadyH.nil)
           go_simp
           go_at_call 58
           refine (HHEX.out _).mono ?_
           rintro e u9 ⟨rfl, rfl⟩
           go_wp2_with fail
           refine hK.out _ _ (by exact ⟨q3, t0, t1, t2, r0, r1, r2, r3, c0, c1, c2, c3⟩) (fun hHf9 => ?_)
           clear hK K
           try simp only [Act.put, List.setIfInBounds_toArray, List.set_cons_zero, List.set_cons_succ]
           refine Hd.tk 10 ?_
           try simp only [Act.put, List.setIfInBounds_toArray, List.set_cons_zero, List.set_cons_succ]
           refine Hd.tk 11 ?_
           try simp only [Act.put, List.setIfInBounds_toArray, List.set_cons_zero, List.set_cons_succ]
           refine Hd.tk 12 ?_
           try simp only [Act.put, List.setIfInBounds_toArray, List.set_cons_zero, List.set_cons_succ]
           refine Hd.tk 13 ?_
           try simp only [Act.put, List.setIfInBounds_toArray, List.set_cons_zero, List.set_cons_succ]
           refine Hd.tk 14 ?_
           try simp only [Act.put, List.setIfInBounds_toArray, List.set_cons_zero, List.set_cons_succ]
           refine wpAnyH_ready (rs := [15]) (by kernel_rfl) (by simp) (AllReadyH.cons (by simp only [List.getElem?_toArray, List.getElem?_cons_succ, List.getElem?_cons_zero]; rfl) (fun K hK => ?_) AllReadyH.nil)
           go_simp
           go_at_call 46
           refine (HCHK.out _ (HG.out.below HTD.out.rd.r3.bel)).mono ?_
           rintro e u15 ⟨rfl, hu15⟩
           have HTE := Lib.hid (HTD.out.older hu15)
           clear q3 t0 t1 t2 r0 r1 r2 r3 c0 c1 c2 c3 hzs
           obtain ⟨q3, ⟨t0, t1, t2⟩, ⟨r0, r1, r2, r3⟩, ⟨c0, c1, c2, c3⟩, hzs⟩ := HTE.out.facts
           clear hu15
           go_wp2_with fail
           refine hK.out _ _ (by exact ⟨q3, t0, t1, t2, r0, r1, r2, r3, c0, c1, c2, c3⟩) (fun hHf15 => ?_)
           clear hK K
           try simp only [Act.put, List.setIfInBounds_toArray, List.set_cons_zero, List.set_cons_succ]
           refine Hd.tk 16 ?_
           try simp only [Act.put, List.setIfInBounds_toArray, List.set_cons_zero, List.set_cons_succ]
           refine Hd.tk 17 ?_
           try simp only [Act.put, List.setIfInBounds_toArray, List.set_cons_zero, List.set_cons_succ]
           refine Hd.tk 18 ?_
           try simp only [Act.put, List.setIfInBounds_toArray, List.set_cons_zero, List.set_cons_succ]
           refine Hd.tk 19 ?_
           try simp only [Act.put, List.setIfInBounds_toArray, List.set_cons_zero, List.set_cons_succ]
           refine Hd.tk 20 ?_
           try simp only [Act.put, List.setIfInBounds_toArray, List.set_cons_zero, List.set_cons_succ]
           refine Hd.tk 22 ?_
           try simp only [Act.put, List.setIfInBounds_toArray, List.set_cons_zero, List.set_cons_succ]
           refine Hd.tk 23 ?_
           try simp only [Act.put, List.setIfInBounds_toArray, List.set_cons_zero, List.set_cons_succ]
           refine Hd.tk 24 ?_
           try simp only [Act.put, List.setIfInBounds_toArray, List.set_cons_zero, List.set_cons_succ]
           refine Hd.tk 26 ?_
           try simp only [Act.put, List.setIfInBounds_toArray, List.set_cons_zero, List.set_cons_succ]
           refine wpAnyH_ready (rs := [21]) (by kernel_rfl) (by simp) (AllReadyH.cons (by simp only [List.getElem?_toArray, List.getElem?_cons_succ, List.getElem?_cons_zero]; rfl) (fun K hK => ?_) AllReadyH.nil)
           go_simp
           go_at_call 47
           refine (HBGN.out _ (HG.out.below HTE.out.rd.r3.bel)).mono ?_
           rintro e u21 ⟨rfl, hu21⟩
           have HTF := Lib.hid (HTE.out.older hu21)
           clear q3 t0 t1 t2 r0 r1 r2 r3 c0 c1 c2 c3 hzs
           obtain ⟨q3, ⟨t0, t1, t2⟩, ⟨r0, r1, r2, r3⟩, ⟨c0, c1, c2, c3⟩, hzs⟩ := HTF.out.facts
           clear hu21
           go_wp2_with fail
           refine hK.out _ _ (by exact ⟨q3, t0, t1, t2, r0, r1, r2, r3, c0, c1, c2, c3⟩) (fun hHf21 => ?_)
           clear hK K
           try simp only [Act.put, List.setIfInBounds_toArray, List.set_cons_zero, List.set_cons_succ]
           refine wpAnyH_ready (rs := [25]) (by kernel_rfl) (by simp) (AllReadyH.cons (by simp only [List.getElem?_toArray, List.getElem?_cons_succ, List.getElem?_cons_zero]; rfl) (fun K hK => ?_) AllReadyH.nil)
           go_simp
           go_at_call 49
           refine (HWTH.out _).mono ?_
           rintro e u25 ⟨rfl, hu25⟩
           have HTG := Lib.hid (HTF.out.older hu25)
           clear q3 t0 t1 t2 r0 r1 r2 r3 c0 c1 c2 c3 hzs
           obtain ⟨q3, ⟨t0, t1, t2⟩, ⟨r0, r1, r2, r3⟩, ⟨c0, c1, c2, c3⟩, hzs⟩ := HTG.out.facts
           clear hu25
           go_wp2_with fail
           refine hK.out _ _ (by exact ⟨q3, t0, t1, t2, r0, r1, r2, r3, c0, c1, c2, c3⟩) (fun hHf25 => ?_)
           clear hK K
           try simp only [Act.put, List.setIfInBounds_toArray, List.set_cons_zero, List.set_cons_succ]
           refine Hd.tk 27 ?_
           try simp only [Act.put, List.setIfInBounds_toArray, List.set_cons_zero, List.set_cons_succ]
           refine Hd.tk 28 ?_
           try simp only [Act.put, List.setIfInBounds_toArray, List.set_cons_zero, List.set_cons_succ]
           refine wpAnyH_done (by kernel_rfl) ?_ _
           obtain ⟨_, ⟨⟨e0, e1, e2, e3⟩, ⟨g0, g1, g2, g3⟩⟩, ⟨⟨d0, d1, d2⟩, ⟨k0, k1, k2⟩⟩, hz⟩ := HTG.out.rd.r3.facts
           go_wp2_with fail
           obtain ⟨⟨⟨z0, z1, z2, z3⟩, ⟨y0, y1, y2⟩⟩, hbf⟩ := HTG.out.rd.r3.done (.string ⟨#[]⟩) (.string ⟨#[]⟩) (.string ⟨#[]⟩) (.bool false) (.string ⟨#[]⟩) (.int .i64 0) (.int .i64 0)
           refine bodyPost_ret (v := .tuple #[adZ, tkZ, .string ⟨#[]⟩, errV 2]) (by simp [results, Tryz.results20, go_sem, z0, z1, z2, z3, y0, y1, y2]) rfl ⟨?_, hbf⟩
           rw [HR.out]; rfl
         ·have HR := Lib.hid (read_bad HP.out hax hay (fun hk => by have h9 := hk.2.1; rw [hre] at h9; exact hck h9))
          obtain ⟨n, hn⟩ : ∃ z, checkS ⟨h, p, J, true⟩ ⟨v0, x, y⟩ = z := ⟨_, rfl⟩
          rw [hn] at hck
          have HCHK : Hid (∀ wz, SgnAt wz → Calls Tryz.prog 46 #[.agg #[.string ⟨h.toArray⟩, .string ⟨p.toArray⟩, .string ⟨J.toArray⟩, .bool true], .agg #[.string ⟨v0.toArray⟩, .int .i64 x, .int .i64 y]] wz fun e w' => e = .returned (errV n) ∧ Below wz.heap.size wz w') := Lib.hid (fun wz hz => by have h9 := check_any ⟨h, p, J, true⟩ ⟨v0, x, y⟩ wz hz (by simp only; omega) (by simp only; omega) (by simp only; (first | omega | (simp; done))) (by simp only; omega); rw [show Sg.errC (checkS ⟨h, p, J, true⟩ ⟨v0, x, y⟩) = errV n from errC_of hn hck] at h9; exact h9)
          clear hn hck hax hay hhx9 hre
          have q1 := HLP.out.vb.cell (i := 1) (v := .string ⟨v1.toArray⟩) rfl
          have hzq := HLP.out.vb.lt
          go_wp2_with fail
          refine (satoi_yes v1 x _ HA1.out (by omega)).mono ?_
          rintro e w3 ⟨rfl, hb3⟩
          have HLP3 := Lib.hid (HLP.out.older hb3)
          clear hb3 q1 hzq
          have q2 := HLP3.out.vb.cell (i := 2) (v := .string ⟨v2.toArray⟩) rfl
          have hzq := HLP3.out.vb.lt
          go_wp2_with fail
          refine (satoi_yes v2 y _ HA2.out (by omega)).mono ?_
          rintro e w4 ⟨rfl, hb4⟩
          have HLP4 := Lib.hid (HLP3.out.older hb4)
          clear hb4 q2 hzq
          have q0 := HLP4.out.vb.cell (i := 0) (v := .string ⟨v0.toArray⟩) rfl
          have hzq := HLP4.out.vb.lt
          obtain ⟨⟨c0, c1, c2, c3⟩, _, _, hz⟩ := HLP4.out.rd.r3.facts
          have hz1 : w.heap.size < w4.heap.size := by omega
          have HT := Lib.hid (rtS_new HLP4.out.rd HLP4.out.vb HLP4.out.lq x y h p)
          go_wp2_with fail
          refine (HJOIN.out _ HT.out.rd).mono ?_
          rintro e w5 ⟨rfl, hb5⟩
          have HT5 := Lib.hid (HT.out.older hb5)
          clear hb5 c0 c1 c2 c3 hz hz1 q0 hzq
          have s2 := HT5.out.sb.cell (i := 2) rfl
          have s3 := HT5.out.sb.cell (i := 3) rfl
          have hs2 := HT5.out.sb.frz 2
          have hs3 := HT5.out.sb.frz 3
          have hzs := HT5.out.sb.lt
          go_wp2_with fail
          have HT6 := Lib.hid (HT5.out.rest J)
          obtain ⟨RR, hRR⟩ : ∃ zz, w4.heap.size = zz := ⟨_, rfl⟩
          rw [hRR] at HT6 ⊢
          obtain ⟨w8, hw8⟩ : ∃ wz, (w5.setCell ⟨RR + 1, 3, none⟩ (.bool true)).setCell ⟨RR + 1, 2, none⟩ (.string ⟨J.toArray⟩) = wz := ⟨_, rfl⟩
          rw [hw8] at HT6 ⊢
          clear hw8 s2 s3 hs2 hs3 hzs
          have HT8 := HT6
          obtain ⟨q3, ⟨t0, t1, t2⟩, ⟨r0, r1, r2, r3⟩, ⟨c0, c1, c2, c3⟩, hzs⟩ := HT8.out.facts
          have HTD := Lib.hid (HT8.out.older ((Below.refl _ _).drew))
          refine wp_region_held_drew (S := fun w' => w'.cell? ⟨w1.heap.size, 3, none⟩ = some (.string ⟨v3.toArray⟩) ∧ w'.cell? ⟨RR, 0, none⟩ = some (.string ⟨v0.toArray⟩) ∧ w'.cell? ⟨RR, 1, none⟩ = some (.int .i64 x) ∧ w'.cell? ⟨RR, 2, none⟩ = some (.int .i64 y) ∧ w'.cell? ⟨RR + 1, 0, none⟩ = some (.string ⟨h.toArray⟩) ∧ w'.cell? ⟨RR + 1, 1, none⟩ = some (.string ⟨p.toArray⟩) ∧ w'.cell? ⟨RR + 1, 2, none⟩ = some (.string ⟨J.toArray⟩) ∧ w'.cell? ⟨RR + 1, 3, none⟩ = some (.bool true) ∧ w'.cell? ⟨w.heap.size, 0, none⟩ = some (.string ⟨h.toArray⟩) ∧ w'.cell? ⟨w.heap.size, 1, none⟩ = some (.string ⟨p.toArray⟩) ∧ w'.cell? ⟨w.heap.size, 2, none⟩ = some (.string ⟨q.toArray⟩) ∧ w'.cell? ⟨w.heap.size, 3, none⟩ = some (.bool b)) (by kernel_rfl) (by exact ⟨q3, t0, t1, t2, r0, r1, r2, r3, c0, c1, c2, c3⟩) (fun hHeld => ?_)
          obtain ⟨wd, hwd⟩ : ∃ z, w8.drew = z := ⟨_, rfl⟩
          rw [hwd] at hHeld HTD ⊢
          clear hwd
          clear q3 t0 t1 t2 r0 r1 r2 r3 c0 c1 c2 c3 hzs
          obtain ⟨q3, ⟨t0, t1, t2⟩, ⟨r0, r1, r2, r3⟩, ⟨c0, c1, c2, c3⟩, hzs⟩ := HTD.out.facts
          refine Hd.tk 0 ?_
          try simp only [Act.put, List.setIfInBounds_toArray, List.set_cons_zero, List.set_cons_succ]
          refine Hd.tk 1 ?_
          try simp only [Act.put, List.setIfInBounds_toArray, List.set_cons_zero, List.set_cons_succ]
          refine Hd.tk 2 ?_
          try simp only [Act.put, List.setIfInBounds_toArray, List.set_cons_zero, List.set_cons_succ]
          refine Hd.tk 3 ?_
          try simp only [Act.put, List.setIfInBounds_toArray, List.set_cons_zero, List.set_cons_succ]
          refine Hd.tk 4 ?_
          try simp only [Act.put, List.setIfInBounds_toArray, List.set_cons_zero, List.set_cons_succ]
          refine Hd.tk 5 ?_
          try simp only [Act.put, List.setIfInBounds_toArray, List.set_cons_zero, List.set_cons_succ]
          refine Hd.tk 6 ?_
          try simp only [Act.put, List.setIfInBounds_toArray, List.set_cons_zero, List.set_cons_succ]
          refine Hd.tk 7 ?_
          try simp only [Act.put, List.setIfInBounds_toArray, List.set_cons_zero, List.set_cons_succ]
          refine Hd.tk 8 ?_
          try simp only [Act.put, List.setIfInBounds_toArray, List.set_cons_zero, List.set_cons_succ]
          refine wpAnyH_ready (rs := [9]) (by kernel_rfl) (by simp) (AllReadyH.cons (by simp only [List.getElem?_toArray, List.getElem?_cons_succ, List.getElem?_cons_zero]; rfl) (fun K hK => ?_) AllReadyH.nil)
          go_simp
          go_at_call 58
          refine (HHEX.out _).mono ?_
          rintro e u9 ⟨rfl, rfl⟩
          go_wp2_with fail
          refine hK.out _ _ (by exact ⟨q3, t0, t1, t2, r0, r1, r2, r3, c0, c1, c2, c3⟩) (fun hHf9 => ?_)
          clear hK K
          try simp only [Act.put, List.setIfInBounds_toArray, List.set_cons_zero, List.set_cons_succ]
          refine Hd.tk 10 ?_
          try simp only [Act.put, List.setIfInBounds_toArray, List.set_cons_zero, List.set_cons_succ]
          refine Hd.tk 11 ?_
          try simp only [Act.put, List.setIfInBounds_toArray, List.set_cons_zero, List.set_cons_succ]
          refine Hd.tk 12 ?_
          try simp only [Act.put, List.setIfInBounds_toArray, List.set_cons_zero, List.set_cons_succ]
          refine Hd.tk 13 ?_
          try simp only [Act.put, List.setIfInBounds_toArray, List.set_cons_zero, List.set_cons_succ]
          refine Hd.tk 14 ?_
          try simp only [Act.put, List.setIfInBounds_toArray, List.set_cons_zero, List.set_cons_succ]
          refine wpAnyH_ready (rs := [15]) (by kernel_rfl) (by simp) (AllReadyH.cons (by simp only [List.getElem?_toArray, List.getElem?_cons_succ, List.getElem?_cons_zero]; rfl) (fun K hK => ?_) AllReadyH.nil)
          go_simp
          go_at_call 46
          refine (HCHK.out _ (HG.out.below HTD.out.rd.r3.bel)).mono ?_
          rintro e u15 ⟨rfl, hu15⟩
          have HTE := Lib.hid (HTD.out.older hu15)
          clear q3 t0 t1 t2 r0 r1 r2 r3 c0 c1 c2 c3 hzs
          obtain ⟨q3, ⟨t0, t1, t2⟩, ⟨r0, r1, r2, r3⟩, ⟨c0, c1, c2, c3⟩, hzs⟩ := HTE.out.facts
          clear hu15
          go_wp2_with fail
          refine hK.out _ _ (by exact ⟨q3, t0, t1, t2, r0, r1, r2, r3, c0, c1, c2, c3⟩) (fun hHf15 => ?_)
          clear hK K
          try simp only [Act.put, List.setIfInBounds_toArray, List.set_cons_zero, List.set_cons_succ]
          refine Hd.tk 16 ?_
          try simp only [Act.put, List.setIfInBounds_toArray, List.set_cons_zero, List.set_cons_succ]
          refine Hd.tk 17 ?_
          try simp only [Act.put, List.setIfInBounds_toArray, List.set_cons_zero, List.set_cons_succ]
          refine Hd.tk 18 ?_
          try simp only [Act.put, List.setIfInBounds_toArray, List.set_cons_zero, List.set_cons_succ]
          refine Hd.sk 19 ?_
          try simp only [Act.put, List.setIfInBounds_toArray, List.set_cons_zero, List.set_cons_succ]
          refine Hd.sk 20 ?_
          try simp only [Act.put, List.setIfInBounds_toArray, List.set_cons_zero, List.set_cons_succ]
          refine Hd.sk 21 ?_
          try simp only [Act.put, List.setIfInBounds_toArray, List.set_cons_zero, List.set_cons_succ]
          refine Hd.sk 22 ?_
          try simp only [Act.put, List.setIfInBounds_toArray, List.set_cons_zero, List.set_cons_succ]
          refine Hd.sk 23 ?_
          try simp only [Act.put, List.setIfInBounds_toArray, List.set_cons_zero, List.set_cons_succ]
          refine Hd.sk 24 ?_
          try simp only [Act.put, List.setIfInBounds_toArray, List.set_cons_zero, List.set_cons_succ]
          refine Hd.sk 25 ?_
          try simp only [Act.put, List.setIfInBounds_toArray, List.set_cons_zero, List.set_cons_succ]
          refine Hd.sk 26 ?_
          try simp only [Act.put, List.setIfInBounds_toArray, List.set_cons_zero, List.set_cons_succ]
          refine Hd.sk 27 ?_
          try simp only [Act.put, List.setIfInBounds_toArray, List.set_cons_zero, List.set_cons_succ]
          refine Hd.tk 28 ?_
          try simp only [Act.put, List.setIfInBounds_toArray, List.set_cons_zero, List.set_cons_succ]
          refine wpAnyH_done (by kernel_rfl) ?_ _
          obtain ⟨_, ⟨⟨e0, e1, e2, e3⟩, ⟨g0, g1, g2, g3⟩⟩, ⟨⟨d0, d1, d2⟩, ⟨k0, k1, k2⟩⟩, hz⟩ := HTE.out.rd.r3.facts
          go_wp2_with fail
          obtain ⟨⟨⟨z0, z1, z2, z3⟩, ⟨y0, y1, y2⟩⟩, hbf⟩ := HTE.out.rd.r3.done (.string ⟨#[]⟩) (.string ⟨#[]⟩) (.string ⟨#[]⟩) (.bool false) (.string ⟨#[]⟩) (.int .i64 0) (.int .i64 0)
          refine bodyPost_ret (v := .tuple #[adZ, tkZ, .string ⟨#[]⟩, errV 2]) (by simp [results, Tryz.results20, go_sem, z0, z1, z2, z3, y0, y1, y2]) rfl ⟨?_, hbf⟩
          rw [HR.out]; rfl
      ·have HR := Lib.hid (read_noatoi HP.out (.inr (fun n hn => hay ⟨n, hn⟩)))
       have HA2 := Lib.hid (fun n hn => hay ⟨n, hn⟩)
       clear hax hay hre
       have q1 := HLP.out.vb.cell (i := 1) (v := .string ⟨v1.toArray⟩) rfl
       have hzq := HLP.out.vb.lt
       go_wp2_with fail
       refine (satoi_yes v1 x _ HA1.out (by omega)).mono ?_
       rintro e w3 ⟨rfl, hb3⟩
       have HLP3 := Lib.hid (HLP.out.older hb3)
       clear hb3 q1 hzq
       have q2 := HLP3.out.vb.cell (i := 2) (v := .string ⟨v2.toArray⟩) rfl
       have hzq := HLP3.out.vb.lt
       go_wp2_with fail
       refine (satoi_no v2 _ HA2.out (HG.out.below HLP3.out.rd.r3.bel) (by omega)).mono ?_
       rintro e w4 ⟨⟨y, pe, rfl⟩, hb4⟩
       have HLP4 := Lib.hid (HLP3.out.older hb4)
       clear hb4 q2 hzq
       have q0 := HLP4.out.vb.cell (i := 0) (v := .string ⟨v0.toArray⟩) rfl
       have hzq := HLP4.out.vb.lt
       obtain ⟨⟨c0, c1, c2, c3⟩, _, _, hz⟩ := HLP4.out.rd.r3.facts
       have hz1 : w.heap.size < w4.heap.size := by omega
       have HT := Lib.hid (rtS_new HLP4.out.rd HLP4.out.vb HLP4.out.lq x y h p)
       go_wp2_with fail
       refine (HJOIN.out _ HT.out.rd).mono ?_
       rintro e w5 ⟨rfl, hb5⟩
       have HT5 := Lib.hid (HT.out.older hb5)
       clear hb5 c0 c1 c2 c3 hz hz1 q0 hzq
       have s2 := HT5.out.sb.cell (i := 2) rfl
       have s3 := HT5.out.sb.cell (i := 3) rfl
       have hs2 := HT5.out.sb.frz 2
       have hs3 := HT5.out.sb.frz 3
       have hzs := HT5.out.sb.lt
       go_wp2_with fail
       have HT6 := Lib.hid (HT5.out.rest J)
       obtain ⟨RR, hRR⟩ : ∃ zz, w4.heap.size = zz := ⟨_, rfl⟩
       rw [hRR] at HT6 ⊢
       obtain ⟨w8, hw8⟩ : ∃ wz, (w5.setCell ⟨RR + 1, 3, none⟩ (.bool true)).setCell ⟨RR + 1, 2, none⟩ (.string ⟨J.toArray⟩) = wz := ⟨_, rfl⟩
       rw [hw8] at HT6 ⊢
       clear hw8 s2 s3 hs2 hs3 hzs
       have HT8 := HT6
       obtain ⟨q3, ⟨t0, t1, t2⟩, ⟨r0, r1, r2, r3⟩, ⟨c0, c1, c2, c3⟩, hzs⟩ := HT8.out.facts
       have HTD := Lib.hid (HT8.out.older ((Below.refl _ _).drew))
       refine wp_region_held_drew (S := fun w' => w'.cell? ⟨w1.heap.size, 3, none⟩ = some (.string ⟨v3.toArray⟩) ∧ w'.cell? ⟨RR, 0, none⟩ = some (.string ⟨v0.toArray⟩) ∧ w'.cell? ⟨RR, 1, none⟩ = some (.int .i64 x) ∧ w'.cell? ⟨RR, 2, none⟩ = some (.int .i64 y) ∧ w'.cell? ⟨RR + 1, 0, none⟩ = some (.string ⟨h.toArray⟩) ∧ w'.cell? ⟨RR + 1, 1, none⟩ = some (.string ⟨p.toArray⟩) ∧ w'.cell? ⟨RR + 1, 2, none⟩ = some (.string ⟨J.toArray⟩) ∧ w'.cell? ⟨RR + 1, 3, none⟩ = some (.bool true) ∧ w'.cell? ⟨w.heap.size, 0, none⟩ = some (.string ⟨h.toArray⟩) ∧ w'.cell? ⟨w.heap.size, 1, none⟩ = some (.string ⟨p.toArray⟩) ∧ w'.cell? ⟨w.heap.size, 2, none⟩ = some (.string ⟨q.toArray⟩) ∧ w'.cell? ⟨w.heap.size, 3, none⟩ = some (.bool b)) (by kernel_rfl) (by exact ⟨q3, t0, t1, t2, r0, r1, r2, r3, c0, c1, c2, c3⟩) (fun hHeld => ?_)
       obtain ⟨wd, hwd⟩ : ∃ z, w8.drew = z := ⟨_, rfl⟩
       rw [hwd] at hHeld HTD ⊢
       clear hwd
       clear q3 t0 t1 t2 r0 r1 r2 r3 c0 c1 c2 c3 hzs
       obtain ⟨q3, ⟨t0, t1, t2⟩, ⟨r0, r1, r2, r3⟩, ⟨c0, c1, c2, c3⟩, hzs⟩ := HTD.out.facts
       refine Hd.tk 0 ?_
       try simp only [Act.put, List.setIfInBounds_toArray, List.set_cons_zero, List.set_cons_succ]
       refine Hd.tk 1 ?_
       try simp only [Act.put, List.setIfInBounds_toArray, List.set_cons_zero, List.set_cons_succ]
       refine Hd.tk 2 ?_
       try simp only [Act.put, List.setIfInBounds_toArray, List.set_cons_zero, List.set_cons_succ]
       refine Hd.tk 3 ?_
       try simp only [Act.put, List.setIfInBounds_toArray, List.set_cons_zero, List.set_cons_succ]
       refine Hd.tk 4 ?_
       try simp only [Act.put, List.setIfInBounds_toArray, List.set_cons_zero, List.set_cons_succ]
       refine Hd.tk 5 ?_
       try simp only [Act.put, List.setIfInBounds_toArray, List.set_cons_zero, List.set_cons_succ]
       refine Hd.tk 6 ?_
       try simp only [Act.put, List.setIfInBounds_toArray, List.set_cons_zero, List.set_cons_succ]
       refine Hd.sk 7 ?_
       try simp only [Act.put, List.setIfInBounds_toArray, List.set_cons_zero, List.set_cons_succ]
       refine Hd.sk 8 ?_
       try simp only [Act.put, List.setIfInBounds_toArray, List.set_cons_zero, List.set_cons_succ]
       refine Hd.sk 9 ?_
       try simp only [Act.put, List.setIfInBounds_toArray, List.set_cons_zero, List.set_cons_succ]
       refine Hd.sk 10 ?_
       try simp only [Act.put, List.setIfInBounds_toArray, List.set_cons_zero, List.set_cons_succ]
       refine Hd.tk 11 ?_
       try simp only [Act.put, List.setIfInBounds_toArray, List.set_cons_zero, List.set_cons_succ]
       refine Hd.tk 12 ?_
       try simp only [Act.put, List.setIfInBounds_toArray, List.set_cons_zero, List.set_cons_succ]
       refine Hd.sk 13 ?_
       try simp only [Act.put, List.setIfInBounds_toArray, List.set_cons_zero, List.set_cons_succ]
       refine Hd.sk 14 ?_
       try simp only [Act.put, List.setIfInBounds_toArray, List.set_cons_zero, List.set_cons_succ]
       refine Hd.sk 15 ?_
       try simp only [Act.put, List.setIfInBounds_toArray, List.set_cons_zero, List.set_cons_succ]
       refine Hd.sk 16 ?_
       try simp only [Act.put, List.setIfInBounds_toArray, List.set_cons_zero, List.set_cons_succ]
       refine Hd.tk 17 ?_
       try simp only [Act.put, List.setIfInBounds_toArray, List.set_cons_zero, List.set_cons_succ]
       refine Hd.tk 18 ?_
       try simp only [Act.put, List.setIfInBounds_toArray, List.set_cons_zero, List.set_cons_succ]
       refine Hd.sk 19 ?_
       try simp only [Act.put, List.setIfInBounds_toArray, List.set_cons_zero, List.set_cons_succ]
       refine Hd.sk 20 ?_
       try simp only [Act.put, List.setIfInBounds_toArray, List.set_cons_zero, List.set_cons_succ]
       refine Hd.sk 21 ?_
       try simp only [Act.put, List.setIfInBounds_toArray, List.set_cons_zero, List.set_cons_succ]
       refine Hd.sk 22 ?_
       try simp only [Act.put, List.setIfInBounds_toArray, List.set_cons_zero, List.set_cons_succ]
       refine Hd.sk 23 ?_
       try simp only [Act.put, List.setIfInBounds_toArray, List.set_cons_zero, List.set_cons_succ]
       refine Hd.sk 24 ?_
       try simp only [Act.put, List.setIfInBounds_toArray, List.set_cons_zero, List.set_cons_succ]
       refine Hd.sk 25 ?_
       try simp only [Act.put, List.setIfInBounds_toArray, List.set_cons_zero, List.set_cons_succ]
       refine Hd.sk 26 ?_
       try simp only [Act.put, List.setIfInBounds_toArray, List.set_cons_zero, List.set_cons_succ]
       refine Hd.sk 27 ?_
       try simp only [Act.put, List.setIfInBounds_toArray, List.set_cons_zero, List.set_cons_succ]
       refine Hd.tk 28 ?_
       try simp only [Act.put, List.setIfInBounds_toArray, List.set_cons_zero, List.set_cons_succ]
       refine wpAnyH_done (by kernel_rfl) ?_ _
       obtain ⟨_, ⟨⟨e0, e1, e2, e3⟩, ⟨g0, g1, g2, g3⟩⟩, ⟨⟨d0, d1, d2⟩, ⟨k0, k1, k2⟩⟩, hz⟩ := HTD.out.rd.r3.facts
       go_wp2_with fail
       obtain ⟨⟨⟨z0, z1, z2, z3⟩, ⟨y0, y1, y2⟩⟩, hbf⟩ := HTD.out.rd.r3.done (.string ⟨#[]⟩) (.string ⟨#[]⟩) (.string ⟨#[]⟩) (.bool false) (.string ⟨#[]⟩) (.int .i64 0) (.int .i64 0)
       refine bodyPost_ret (v := .tuple #[adZ, tkZ, .string ⟨#[]⟩, errV 2]) (by simp [results, Tryz.results20, go_sem, z0, z1, z2, z3, y0, y1, y2]) rfl ⟨?_, hbf⟩
       rw [HR.out]; rfl
     ·have HR := Lib.hid (read_noatoi HP.out (.inl (fun n hn => hax ⟨n, hn⟩)))
      have HA1 := Lib.hid (fun n hn => hax ⟨n, hn⟩)
      clear hax hre
      have q1 := HLP.out.vb.cell (i := 1) (v := .string ⟨v1.toArray⟩) rfl
      have hzq := HLP.out.vb.lt
      go_wp2_with fail
      refine (satoi_no v1 _ HA1.out (HG.out.below HLP.out.rd.r3.bel) (by omega)).mono ?_
      rintro e w3 ⟨⟨x, pe, rfl⟩, hb3⟩
      have HLP3 := Lib.hid (HLP.out.older hb3)
      clear hb3 q1 hzq
      have q2 := HLP3.out.vb.cell (i := 2) (v := .string ⟨v2.toArray⟩) rfl
      have hzq := HLP3.out.vb.lt
      go_wp2_with fail
      refine (satoi_gen v2 _ (HG.out.below HLP3.out.rd.r3.bel) (by omega)).mono ?_
      rintro e w4 ⟨⟨y, ev, rfl⟩, hb4⟩
      have HLP4 := Lib.hid (HLP3.out.older hb4)
      clear hb4 q2 hzq
      have q0 := HLP4.out.vb.cell (i := 0) (v := .string ⟨v0.toArray⟩) rfl
      have hzq := HLP4.out.vb.lt
      obtain ⟨⟨c0, c1, c2, c3⟩, _, _, hz⟩ := HLP4.out.rd.r3.facts
      have hz1 : w.heap.size < w4.heap.size := by omega
      have HT := Lib.hid (rtS_new HLP4.out.rd HLP4.out.vb HLP4.out.lq x y h p)
      go_wp2_with fail
      refine (HJOIN.out _ HT.out.rd).mono ?_
      rintro e w5 ⟨rfl, hb5⟩
      have HT5 := Lib.hid (HT.out.older hb5)
      clear hb5 c0 c1 c2 c3 hz hz1 q0 hzq
      have s2 := HT5.out.sb.cell (i := 2) rfl
      have s3 := HT5.out.sb.cell (i := 3) rfl
      have hs2 := HT5.out.sb.frz 2
      have hs3 := HT5.out.sb.frz 3
      have hzs := HT5.out.sb.lt
      go_wp2_with fail
      have HT6 := Lib.hid (HT5.out.rest J)
      obtain ⟨RR, hRR⟩ : ∃ zz, w4.heap.size = zz := ⟨_, rfl⟩
      rw [hRR] at HT6 ⊢
      obtain ⟨w8, hw8⟩ : ∃ wz, (w5.setCell ⟨RR + 1, 3, none⟩ (.bool true)).setCell ⟨RR + 1, 2, none⟩ (.string ⟨J.toArray⟩) = wz := ⟨_, rfl⟩
      rw [hw8] at HT6 ⊢
      clear hw8 s2 s3 hs2 hs3 hzs
      have HT8 := HT6
      obtain ⟨q3, ⟨t0, t1, t2⟩, ⟨r0, r1, r2, r3⟩, ⟨c0, c1, c2, c3⟩, hzs⟩ := HT8.out.facts
      have HTD := Lib.hid (HT8.out.older ((Below.refl _ _).drew))
      refine wp_region_held_drew (S := fun w' => w'.cell? ⟨w1.heap.size, 3, none⟩ = some (.string ⟨v3.toArray⟩) ∧ w'.cell? ⟨RR, 0, none⟩ = some (.string ⟨v0.toArray⟩) ∧ w'.cell? ⟨RR, 1, none⟩ = some (.int .i64 x) ∧ w'.cell? ⟨RR, 2, none⟩ = some (.int .i64 y) ∧ w'.cell? ⟨RR + 1, 0, none⟩ = some (.string ⟨h.toArray⟩) ∧ w'.cell? ⟨RR + 1, 1, none⟩ = some (.string ⟨p.toArray⟩) ∧ w'.cell? ⟨RR + 1, 2, none⟩ = some (.string ⟨J.toArray⟩) ∧ w'.cell? ⟨RR + 1, 3, none⟩ = some (.bool true) ∧ w'.cell? ⟨w.heap.size, 0, none⟩ = some (.string ⟨h.toArray⟩) ∧ w'.cell? ⟨w.heap.size, 1, none⟩ = some (.string ⟨p.toArray⟩) ∧ w'.cell? ⟨w.heap.size, 2, none⟩ = some (.string ⟨q.toArray⟩) ∧ w'.cell? ⟨w.heap.size, 3, none⟩ = some (.bool b)) (by kernel_rfl) (by exact ⟨q3, t0, t1, t2, r0, r1, r2, r3, c0, c1, c2, c3⟩) (fun hHeld => ?_)
      obtain ⟨wd, hwd⟩ : ∃ z, w8.drew = z := ⟨_, rfl⟩
      rw [hwd] at hHeld HTD ⊢
      clear hwd
      clear q3 t0 t1 t2 r0 r1 r2 r3 c0 c1 c2 c3 hzs
      obtain ⟨q3, ⟨t0, t1, t2⟩, ⟨r0, r1, r2, r3⟩, ⟨c0, c1, c2, c3⟩, hzs⟩ := HTD.out.facts
      refine Hd.tk 0 ?_
      try simp only [Act.put, List.setIfInBounds_toArray, List.set_cons_zero, List.set_cons_succ]
      refine Hd.tk 1 ?_
      try simp only [Act.put, List.setIfInBounds_toArray, List.set_cons_zero, List.set_cons_succ]
      refine Hd.tk 2 ?_
      try simp only [Act.put, List.setIfInBounds_toArray, List.set_cons_zero, List.set_cons_succ]
      refine Hd.sk 3 ?_
      try simp only [Act.put, List.setIfInBounds_toArray, List.set_cons_zero, List.set_cons_succ]
      refine Hd.sk 4 ?_
      try simp only [Act.put, List.setIfInBounds_toArray, List.set_cons_zero, List.set_cons_succ]
      refine Hd.tk 5 ?_
      try simp only [Act.put, List.setIfInBounds_toArray, List.set_cons_zero, List.set_cons_succ]
      refine Hd.tk 6 ?_
      try simp only [Act.put, List.setIfInBounds_toArray, List.set_cons_zero, List.set_cons_succ]
      refine Hd.sk 7 ?_
      try simp only [Act.put, List.setIfInBounds_toArray, List.set_cons_zero, List.set_cons_succ]
      refine Hd.sk 8 ?_
      try simp only [Act.put, List.setIfInBounds_toArray, List.set_cons_zero, List.set_cons_succ]
      refine Hd.sk 9 ?_
      try simp only [Act.put, List.setIfInBounds_toArray, List.set_cons_zero, List.set_cons_succ]
      refine Hd.sk 10 ?_
      try simp only [Act.put, List.setIfInBounds_toArray, List.set_cons_zero, List.set_cons_succ]
      refine Hd.tk 11 ?_
      try simp only [Act.put, List.setIfInBounds_toArray, List.set_cons_zero, List.set_cons_succ]
      refine Hd.tk 12 ?_
      try simp only [Act.put, List.setIfInBounds_toArray, List.set_cons_zero, List.set_cons_succ]
      refine Hd.sk 13 ?_
      try simp only [Act.put, List.setIfInBounds_toArray, List.set_cons_zero, List.set_cons_succ]
      refine Hd.sk 14 ?_
      try simp only [Act.put, List.setIfInBounds_toArray, List.set_cons_zero, List.set_cons_succ]
      refine Hd.sk 15 ?_
      try simp only [Act.put, List.setIfInBounds_toArray, List.set_cons_zero, List.set_cons_succ]
      refine Hd.sk 16 ?_
      try simp only [Act.put, List.setIfInBounds_toArray, List.set_cons_zero, List.set_cons_succ]
      refine Hd.tk 17 ?_
      try simp only [Act.put, List.setIfInBounds_toArray, List.set_cons_zero, List.set_cons_succ]
      refine Hd.tk 18 ?_
      try simp only [Act.put, List.setIfInBounds_toArray, List.set_cons_zero, List.set_cons_succ]
      refine Hd.sk 19 ?_
      try simp only [Act.put, List.setIfInBounds_toArray, List.set_cons_zero, List.set_cons_succ]
      refine Hd.sk 20 ?_
      try simp only [Act.put, List.setIfInBounds_toArray, List.set_cons_zero, List.set_cons_succ]
      refine Hd.sk 21 ?_
      try simp only [Act.put, List.setIfInBounds_toArray, List.set_cons_zero, List.set_cons_succ]
      refine Hd.sk 22 ?_
      try simp only [Act.put, List.setIfInBounds_toArray, List.set_cons_zero, List.set_cons_succ]
      refine Hd.sk 23 ?_
      try simp only [Act.put, List.setIfInBounds_toArray, List.set_cons_zero, List.set_cons_succ]
      refine Hd.sk 24 ?_
      try simp only [Act.put, List.setIfInBounds_toArray, List.set_cons_zero, List.set_cons_succ]
      refine Hd.sk 25 ?_
      try simp only [Act.put, List.setIfInBounds_toArray, List.set_cons_zero, List.set_cons_succ]
      refine Hd.sk 26 ?_
      try simp only [Act.put, List.setIfInBounds_toArray, List.set_cons_zero, List.set_cons_succ]
      refine Hd.sk 27 ?_
      try simp only [Act.put, List.setIfInBounds_toArray, List.set_cons_zero, List.set_cons_succ]
      refine Hd.tk 28 ?_
      try simp only [Act.put, List.setIfInBounds_toArray, List.set_cons_zero, List.set_cons_succ]
      refine wpAnyH_done (by kernel_rfl) ?_ _
      obtain ⟨_, ⟨⟨e0, e1, e2, e3⟩, ⟨g0, g1, g2, g3⟩⟩, ⟨⟨d0, d1, d2⟩, ⟨k0, k1, k2⟩⟩, hz⟩ := HTD.out.rd.r3.facts
      go_wp2_with fail
      obtain ⟨⟨⟨z0, z1, z2, z3⟩, ⟨y0, y1, y2⟩⟩, hbf⟩ := HTD.out.rd.r3.done (.string ⟨#[]⟩) (.string ⟨#[]⟩) (.string ⟨#[]⟩) (.bool false) (.string ⟨#[]⟩) (.int .i64 0) (.int .i64 0)
      refine bodyPost_ret (v := .tuple #[adZ, tkZ, .string ⟨#[]⟩, errV 2]) (by simp [results, Tryz.results20, go_sem, z0, z1, z2, z3, y0, y1, y2]) rfl ⟨?_, hbf⟩
      rw [HR.out]; rfl
end Sg
end Go.Proofs.YtpkhbhdidkkebaaGreatDoor
end

