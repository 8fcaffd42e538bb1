/- Contracts and plain facts that the statement's proof leans on (texts joined). No condition beyond those that each names. -/
import Derived.Laws.AppendOwn
import Derived.Below
import Derived.Test.YtpkhbhdidkkebaaGreatDoorPvA
section
namespace Go.Proofs.YtpkhbhdidkkebaaGreatDoor
open Go.RowKit

/-- From block B on: the value v is a slice of n elements of the call's own, whose cells are xs. -/
def OwnWin (w : World) (B : Nat) (e : TypeId) (size : Nat) (v : Value) (n : Nat) (xs : List Value) : Prop :=
 xs.length = n * size ∧
 ((v = .slice none 0 0 ∧ n = 0) ∨
  ∃ g o cap cur, v = .slice (some ⟨g, o, none⟩) n cap ∧ B ≤ g ∧ w.heap[g]? = some (.cells cur e (0, 0)) ∧ n ≤ cap ∧ cap ≤ maxLen ∧ o + cap * size ≤ cur.size ∧ (cur.toList.drop o).take (n * size) = xs)

/-- What may have been written: the blocks of S alone (among those that were there). -/
structure Touch (S : Nat → Prop) (w w' : World) : Prop where
 os : w'.os = w.os
 tape : w'.tape = w.tape
 output : w'.output = w.output
 size : w.heap.size ≤ w'.heap.size
 block : ∀ k, k < w.heap.size → ¬ S k → w'.heap[k]? = w.heap[k]?

namespace Touch
variable {S T : Nat → Prop} {w w' w'' : World}
theorem refl (S : Nat → Prop) (w : World) : Touch S w w := ⟨rfl, rfl, rfl, Nat.le_refl _, fun _ _ _ => rfl⟩
theorem trans (h : Touch S w w') (k : Touch S w' w'') : Touch S w w'' :=
 ⟨k.os.trans h.os, k.tape.trans h.tape, k.output.trans h.output, Nat.le_trans h.size k.size, fun i hi hn => (k.block i (Nat.lt_of_lt_of_le hi h.size) hn).trans (h.block i hi hn)⟩
/-- What was made on the way may be written freely. -/
theorem trans' (h : Touch S w w') (k : Touch T w' w'') (hT : ∀ i, i < w.heap.size → T i → S i) : Touch S w w'' :=
 ⟨k.os.trans h.os, k.tape.trans h.tape, k.output.trans h.output, Nat.le_trans h.size k.size, fun i hi hn => (k.block i (Nat.lt_of_lt_of_le hi h.size) (fun ht => hn (hT i hi ht))).trans (h.block i hi hn)⟩
theorem mono (h : Touch S w w') (hs : ∀ i, i < w.heap.size → S i → T i) : Touch T w w' := ⟨h.os, h.tape, h.output, h.size, fun i hi hn => h.block i hi (fun g => hn (hs i hi g))⟩
theorem below {B : Nat} (h : Touch S w w') (hB : B ≤ w.heap.size) (hs : ∀ i, S i → B ≤ i) : Below B w w' := ⟨h.os, h.tape, h.output, h.size, fun k hk => h.block k (by omega) (fun g => by have := hs k g; omega)⟩
theorem of_below {B : Nat} (h : Below B w w') (hB : w.heap.size ≤ B) : Touch S w w' := ⟨h.os, h.tape, h.output, h.size, fun k hk _ => h.block k (by omega)⟩
theorem cell (h : Touch S w w') {a : Addr} {v : Value} (hc : w.cell? a = some v) (hn : ¬ S a.block) : w'.cell? a = some v :=
 (World.cell?_of_block (h.block a.block (World.block_lt_of_cell? w a hc) hn)).trans hc
theorem of_grown {row : Option Nat} (h : w.grownBy w' row) (hs : ∀ k, row = some k → S k) : Touch S w w' :=
 ⟨h.os, h.tape, h.output, h.size, fun k hk hn => h.block k hk (fun e => hn (hs k e.symm))⟩
theorem alloc (h : Touch S w w') (o : Obj) : Touch S w (w'.alloc o) :=
 h.trans ⟨rfl, rfl, rfl, by simp, fun k hk _ => Below.heap_alloc _ _ _ hk⟩
theorem drew (h : Touch S w w') : Touch S w w'.drew := ⟨h.os, h.tape, h.output, h.size, h.block⟩
theorem setCell (h : Touch S w w') {a : Addr} (ha : S a.block) (u : Value) : Touch S w (w'.setCell a u) :=
 h.trans ⟨rfl, rfl, rfl, by simp [World.setCell], fun k _ hn => Below.heap_setCell _ _ _ _ (fun e => hn (e ▸ ha))⟩
end Touch

namespace OwnWin
variable {w w' : World} {B : Nat} {e : TypeId} {size : Nat} {v : Value} {n : Nat} {xs : List Value}
theorem nil (w : World) (B : Nat) (e : TypeId) (size : Nat) : OwnWin w B e size (.slice none 0 0) 0 [] := ⟨by simp, .inl ⟨rfl, rfl⟩⟩
theorem lt (h : OwnWin w B e size v n xs) : ∀ k, v.ownBlock = some k → B ≤ k ∧ k < w.heap.size := by
 intro k hk
 rcases h.2 with ⟨rfl, _⟩ | ⟨g, o, cap, cur, rfl, hb, hg, _⟩
 ·simp [Value.ownBlock] at hk
 ·simp [Value.ownBlock] at hk
  subst hk
  exact ⟨hb, (Array.getElem?_eq_some_iff.1 hg).1⟩
theorem touch {S : Nat → Prop} (h : OwnWin w B e size v n xs) (ht : Touch S w w') (hn : ∀ k, v.ownBlock = some k → ¬ S k) : OwnWin w' B e size v n xs := by
 refine ⟨h.1, ?_⟩
 rcases h.2 with h0 | ⟨g, o, cap, cur, rfl, hb, hg, rest⟩
 ·exact .inl h0
 ·exact .inr ⟨g, o, cap, cur, rfl, hb, (ht.block g (Array.getElem?_eq_some_iff.1 hg).1 (hn g rfl)).trans hg, rest⟩
theorem below {C : Nat} (h : OwnWin w B e size v n xs) (ht : Below C w w') (hn : ∀ k, v.ownBlock = some k → k < C) : OwnWin w' B e size v n xs := by
 refine ⟨h.1, ?_⟩
 rcases h.2 with h0 | ⟨g, o, cap, cur, rfl, hb, hg, rest⟩
 ·exact .inl h0
 ·exact .inr ⟨g, o, cap, cur, rfl, hb, (ht.block g (hn g rfl)).trans hg, rest⟩
/-- What is there stays when new blocks are made. -/
theorem older (h : OwnWin w B e size v n xs) (ht : Below w.heap.size w w') : OwnWin w' B e size v n xs := h.below ht fun k hk => (h.lt k hk).2
theorem alloc (h : OwnWin w B e size v n xs) (o : Obj) : OwnWin (w.alloc o) B e size v n xs := h.older ((Below.refl _ _).alloc (Nat.le_refl _) o)
theorem drew (h : OwnWin w B e size v n xs) : OwnWin w.drew B e size v n xs := h
theorem mono {C : Nat} (h : OwnWin w B e size v n xs) (hC : ∀ k, v.ownBlock = some k → C ≤ k) : OwnWin w C e size v n xs := by
 refine ⟨h.1, ?_⟩
 rcases h.2 with h0 | ⟨g, o, cap, cur, rfl, hb, rest⟩
 ·exact .inl h0
 ·exact .inr ⟨g, o, cap, cur, rfl, hC g rfl, rest⟩
theorem form (h : OwnWin w B e size v n xs) : ∃ a c, v = .slice a n c ∧ n ≤ c := by
 rcases h.2 with ⟨rfl, rfl⟩ | ⟨g, o, cap, cur, rfl, _, _, h1, _⟩
 ·exact ⟨_, _, rfl, Nat.le_refl _⟩
 ·exact ⟨_, _, rfl, h1⟩
/-- The cells of a slice that has elements. -/
theorem cells (h : OwnWin w B e size v n xs) (hn : 0 < n) : ∃ g o c, v = .slice (some ⟨g, o, none⟩) n c ∧ n ≤ c ∧ c ≤ maxLen ∧ B ≤ g ∧ g < w.heap.size ∧ ∀ j u, xs[j]? = some u → w.cell? ⟨g, o + j, none⟩ = some u := by
 rcases h.2 with ⟨_, h0⟩ | ⟨g, o, cap, cur, rfl, hb, hg, hnc, hm, hsz, htake⟩
 ·omega
 ·refine ⟨g, o, cap, rfl, hnc, hm, hb, (Array.getElem?_eq_some_iff.1 hg).1, fun j u hu => ?_⟩
  rw [cell_of_row w g (o + j) cur e (0, 0) hg]
  rw [← htake, List.getElem?_take] at hu
  split at hu
  ·rw [List.getElem?_drop] at hu
   simpa using hu
  ·cases hu
/-- Without its first k elements, where the capacity is greater than k. -/
theorem drop {k : Nat} (h : OwnWin w B e size v n xs) {g o c : Nat} (hv : v = .slice (some ⟨g, o, none⟩) n c) (hk : k ≤ n) (hc : k < c) :
 OwnWin w B e size (.slice (some ⟨g, o + k * size, none⟩) (n - k) (c - k)) (n - k) (xs.drop (k * size)) := by
 refine ⟨by rw [List.length_drop, h.1, Nat.sub_mul], ?_⟩
 rcases h.2 with ⟨rfl, _⟩ | ⟨g', o', cap, cur, rfl, hb, hg, h1, h2, h3, h4⟩
 ·cases hv
 ·cases hv
  refine .inr ⟨g, o + k * size, c - k, cur, rfl, hb, hg, by omega, by omega, ?_, ?_⟩
  ·have : k * size + (c - k) * size = c * size := by rw [← Nat.add_mul]; congr 1; omega
   omega
  ·rw [← h4, List.drop_take, List.drop_drop, Nat.sub_mul]
/-- No element of a slice that is full: the address stays. -/
theorem dropAll (h : OwnWin w B e size v n xs) {g o c : Nat} (hv : v = .slice (some ⟨g, o, none⟩) n c) : OwnWin w B e size (.slice (some ⟨g, o, none⟩) 0 0) 0 [] := by
 refine ⟨by simp, ?_⟩
 rcases h.2 with ⟨rfl, _⟩ | ⟨g', o', cap, cur, rfl, hb, hg, h1, h2, h3, h4⟩
 ·cases hv
 ·cases hv
  exact .inr ⟨g, o, 0, cur, rfl, hb, hg, Nat.le_refl _, Nat.zero_le _, by omega, by simp⟩
end OwnWin

/-- A slice that is read: m elements whose cells are news. -/
def SrcAt (w : World) (u : Value) (m : Nat) (news : List Value) : Prop :=
 (u = .slice none 0 0 ∧ m = 0 ∧ news = []) ∨ ∃ a c, u = .slice (some a) m c ∧ ∀ j x, news[j]? = some x → w.cell? (a.add j) = some x
theorem SrcAt.of {w : World} {B : Nat} {e : TypeId} {size : Nat} {v : Value} {n : Nat} {xs : List Value} (h : OwnWin w B e size v n xs) : SrcAt w v n xs := by
 have h1 := h.1
 rcases h.2 with ⟨rfl, rfl⟩ | ⟨g, o, cap, cur, rfl, hb, hg, hnc, hm, hsz, htake⟩
 ·exact .inl ⟨rfl, rfl, List.eq_nil_of_length_eq_zero (by simpa using h1)⟩
 ·refine .inr ⟨_, _, rfl, fun j u hu => ?_⟩
  have hn : 0 < n := by
   rcases Nat.eq_zero_or_pos n with h0 | h0
   ·subst h0
    have : xs = [] := List.eq_nil_of_length_eq_zero (by simpa using h1)
    subst this; simp at hu
   ·exact h0
  obtain ⟨g', o', c', e', _, _, _, _, hc⟩ := OwnWin.cells ⟨h1, .inr ⟨g, o, cap, cur, rfl, hb, hg, hnc, hm, hsz, htake⟩⟩ hn
  cases e'
  rw [Addr.add_lit]
  exact hc j u hu
theorem SrcAt.one {w : World} {g : Nat} {C : Array Value} {e : TypeId} {fr : Nat × Nat} {c : Nat} (h : w.heap[g]? = some (.cells C e fr)) : SrcAt w (.slice (some ⟨g, 0, none⟩) 1 c) 1 C.toList := by
 refine .inr ⟨_, _, rfl, fun j u hu => ?_⟩
 rw [Addr.add_lit, Nat.zero_add, cell_of_row w g j C e fr h]
 simpa using hu

section
variable {P : Program} (w : World)

theorem run_append_win (B : Nat) (t ty e : TypeId) (i : TypeInfo) (z : Value) (size bytes : Nat) (ht : P.underlying t = some (.slice e)) (hi : P.info? e = some i) (hz : i.zero = some z)
    (hsize : i.size = size) (hby : i.bytes = bytes) (hzs : z.cells.size = size) (hsz : 0 < size)
    (v : Value) (n : Nat) (xs : List Value) (hown : OwnWin w B e size v n xs)
    (u : Value) (m : Nat) (news : List Value) (hl : news.length = m * size) (hsrc : SrcAt w u m news) (h1 : ∀ x ∈ news, x.oneCell' = true)
    (h63 : n + m ≤ maxLen) (hbytes : (n + m) * bytes ≤ 140737488355328) (hbase : B ≤ w.heap.size) :
    ∃ v' w', (Builtin.append_ #[t, t] ty #[v, u]).run P w = .ok v' w' ∧ OwnWin w' B e size v' (n + m) (xs ++ news) ∧ w.grownBy w' v.ownBlock ∧
      (v'.ownBlock = v.ownBlock ∨ v'.ownBlock = some w.heap.size) ∧ (v' = .slice none 0 0 ↔ v = .slice none 0 0 ∧ m = 0) := by
 subst hsize
 subst hby
 have hsmall : n + m ≤ 9223372036854775807 := by simp only [maxLen] at h63; omega
 have hlen : (xs ++ news).length = (n + m) * i.size := by rw [List.length_append, hown.1, hl, Nat.add_mul]
 rcases hsrc with ⟨rfl, rfl, rfl⟩ | ⟨a, c, rfl, hnews⟩
 ·rcases hown.2 with ⟨rfl, rfl⟩ | ⟨g, o, cap, cur, rfl, hbg, hg, hnc, hcm, hcs, htake⟩
  ·have hx : xs = [] := List.eq_nil_of_length_eq_zero (by simpa using hown.1)
   subst hx
   refine ⟨.slice none 0 0, w, ?_, OwnWin.nil w B e i.size, ⟨rfl, rfl, rfl, Nat.le_refl _, fun _ _ _ => rfl⟩, .inl rfl, by simp⟩
   simp [Builtin.append_, run_underlying ht, sizeOf, typeInfo, hi, Builtin.lenOf, Builtin.firstCells]
  ·refine ⟨.slice (some ⟨g, o, none⟩) n cap, w, ?_, by simpa using hown, ⟨rfl, rfl, rfl, Nat.le_refl _, fun _ _ _ => rfl⟩, .inl rfl, by simp⟩
   simp [Builtin.append_, run_underlying ht, sizeOf, typeInfo, hi, Builtin.lenOf, Builtin.firstCells, hnc, storeCells]
 ·have grown : ∀ (old : Nat), old < n + m → ∀ (row : Option Nat),
      OwnWin (w.drew.alloc (.cells (xs.toArray ++ news.toArray ++ Builtin.zeroCells z.cells (grownCap w (n + m) old e - (n + m))) e)) B e i.size
        (.slice (some ⟨w.heap.size, 0, none⟩) (n + m) (grownCap w (n + m) old e)) (n + m) (xs ++ news) ∧
      w.grownBy (w.drew.alloc (.cells (xs.toArray ++ news.toArray ++ Builtin.zeroCells z.cells (grownCap w (n + m) old e - (n + m))) e)) row := by
   intro old ho row
   have hge := grownCap_ge w (n + m) old e
   have hcm : grownCap w (n + m) old e ≤ maxLen := grownCap_le_maxLen w (n + m) old e h63
   refine ⟨⟨hlen, .inr ⟨w.heap.size, 0, _, _, rfl, hbase, heap_alloc_new w.drew _, hge, hcm, ?_, ?_⟩⟩, ⟨rfl, rfl, rfl, by simp, fun k hk _ => Below.heap_alloc w.drew _ k hk⟩⟩
   ·simp only [Array.size_append, List.size_toArray, size_zeroCells, hzs, hown.1, hl, ← Nat.add_mul, Nat.zero_add]
    exact Nat.mul_le_mul_right _ (by omega)
   ·simp only [Array.toList_append, List.append_assoc, List.drop_zero]
    rw [← List.append_assoc, ← hlen]
    exact List.take_left
  rcases hown.2 with ⟨rfl, rfl⟩ | ⟨g, o, cap, cur, rfl, hbg, hg, hnc, hcm, hcs, htake⟩
  ·have hx : xs = [] := List.eq_nil_of_length_eq_zero (by simpa using hown.1)
   subst hx
   by_cases hm : m = 0
   ·subst hm
    have hn : news = [] := List.eq_nil_of_length_eq_zero (by simpa using hl)
    subst hn
    refine ⟨.slice none 0 0, w, ?_, OwnWin.nil w B e i.size, ⟨rfl, rfl, rfl, Nat.le_refl _, fun _ _ _ => rfl⟩, .inl rfl, by simp⟩
    simp [Builtin.append_, run_underlying ht, sizeOf, typeInfo, hi, Builtin.lenOf, Builtin.firstCells, loadCells, loadCellsFrom]
   ·have hr := run_append_nil (P := P) w t ty e i z ht hi hz a m c news hl hnews (by omega) (by omega) (by have hb := hbytes; simp only [Nat.zero_add] at hb; omega)
    have hgr := grown 0 (by omega) (Value.ownBlock (.slice none 0 0))
    simp only [Nat.zero_add, List.nil_append, Array.empty_append] at hgr ⊢
    exact ⟨_, _, hr, hgr.1, hgr.2, .inr rfl, by simp [hm]⟩
  ·by_cases hroom : n + m ≤ cap
   ·have hmul : (n + m) * i.size ≤ cap * i.size := Nat.mul_le_mul_right _ hroom
    have hfit : o + n * i.size + 0 + news.length ≤ cur.size := by rw [hl]; rw [Nat.add_mul] at hmul; omega
    have hf := run_firstCells_some (P := P) w i.size m a m c news hl hnews
    have hst := run_storeCells_at P g (o + n * i.size) e news 0 cur w hg hfit h1
    simp only [Nat.add_zero] at hst
    refine ⟨.slice (some ⟨g, o, none⟩) (n + m) cap, w.setRow g (cur.toList.take (o + n * i.size) ++ news ++ cur.toList.drop (o + n * i.size + news.length)).toArray, ?_, ⟨hlen, .inr ⟨g, o, cap, _, rfl, hbg, setRow_heap w g cur _ e _ hg, hroom, hcm, ?_, ?_⟩⟩, ⟨rfl, rfl, rfl, by simp, fun k _ hk => setRow_other w g k _ (fun e => hk (by simp [Value.ownBlock, e]))⟩, .inl rfl, by simp⟩
    ·simp [Builtin.append_, run_underlying ht, sizeOf, typeInfo, hi, Builtin.lenOf, hroom, hf, Addr.add_lit, hst]
    ·simp only [List.size_toArray, List.length_append, List.length_take, List.length_drop, Array.length_toList]
     omega
    ·have ho : o ≤ cur.toList.length := by simp; omega
     have e1 : cur.toList.take (o + n * i.size) = cur.toList.take o ++ (cur.toList.drop o).take (n * i.size) := by rw [List.take_add]
     rw [e1, htake, ← hlen]
     simp only [List.append_assoc]
     rw [List.drop_append_of_le_length (by simp; omega), List.drop_of_length_le (by simp; omega), List.nil_append, ← List.append_assoc]
     exact List.take_left
   ·have holds : ∀ j x, xs[j]? = some x → w.cell? ((⟨g, o, none⟩ : Addr).add j) = some x := by
     intro j x hx
     have hn : 0 < n := by
      rcases Nat.eq_zero_or_pos n with h0 | h0
      ·have hx0 : xs = [] := List.eq_nil_of_length_eq_zero (by rw [hown.1, h0]; simp)
       subst hx0; simp at hx
      ·exact h0
     obtain ⟨g', o', c', e', _, _, _, _, hc⟩ := hown.cells hn
     cases e'
     rw [Addr.add_lit]
     exact hc j x hx
    have hr := run_append_grow (P := P) w t ty e i z ht hi hz ⟨g, o, none⟩ n cap xs hown.1 holds a m c news hl hnews (by omega) (by omega) (growslice_fits (by omega) hbytes)
    have hgr := grown cap (by omega) (Value.ownBlock (.slice (some ⟨g, o, none⟩) n cap))
    exact ⟨_, _, hr, hgr.1, hgr.2, .inr rfl, by simp⟩
end

section
variable {P : Program} {T e : TypeId} {size bytes : Nat} (ty : SliceTy P T e size bytes)
include ty
theorem wp_appw {o : Oper} {a : Act} {w : World} {K : Act → World → Prop} {Q : Exit → Act → World → Prop} (s x : Operand)
    (ho : o.op = .call { callee := .builtin .append, args := #[s, x], argTypes := #[T, T] })
    (B : Nat) (v : Value) (n : Nat) (xs : List Value) (hs : a.eval s = v) (hown : OwnWin w B e size v n xs) (hB : B ≤ w.heap.size)
    (u : Value) (m : Nat) (C : List Value) (hx : a.eval x = u) (hC : SrcAt w u m C) (hl : C.length = m * size) (h1 : ∀ u ∈ C, u.oneCell' = true)
    (hn : n + m ≤ 1099511627776)
    (h : ∀ v' w', OwnWin w' B e size v' (n + m) (xs ++ C) → w.grownBy w' v.ownBlock → (v'.ownBlock = v.ownBlock ∨ v'.ownBlock = some w.heap.size) → K (a.put o.dst v') w') : o.wp P a w K Q := by
 obtain ⟨i, z, hi, hz, hsize, hby, hzs⟩ := ty.info
 have hsm := ty.small
 obtain ⟨v', w', hr, h2, h3, h4, _⟩ := run_append_win (P := P) w B T o.type e i z size bytes ty.under hi hz hsize hby hzs ty.pos v n xs hown u m C hl hC h1 (by unfold maxLen; omega) (by
  calc (n + m) * bytes ≤ 1099511627776 * 64 := Nat.mul_le_mul hn hsm
    _ ≤ 140737488355328 := by decide) hB
 unfold Oper.wp execOp
 simp only [ho, resolve, invoke, builtin, Sem.run_bind, Sem.run_pure, Result.andThen_ok, List.map_toArray, List.map_cons, List.map_nil, hs, hx, hr]
 exact h v' w' h2 h3 h4

theorem wpList_appw {ops : Array Oper} {rest : List Oper} {o : Oper} {a : Act} {w : World} {Q : Exit → Act → World → Prop} (hg : o.guard = none) (s x : Operand)
    (ho : o.op = .call { callee := .builtin .append, args := #[s, x], argTypes := #[T, T] })
    (B : Nat) (v : Value) (n : Nat) (xs : List Value) (hs : a.eval s = v) (hown : OwnWin w B e size v n xs) (hB : B ≤ w.heap.size)
    (u : Value) (m : Nat) (C : List Value) (hx : a.eval x = u) (hC : SrcAt w u m C) (hl : C.length = m * size) (h1 : ∀ u ∈ C, u.oneCell' = true)
    (hn : n + m ≤ 1099511627776)
    (h : ∀ v' w', OwnWin w' B e size v' (n + m) (xs ++ C) → w.grownBy w' v.ownBlock → (v'.ownBlock = v.ownBlock ∨ v'.ownBlock = some w.heap.size) → wpList P ops Q rest (a.put o.dst v') w') : wpList P ops Q (o :: rest) a w :=
 wpList_plain hg fun _ hK => wp_appw ty s x ho B v n xs hs hown hB u m C hx hC hl h1 hn fun v' w' h2 h3 h4 => hK _ _ (h v' w' h2 h3 h4)

theorem step_appw {ops : Array Oper} {o : Oper} {a : Act} {w : World} {K : Act → World → Prop} {Q : Exit → Act → World → Prop} {E : Prop} (hgd : o.guard = none) (s x : Operand)
    (ho : o.op = .call { callee := .builtin .append, args := #[s, x], argTypes := #[T, T] })
    (B : Nat) (v : Value) (n : Nat) (xs : List Value) (hs : a.eval s = v) (hown : OwnWin w B e size v n xs) (hB : B ≤ w.heap.size)
    (u : Value) (m : Nat) (C : List Value) (hx : a.eval x = u) (hC : SrcAt w u m C) (hl : C.length = m * size) (h1 : ∀ u ∈ C, u.oneCell' = true)
    (hn : n + m ≤ 1099511627776)
    (h : ∀ v' w', OwnWin w' B e size v' (n + m) (xs ++ C) → w.grownBy w' v.ownBlock → (v'.ownBlock = v.ownBlock ∨ v'.ownBlock = some w.heap.size) → K (a.put o.dst v') w') :
    if Region.wanted o (yielded ops a.tmps) = true then Oper.wp P o a w K Q else E := by
 have hw : Region.wanted o (yielded ops a.tmps) = true := by simp [Region.wanted, hgd]
 rw [if_pos hw]
 exact wp_appw ty s x ho B v n xs hs hown hB u m C hx hC hl h1 hn h
end
end Go.Proofs.YtpkhbhdidkkebaaGreatDoor
end

