/- Contracts and plain facts that the statement's proof leans on (texts joined). No condition beyond those that each names. -/
import Derived.Laws.AppendOwn
import Derived.Below
import Derived.Shelf.Strings.Builder1
import Derived.Shelf.Strings.Builder2
import Derived.Shelf.Strings.OnBuilder
import Derived.Shelf.Small.Strs
import Derived.Shelf.Strconv.Atoi
import Derived.Shelf.Strconv.Itoa0
import Derived.Shelf.Strconv.Itoa1
import Derived.Shelf.LaysM
import Derived.Shelf.Strconv.Itoa2
import Derived.Shelf.Strconv.Itoa3
import Derived.Shelf.Strconv.AtoiErrFast
import Derived.Shelf.Strconv.ParseIntEmpty
import Derived.Shelf.Strconv.AtoiFail
import Derived.Shelf.Strconv.Clone
import Derived.Shelf.Strconv.SyntaxError
import Derived.Shelf.LaysC
import Derived.Shelf.Strconv.ToError
import Derived.Shelf.Strconv.Lower
import Derived.Shelf.Strconv.ParseUint10
import Derived.Shelf.Strconv.ParseUint10Empty
import Derived.Shelf.Strconv.ParseUint10Any
import Derived.Shelf.Strconv.ParseInt10
import Derived.Shelf.Strconv.AtoiLong
import Derived.Shelf.Strconv.AtoiInnerAll
import Derived.Shelf.Strconv.RangeError
import Derived.Shelf.Strconv.ToErrorRange
import Derived.Shelf.Strconv.AtoiAll
import Derived.Shelf.Strconv.ErrVarAll
import Derived.Shelf.Strings.Search1
import Derived.Shelf.Strings.Search2
import Derived.Shelf.Strings.Search3
import Derived.Shelf.Strings.Cut
import Derived.Shelf.Strings.Count
import Derived.Shelf.Strings.Shaped
import Derived.Shelf.Sort.Plain
import Derived.Shelf.Strings.Prefix
import Derived.Shelf.Strings.Split
import Derived.Shelf.Strings.SplitShaped
import Derived.Shelf.Unicode.Decode
import Derived.Shelf.Strings.RuneCount
import Derived.Shelf.Strings.Explode
import Derived.Shelf.Unicode.DecodeSlow
import Derived.Shelf.Slices.Turned
import Derived.Shelf.Slices.Equal
import Derived.Shelf.Slices.In.SortNone
import Derived.Shelf.Slices.Empties2
import Derived.Shelf.Bytes.Small
import Derived.Test.YtjijijjkkhpjnaaGreatDoorProg
import Derived.Test.YtjijijjkkhpjnaaGreatDoorQgA
import Derived.Test.YtjijijjkkhpjnaaGreatDoorQgB
import Derived.Test.YtjijijjkkhpjnaaGreatDoorQgD
section
namespace Go.Proofs.YtjijijjkkhpjnaaGreatDoor
open Go.RowKit

/-- From block B on: the value v is a slice of n elements of the call's own, whose cells are xs. -/
def OwnWin (w : World) (B : Nat) (e : TypeId) (size : Nat) (v : Value) (n : Nat) (xs : List Value) : Prop :=
  xs.length = n * size ∧
  ((v = .slice none 0 0 ∧ n = 0) ∨
   ∃ g o cap cur, v = .slice (some ⟨g, o, none⟩) n cap ∧ B ≤ g ∧ w.heap[g]? = some (.cells cur e (0, 0)) ∧ n ≤ cap ∧ cap ≤ maxLen ∧ o + cap * size ≤ cur.size ∧ (cur.toList.drop o).take (n * size) = xs)

/-- What may have been written: the blocks of S alone (among those that were there). -/
structure Touch (S : Nat → Prop) (w w' : World) : Prop where
  os : w'.os = w.os
  tape : w'.tape = w.tape
  output : w'.output = w.output
  size : w.heap.size ≤ w'.heap.size
  block : ∀ k, k < w.heap.size → ¬ S k → w'.heap[k]? = w.heap[k]?

namespace Touch
variable {S T : Nat → Prop} {w w' w'' : World}
theorem refl (S : Nat → Prop) (w : World) : Touch S w w := ⟨rfl, rfl, rfl, Nat.le_refl _, fun _ _ _ => rfl⟩
theorem trans (h : Touch S w w') (k : Touch S w' w'') : Touch S w w'' :=
  ⟨k.os.trans h.os, k.tape.trans h.tape, k.output.trans h.output, Nat.le_trans h.size k.size, fun i hi hn => (k.block i (Nat.lt_of_lt_of_le hi h.size) hn).trans (h.block i hi hn)⟩
/-- What was made on the way may be written freely. -/
theorem trans' (h : Touch S w w') (k : Touch T w' w'') (hT : ∀ i, i < w.heap.size → T i → S i) : Touch S w w'' :=
  ⟨k.os.trans h.os, k.tape.trans h.tape, k.output.trans h.output, Nat.le_trans h.size k.size, fun i hi hn => (k.block i (Nat.lt_of_lt_of_le hi h.size) (fun ht => hn (hT i hi ht))).trans (h.block i hi hn)⟩
theorem mono (h : Touch S w w') (hs : ∀ i, i < w.heap.size → S i → T i) : Touch T w w' := ⟨h.os, h.tape, h.output, h.size, fun i hi hn => h.block i hi (fun g => hn (hs i hi g))⟩
theorem below {B : Nat} (h : Touch S w w') (hB : B ≤ w.heap.size) (hs : ∀ i, S i → B ≤ i) : Below B w w' := ⟨h.os, h.tape, h.output, h.size, fun k hk => h.block k (by omega) (fun g => by have := hs k g; omega)⟩
theorem of_below {B : Nat} (h : Below B w w') (hB : w.heap.size ≤ B) : Touch S w w' := ⟨h.os, h.tape, h.output, h.size, fun k hk _ => h.block k (by omega)⟩
theorem cell (h : Touch S w w') {a : Addr} {v : Value} (hc : w.cell? a = some v) (hn : ¬ S a.block) : w'.cell? a = some v :=
  (World.cell?_of_block (h.block a.block (World.block_lt_of_cell? w a hc) hn)).trans hc
theorem of_grown {row : Option Nat} (h : w.grownBy w' row) (hs : ∀ k, row = some k → S k) : Touch S w w' :=
  ⟨h.os, h.tape, h.output, h.size, fun k hk hn => h.block k hk (fun e => hn (hs k e.symm))⟩
theorem alloc (h : Touch S w w') (o : Obj) : Touch S w (w'.alloc o) :=
  h.trans ⟨rfl, rfl, rfl, by simp, fun k hk _ => Below.heap_alloc _ _ _ hk⟩
theorem drew (h : Touch S w w') : Touch S w w'.drew := ⟨h.os, h.tape, h.output, h.size, h.block⟩
theorem setCell (h : Touch S w w') {a : Addr} (ha : S a.block) (u : Value) : Touch S w (w'.setCell a u) :=
  h.trans ⟨rfl, rfl, rfl, by simp [World.setCell], fun k _ hn => Below.heap_setCell _ _ _ _ (fun e => hn (e ▸ ha))⟩
end Touch

namespace OwnWin
variable {w w' : World} {B : Nat} {e : TypeId} {size : Nat} {v : Value} {n : Nat} {xs : List Value}
theorem nil (w : World) (B : Nat) (e : TypeId) (size : Nat) : OwnWin w B e size (.slice none 0 0) 0 [] := ⟨by simp, .inl ⟨rfl, rfl⟩⟩
theorem lt (h : OwnWin w B e size v n xs) : ∀ k, v.ownBlock = some k → B ≤ k ∧ k < w.heap.size := by
  intro k hk
  rcases h.2 with ⟨rfl, _⟩ | ⟨g, o, cap, cur, rfl, hb, hg, _⟩
  · simp [Value.ownBlock] at hk
  · simp [Value.ownBlock] at hk
    subst hk
    exact ⟨hb, (Array.getElem?_eq_some_iff.1 hg).1⟩
theorem touch {S : Nat → Prop} (h : OwnWin w B e size v n xs) (ht : Touch S w w') (hn : ∀ k, v.ownBlock = some k → ¬ S k) : OwnWin w' B e size v n xs := by
  refine ⟨h.1, ?_⟩
  rcases h.2 with h0 | ⟨g, o, cap, cur, rfl, hb, hg, rest⟩
  · exact .inl h0
  · exact .inr ⟨g, o, cap, cur, rfl, hb, (ht.block g (Array.getElem?_eq_some_iff.1 hg).1 (hn g rfl)).trans hg, rest⟩
theorem below {C : Nat} (h : OwnWin w B e size v n xs) (ht : Below C w w') (hn : ∀ k, v.ownBlock = some k → k < C) : OwnWin w' B e size v n xs := by
  refine ⟨h.1, ?_⟩
  rcases h.2 with h0 | ⟨g, o, cap, cur, rfl, hb, hg, rest⟩
  · exact .inl h0
  · exact .inr ⟨g, o, cap, cur, rfl, hb, (ht.block g (hn g rfl)).trans hg, rest⟩
/-- What is there stays when new blocks are made. -/
theorem older (h : OwnWin w B e size v n xs) (ht : Below w.heap.size w w') : OwnWin w' B e size v n xs := h.below ht fun k hk => (h.lt k hk).2
theorem alloc (h : OwnWin w B e size v n xs) (o : Obj) : OwnWin (w.alloc o) B e size v n xs := h.older ((Below.refl _ _).alloc (Nat.le_refl _) o)
theorem drew (h : OwnWin w B e size v n xs) : OwnWin w.drew B e size v n xs := h
theorem mono {C : Nat} (h : OwnWin w B e size v n xs) (hC : ∀ k, v.ownBlock = some k → C ≤ k) : OwnWin w C e size v n xs := by
  refine ⟨h.1, ?_⟩
  rcases h.2 with h0 | ⟨g, o, cap, cur, rfl, hb, rest⟩
  · exact .inl h0
  · exact .inr ⟨g, o, cap, cur, rfl, hC g rfl, rest⟩
theorem form (h : OwnWin w B e size v n xs) : ∃ a c, v = .slice a n c ∧ n ≤ c := by
  rcases h.2 with ⟨rfl, rfl⟩ | ⟨g, o, cap, cur, rfl, _, _, h1, _⟩
  · exact ⟨_, _, rfl, Nat.le_refl _⟩
  · exact ⟨_, _, rfl, h1⟩
/-- The cells of a slice that has elements. -/
theorem cells (h : OwnWin w B e size v n xs) (hn : 0 < n) : ∃ g o c, v = .slice (some ⟨g, o, none⟩) n c ∧ n ≤ c ∧ c ≤ maxLen ∧ B ≤ g ∧ g < w.heap.size ∧ ∀ j u, xs[j]? = some u → w.cell? ⟨g, o + j, none⟩ = some u := by
  rcases h.2 with ⟨_, h0⟩ | ⟨g, o, cap, cur, rfl, hb, hg, hnc, hm, hsz, htake⟩
  · omega
  · refine ⟨g, o, cap, rfl, hnc, hm, hb, (Array.getElem?_eq_some_iff.1 hg).1, fun j u hu => ?_⟩
    rw [cell_of_row w g (o + j) cur e (0, 0) hg]
    rw [← htake, List.getElem?_take] at hu
    split at hu
    · rw [List.getElem?_drop] at hu
      simpa using hu
    · cases hu
/-- Without its first k elements, where the capacity is greater than k. -/
theorem drop {k : Nat} (h : OwnWin w B e size v n xs) {g o c : Nat} (hv : v = .slice (some ⟨g, o, none⟩) n c) (hk : k ≤ n) (hc : k < c) :
    OwnWin w B e size (.slice (some ⟨g, o + k * size, none⟩) (n - k) (c - k)) (n - k) (xs.drop (k * size)) := by
  refine ⟨by rw [List.length_drop, h.1, Nat.sub_mul], ?_⟩
  rcases h.2 with ⟨rfl, _⟩ | ⟨g', o', cap, cur, rfl, hb, hg, h1, h2, h3, h4⟩
  · cases hv
  · cases hv
    refine .inr ⟨g, o + k * size, c - k, cur, rfl, hb, hg, by omega, by omega, ?_, ?_⟩
    · have : k * size + (c - k) * size = c * size := by rw [← Nat.add_mul]; congr 1; omega
      omega
    · rw [← h4, List.drop_take, List.drop_drop, Nat.sub_mul]
end OwnWin

/-- A slice that is read: m elements whose cells are news. -/
def SrcAt (w : World) (u : Value) (m : Nat) (news : List Value) : Prop :=
  (u = .slice none 0 0 ∧ m = 0 ∧ news = []) ∨ ∃ a c, u = .slice (some a) m c ∧ ∀ j x, news[j]? = some x → w.cell? (a.add j) = some x
theorem SrcAt.of {w : World} {B : Nat} {e : TypeId} {size : Nat} {v : Value} {n : Nat} {xs : List Value} (h : OwnWin w B e size v n xs) : SrcAt w v n xs := by
  have h1 := h.1
  rcases h.2 with ⟨rfl, rfl⟩ | ⟨g, o, cap, cur, rfl, hb, hg, hnc, hm, hsz, htake⟩
  · exact .inl ⟨rfl, rfl, List.eq_nil_of_length_eq_zero (by simpa using h1)⟩
  · refine .inr ⟨_, _, rfl, fun j u hu => ?_⟩
    have hn : 0 < n := by
      rcases Nat.eq_zero_or_pos n with h0 | h0
      · subst h0
        have : xs = [] := List.eq_nil_of_length_eq_zero (by simpa using h1)
        subst this; simp at hu
      · exact h0
    obtain ⟨g', o', c', e', _, _, _, _, hc⟩ := OwnWin.cells ⟨h1, .inr ⟨g, o, cap, cur, rfl, hb, hg, hnc, hm, hsz, htake⟩⟩ hn
    cases e'
    rw [Addr.add_lit]
    exact hc j u hu
theorem SrcAt.one {w : World} {g : Nat} {C : Array Value} {e : TypeId} {fr : Nat × Nat} {c : Nat} (h : w.heap[g]? = some (.cells C e fr)) : SrcAt w (.slice (some ⟨g, 0, none⟩) 1 c) 1 C.toList := by
  refine .inr ⟨_, _, rfl, fun j u hu => ?_⟩
  rw [Addr.add_lit, Nat.zero_add, cell_of_row w g j C e fr h]
  simpa using hu

section
variable {P : Program} (w : World)

theorem run_append_win (B : Nat) (t ty e : TypeId) (i : TypeInfo) (z : Value) (size bytes : Nat) (ht : P.underlying t = some (.slice e)) (hi : P.info? e = some i) (hz : i.zero = some z)
    (hsize : i.size = size) (hby : i.bytes = bytes) (hzs : z.cells.size = size) (hsz : 0 < size)
    (v : Value) (n : Nat) (xs : List Value) (hown : OwnWin w B e size v n xs)
    (u : Value) (m : Nat) (news : List Value) (hl : news.length = m * size) (hsrc : SrcAt w u m news) (h1 : ∀ x ∈ news, x.oneCell' = true)
    (h63 : n + m ≤ maxLen) (hbytes : (n + m) * bytes ≤ 140737488355328) (hbase : B ≤ w.heap.size) :
    ∃ v' w', (Builtin.append_ #[t, t] ty #[v, u]).run P w = .ok v' w' ∧ OwnWin w' B e size v' (n + m) (xs ++ news) ∧ w.grownBy w' v.ownBlock ∧
      (v'.ownBlock = v.ownBlock ∨ v'.ownBlock = some w.heap.size) ∧ (v' = .slice none 0 0 ↔ v = .slice none 0 0 ∧ m = 0) := by
  subst hsize
  subst hby
  have hsmall : n + m ≤ 9223372036854775807 := by simp only [maxLen] at h63; omega
  have hlen : (xs ++ news).length = (n + m) * i.size := by rw [List.length_append, hown.1, hl, Nat.add_mul]
  rcases hsrc with ⟨rfl, rfl, rfl⟩ | ⟨a, c, rfl, hnews⟩
  · rcases hown.2 with ⟨rfl, rfl⟩ | ⟨g, o, cap, cur, rfl, hbg, hg, hnc, hcm, hcs, htake⟩
    · have hx : xs = [] := List.eq_nil_of_length_eq_zero (by simpa using hown.1)
      subst hx
      refine ⟨.slice none 0 0, w, ?_, OwnWin.nil w B e i.size, ⟨rfl, rfl, rfl, Nat.le_refl _, fun _ _ _ => rfl⟩, .inl rfl, by simp⟩
      simp [Builtin.append_, run_underlying ht, sizeOf, typeInfo, hi, Builtin.lenOf, Builtin.firstCells]
    · refine ⟨.slice (some ⟨g, o, none⟩) n cap, w, ?_, by simpa using hown, ⟨rfl, rfl, rfl, Nat.le_refl _, fun _ _ _ => rfl⟩, .inl rfl, by simp⟩
      simp [Builtin.append_, run_underlying ht, sizeOf, typeInfo, hi, Builtin.lenOf, Builtin.firstCells, hnc, storeCells]
  · have grown : ∀ (old : Nat), old < n + m → ∀ (row : Option Nat),
        OwnWin (w.drew.alloc (.cells (xs.toArray ++ news.toArray ++ Builtin.zeroCells z.cells (grownCap w (n + m) old e - (n + m))) e)) B e i.size
          (.slice (some ⟨w.heap.size, 0, none⟩) (n + m) (grownCap w (n + m) old e)) (n + m) (xs ++ news) ∧
        w.grownBy (w.drew.alloc (.cells (xs.toArray ++ news.toArray ++ Builtin.zeroCells z.cells (grownCap w (n + m) old e - (n + m))) e)) row := by
      intro old ho row
      have hge := grownCap_ge w (n + m) old e
      have hcm : grownCap w (n + m) old e ≤ maxLen := grownCap_le_maxLen w (n + m) old e h63
      refine ⟨⟨hlen, .inr ⟨w.heap.size, 0, _, _, rfl, hbase, heap_alloc_new w.drew _, hge, hcm, ?_, ?_⟩⟩, ⟨rfl, rfl, rfl, by simp, fun k hk _ => Below.heap_alloc w.drew _ k hk⟩⟩
      · simp only [Array.size_append, List.size_toArray, size_zeroCells, hzs, hown.1, hl, ← Nat.add_mul, Nat.zero_add]
        exact Nat.mul_le_mul_right _ (by omega)
      · simp only [Array.toList_append, List.append_assoc, List.drop_zero]
        rw [← List.append_assoc, ← hlen]
        exact List.take_left
    rcases hown.2 with ⟨rfl, rfl⟩ | ⟨g, o, cap, cur, rfl, hbg, hg, hnc, hcm, hcs, htake⟩
    · have hx : xs = [] := List.eq_nil_of_length_eq_zero (by simpa using hown.1)
      subst hx
      by_cases hm : m = 0
      · subst hm
        have hn : news = [] := List.eq_nil_of_length_eq_zero (by simpa using hl)
        subst hn
        refine ⟨.slice none 0 0, w, ?_, OwnWin.nil w B e i.size, ⟨rfl, rfl, rfl, Nat.le_refl _, fun _ _ _ => rfl⟩, .inl rfl, by simp⟩
        simp [Builtin.append_, run_underlying ht, sizeOf, typeInfo, hi, Builtin.lenOf, Builtin.firstCells, loadCells, loadCellsFrom]
      · have hr := run_append_nil (P := P) w t ty e i z ht hi hz a m c news hl hnews (by omega) (by omega) (by have hb := hbytes; simp only [Nat.zero_add] at hb; omega)
        have hgr := grown 0 (by omega) (Value.ownBlock (.slice none 0 0))
        simp only [Nat.zero_add, List.nil_append, Array.empty_append] at hgr ⊢
        exact ⟨_, _, hr, hgr.1, hgr.2, .inr rfl, by simp [hm]⟩
    · by_cases hroom : n + m ≤ cap
      · have hmul : (n + m) * i.size ≤ cap * i.size := Nat.mul_le_mul_right _ hroom
        have hfit : o + n * i.size + 0 + news.length ≤ cur.size := by rw [hl]; rw [Nat.add_mul] at hmul; omega
        have hf := run_firstCells_some (P := P) w i.size m a m c news hl hnews
        have hst := run_storeCells_at P g (o + n * i.size) e news 0 cur w hg hfit h1
        simp only [Nat.add_zero] at hst
        refine ⟨.slice (some ⟨g, o, none⟩) (n + m) cap, w.setRow g (cur.toList.take (o + n * i.size) ++ news ++ cur.toList.drop (o + n * i.size + news.length)).toArray, ?_, ⟨hlen, .inr ⟨g, o, cap, _, rfl, hbg, setRow_heap w g cur _ e _ hg, hroom, hcm, ?_, ?_⟩⟩, ⟨rfl, rfl, rfl, by simp, fun k _ hk => setRow_other w g k _ (fun e => hk (by simp [Value.ownBlock, e]))⟩, .inl rfl, by simp⟩
        · simp [Builtin.append_, run_underlying ht, sizeOf, typeInfo, hi, Builtin.lenOf, hroom, hf, Addr.add_lit, hst]
        · simp only [List.size_toArray, List.length_append, List.length_take, List.length_drop, Array.length_toList]
          omega
        · have ho : o ≤ cur.toList.length := by simp; omega
          have e1 : cur.toList.take (o + n * i.size) = cur.toList.take o ++ (cur.toList.drop o).take (n * i.size) := by rw [List.take_add]
          rw [e1, htake, ← hlen]
          simp only [List.append_assoc]
          rw [List.drop_append_of_le_length (by simp; omega), List.drop_of_length_le (by simp; omega), List.nil_append, ← List.append_assoc]
          exact List.take_left
      · have holds : ∀ j x, xs[j]? = some x → w.cell? ((⟨g, o, none⟩ : Addr).add j) = some x := by
          intro j x hx
          have hn : 0 < n := by
            rcases Nat.eq_zero_or_pos n with h0 | h0
            · have hx0 : xs = [] := List.eq_nil_of_length_eq_zero (by rw [hown.1, h0]; simp)
              subst hx0; simp at hx
            · exact h0
          obtain ⟨g', o', c', e', _, _, _, _, hc⟩ := hown.cells hn
          cases e'
          rw [Addr.add_lit]
          exact hc j x hx
        have hr := run_append_grow (P := P) w t ty e i z ht hi hz ⟨g, o, none⟩ n cap xs hown.1 holds a m c news hl hnews (by omega) (by omega) (growslice_fits (by omega) hbytes)
        have hgr := grown cap (by omega) (Value.ownBlock (.slice (some ⟨g, o, none⟩) n cap))
        exact ⟨_, _, hr, hgr.1, hgr.2, .inr rfl, by simp⟩
end

section
variable {P : Program} {T e : TypeId} {size bytes : Nat} (ty : SliceTy P T e size bytes)
include ty
theorem wp_appw {o : Oper} {a : Act} {w : World} {K : Act → World → Prop} {Q : Exit → Act → World → Prop} (s x : Operand)
    (ho : o.op = .call { callee := .builtin .append, args := #[s, x], argTypes := #[T, T] })
    (B : Nat) (v : Value) (n : Nat) (xs : List Value) (hs : a.eval s = v) (hown : OwnWin w B e size v n xs) (hB : B ≤ w.heap.size)
    (u : Value) (m : Nat) (C : List Value) (hx : a.eval x = u) (hC : SrcAt w u m C) (hl : C.length = m * size) (h1 : ∀ u ∈ C, u.oneCell' = true)
    (hn : n + m ≤ 1099511627776)
    (h : ∀ v' w', OwnWin w' B e size v' (n + m) (xs ++ C) → w.grownBy w' v.ownBlock → (v'.ownBlock = v.ownBlock ∨ v'.ownBlock = some w.heap.size) → K (a.put o.dst v') w') : o.wp P a w K Q := by
  obtain ⟨i, z, hi, hz, hsize, hby, hzs⟩ := ty.info
  have hsm := ty.small
  obtain ⟨v', w', hr, h2, h3, h4, _⟩ := run_append_win (P := P) w B T o.type e i z size bytes ty.under hi hz hsize hby hzs ty.pos v n xs hown u m C hl hC h1 (by unfold maxLen; omega) (by
    calc (n + m) * bytes ≤ 1099511627776 * 64 := Nat.mul_le_mul hn hsm
      _ ≤ 140737488355328 := by decide) hB
  unfold Oper.wp execOp
  simp only [ho, resolve, invoke, builtin, Sem.run_bind, Sem.run_pure, Result.andThen_ok, List.map_toArray, List.map_cons, List.map_nil, hs, hx, hr]
  exact h v' w' h2 h3 h4

theorem wpList_appw {ops : Array Oper} {rest : List Oper} {o : Oper} {a : Act} {w : World} {Q : Exit → Act → World → Prop} (hg : o.guard = none) (s x : Operand)
    (ho : o.op = .call { callee := .builtin .append, args := #[s, x], argTypes := #[T, T] })
    (B : Nat) (v : Value) (n : Nat) (xs : List Value) (hs : a.eval s = v) (hown : OwnWin w B e size v n xs) (hB : B ≤ w.heap.size)
    (u : Value) (m : Nat) (C : List Value) (hx : a.eval x = u) (hC : SrcAt w u m C) (hl : C.length = m * size) (h1 : ∀ u ∈ C, u.oneCell' = true)
    (hn : n + m ≤ 1099511627776)
    (h : ∀ v' w', OwnWin w' B e size v' (n + m) (xs ++ C) → w.grownBy w' v.ownBlock → (v'.ownBlock = v.ownBlock ∨ v'.ownBlock = some w.heap.size) → wpList P ops Q rest (a.put o.dst v') w') : wpList P ops Q (o :: rest) a w :=
  wpList_plain hg fun _ hK => wp_appw ty s x ho B v n xs hs hown hB u m C hx hC hl h1 hn fun v' w' h2 h3 h4 => hK _ _ (h v' w' h2 h3 h4)

end
end Go.Proofs.YtjijijjkkhpjnaaGreatDoor
end

section
namespace Go.Proofs
open Go.Shelf
def Tryz.lays171_ren : Go.Shelf.Ren := ⟨fun | 171 => 49 | 243 => 74 | 246 => 104 | 283 => 125 | 284 => 126 | 285 => 127 | 286 => 128 | 129 => 99 | 317 => 146 | 318 => 147 | 319 => 148 | 320 => 149 | 337 => 158 | 338 => 159 | n => n, fun | 3 => 3 | 9 => 9 | 2 => 2 | 4 => 4 | 171 => 198 | 0 => 0 | 53 => 173 | 37 => 84 | 5 => 5 | 173 => 200 | 212 => 220 | 51 => 171 | 20 => 20 | 213 => 221 | 46 => 140 | 232 => 236 | 233 => 237 | n => n, fun | 17 => 4 | 18 => 5 | 19 => 6 | n => n⟩
theorem Tryz.lays171 : Go.Proofs.Lays.n171 Tryz.prog Tryz.lays171_ren := {
  mixed := by kernel_rfl
  f129 := Tryz.func99.trans (congrArg some (by kernel_rfl))
  f171 := Tryz.func49.trans (congrArg some (by kernel_rfl))
  f243 := Tryz.func74.trans (congrArg some (by kernel_rfl))
  f246 := Tryz.func104.trans (congrArg some (by kernel_rfl))
  f283 := Tryz.func125.trans (congrArg some (by kernel_rfl))
  f284 := Tryz.func126.trans (congrArg some (by kernel_rfl))
  f285 := Tryz.func127.trans (congrArg some (by kernel_rfl))
  f286 := Tryz.func128.trans (congrArg some (by kernel_rfl))
  f317 := Tryz.func146.trans (congrArg some (by kernel_rfl))
  f318 := Tryz.func147.trans (congrArg some (by kernel_rfl))
  f319 := Tryz.func148.trans (congrArg some (by kernel_rfl))
  f320 := Tryz.func149.trans (congrArg some (by kernel_rfl))
  f337 := Tryz.func158.trans (congrArg some (by kernel_rfl))
  f338 := Tryz.func159.trans (congrArg some (by kernel_rfl))
  t0 := Tryz.underlying0
  a0 := Tryz.isAgg0
  z0 := Tryz.sizeOf0
  v0 := Tryz.zeroValue0
  t2 := Tryz.underlying2
  a2 := Tryz.isAgg2
  z2 := Tryz.sizeOf2
  v2 := Tryz.zeroValue2
  t3 := Tryz.underlying3
  a3 := Tryz.isAgg3
  z3 := Tryz.sizeOf3
  v3 := Tryz.zeroValue3
  t4 := Tryz.underlying4
  a4 := Tryz.isAgg4
  z4 := Tryz.sizeOf4
  v4 := Tryz.zeroValue4
  t5 := Tryz.underlying5
  a5 := Tryz.isAgg5
  z5 := Tryz.sizeOf5
  v5 := Tryz.zeroValue5
  t9 := Tryz.underlying9
  a9 := Tryz.isAgg9
  z9 := Tryz.sizeOf9
  v9 := Tryz.zeroValue9
  t20 := Tryz.underlying20
  a20 := Tryz.isAgg20
  z20 := Tryz.sizeOf20
  v20 := Tryz.zeroValue20
  t37 := Tryz.underlying84
  a37 := Tryz.isAgg84
  z37 := Tryz.sizeOf84
  v37 := Tryz.zeroValue84
  t46 := Tryz.underlying140
  a46 := Tryz.isAgg140
  z46 := Tryz.sizeOf140
  v46 := Tryz.zeroValue140
  t51 := Tryz.underlying171
  a51 := Tryz.isAgg171
  z51 := Tryz.sizeOf171
  v51 := Tryz.zeroValue171
  t53 := Tryz.underlying173
  a53 := Tryz.isAgg173
  z53 := Tryz.sizeOf173
  v53 := Tryz.zeroValue173
  t171 := Tryz.underlying198
  a171 := Tryz.isAgg198
  z171 := Tryz.sizeOf198
  v171 := Tryz.zeroValue198
  t173 := Tryz.underlying200
  a173 := Tryz.isAgg200
  z173 := Tryz.sizeOf200
  v173 := Tryz.zeroValue200
  t212 := Tryz.underlying220
  a212 := Tryz.isAgg220
  z212 := Tryz.sizeOf220
  v212 := Tryz.zeroValue220
  t213 := Tryz.underlying221
  a213 := Tryz.isAgg221
  z213 := Tryz.sizeOf221
  t232 := Tryz.underlying236
  a232 := Tryz.isAgg236
  z232 := Tryz.sizeOf236
  v232 := Tryz.zeroValue236
  t233 := Tryz.underlying237
  a233 := Tryz.isAgg237
  z233 := Tryz.sizeOf237
  v233 := Tryz.zeroValue237
  g17 := by kernel_rfl
  g18 := by kernel_rfl
  g19 := by kernel_rfl }
open Go.RowKit Go.Sort Go.Lib in
theorem Tryz.strconv_Itoa_small (i : Nat) (hi : i < 100) (w : World) :
    Calls Tryz.prog 49 #[.int .i64 i] w fun e w' => e = .returned (.string ⟨(Lib.decDigits i).toArray⟩) ∧ w' = w := Any.strconv_Itoa_small Tryz.lays171 i hi w
def Tryz.lays190_ren : Go.Shelf.Ren := ⟨fun | 190 => 43 | 125 => 69 | 258 => 68 | 128 => 98 | 129 => 99 | 302 => 89 | 303 => 90 | 304 => 91 | 305 => 92 | 306 => 93 | 307 => 94 | 308 => 95 | 309 => 96 | 310 => 97 | 333 => 112 | 329 => 113 | 330 => 114 | 334 => 115 | 335 => 116 | 336 => 117 | 344 => 135 | n => n, fun | 31 => 42 | 9 => 9 | 3 => 3 | 46 => 140 | 0 => 0 | 51 => 171 | 53 => 173 | 4 => 4 | 183 => 165 | 182 => 164 | 131 => 152 | 5 => 5 | 218 => 187 | 222 => 191 | 228 => 208 | 229 => 209 | n => n, fun | n => n⟩
theorem Tryz.lays190 : Go.Proofs.Lays.n190 Tryz.prog Tryz.lays190_ren := {
  mixed := by kernel_rfl
  f125 := Tryz.func69.trans (congrArg some (by kernel_rfl))
  f128 := Tryz.func98.trans (congrArg some (by kernel_rfl))
  f129 := Tryz.func99.trans (congrArg some (by kernel_rfl))
  f190 := Tryz.func43.trans (congrArg some (by kernel_rfl))
  f258 := Tryz.func68.trans (congrArg some (by kernel_rfl))
  f302 := Tryz.func89.trans (congrArg some (by kernel_rfl))
  f303 := Tryz.func90.trans (congrArg some (by kernel_rfl))
  f304 := Tryz.func91.trans (congrArg some (by kernel_rfl))
  f305 := Tryz.func92.trans (congrArg some (by kernel_rfl))
  f306 := Tryz.func93.trans (congrArg some (by kernel_rfl))
  f307 := Tryz.func94.trans (congrArg some (by kernel_rfl))
  f308 := Tryz.func95.trans (congrArg some (by kernel_rfl))
  f309 := Tryz.func96.trans (congrArg some (by kernel_rfl))
  f310 := Tryz.func97.trans (congrArg some (by kernel_rfl))
  f329 := Tryz.func113.trans (congrArg some (by kernel_rfl))
  f330 := Tryz.func114.trans (congrArg some (by kernel_rfl))
  f333 := Tryz.func112.trans (congrArg some (by kernel_rfl))
  f334 := Tryz.func115.trans (congrArg some (by kernel_rfl))
  f335 := Tryz.func116.trans (congrArg some (by kernel_rfl))
  f336 := Tryz.func117.trans (congrArg some (by kernel_rfl))
  f344 := Tryz.func135.trans (congrArg some (by kernel_rfl))
  t0 := Tryz.underlying0
  a0 := Tryz.isAgg0
  z0 := Tryz.sizeOf0
  v0 := Tryz.zeroValue0
  t3 := Tryz.underlying3
  a3 := Tryz.isAgg3
  z3 := Tryz.sizeOf3
  v3 := Tryz.zeroValue3
  t4 := Tryz.underlying4
  a4 := Tryz.isAgg4
  z4 := Tryz.sizeOf4
  v4 := Tryz.zeroValue4
  t5 := Tryz.underlying5
  a5 := Tryz.isAgg5
  z5 := Tryz.sizeOf5
  v5 := Tryz.zeroValue5
  t9 := Tryz.underlying9
  a9 := Tryz.isAgg9
  z9 := Tryz.sizeOf9
  v9 := Tryz.zeroValue9
  t31 := Tryz.underlying42
  a31 := Tryz.isAgg42
  z31 := Tryz.sizeOf42
  v31 := Tryz.zeroValue42
  t46 := Tryz.underlying140
  a46 := Tryz.isAgg140
  z46 := Tryz.sizeOf140
  v46 := Tryz.zeroValue140
  t51 := Tryz.underlying171
  a51 := Tryz.isAgg171
  z51 := Tryz.sizeOf171
  v51 := Tryz.zeroValue171
  t53 := Tryz.underlying173
  a53 := Tryz.isAgg173
  z53 := Tryz.sizeOf173
  v53 := Tryz.zeroValue173
  t131 := Tryz.underlying152
  a131 := Tryz.isAgg152
  z131 := Tryz.sizeOf152
  v131 := Tryz.zeroValue152
  t182 := Tryz.underlying164
  a182 := Tryz.isAgg164
  z182 := Tryz.sizeOf164
  v182 := Tryz.zeroValue164
  t183 := Tryz.underlying165
  a183 := Tryz.isAgg165
  z183 := Tryz.sizeOf165
  v183 := Tryz.zeroValue165
  t218 := Tryz.underlying187
  a218 := Tryz.isAgg187
  z218 := Tryz.sizeOf187
  v218 := Tryz.zeroValue187
  t222 := Tryz.underlying191
  a222 := Tryz.isAgg191
  z222 := Tryz.sizeOf191
  v222 := Tryz.zeroValue191
  t228 := Tryz.underlying208
  a228 := Tryz.isAgg208
  z228 := Tryz.sizeOf208
  v228 := Tryz.zeroValue208
  t229 := Tryz.underlying209
  a229 := Tryz.isAgg209
  z229 := Tryz.sizeOf209
  v229 := Tryz.zeroValue209 }
open Go.Sort Go.RowKit in
theorem Tryz.slices_Sort_string (blk off cap : Nat) (ss : List (List UInt8)) (w : World) (hH : Holds encStr w blk off ss.toArray) (hblk : blk < w.heap.size) (hsz : ss.length < 4611686018427387904) :
    Calls Tryz.prog 43 #[.slice (some ⟨blk, off, none⟩) ss.length cap] w fun e w' =>
      e = .returned (.tuple #[]) ∧ ∃ n os, w' = grow (putRow encStr (Sort.ahead w n) blk off (ss.mergeSort fun x y => decide (x ≤ y)).toArray) os := Any.slices_Sort_string Tryz.lays190 blk off cap ss w hH hblk hsz
def Tryz.lays110_ren : Go.Shelf.Ren := ⟨fun | 110 => 42 | 109 => 52 | n => n, fun | 31 => 42 | 9 => 9 | 4 => 4 | 3 => 3 | 0 => 0 | n => n, fun | n => n⟩
theorem Tryz.lays110 : Go.Proofs.Lays.n110 Tryz.prog Tryz.lays110_ren := {
  mixed := by kernel_rfl
  f109 := Tryz.func52.trans (congrArg some (by kernel_rfl))
  f110 := Tryz.func42.trans (congrArg some (by kernel_rfl))
  t0 := Tryz.underlying0
  a0 := Tryz.isAgg0
  z0 := Tryz.sizeOf0
  v0 := Tryz.zeroValue0
  t3 := Tryz.underlying3
  a3 := Tryz.isAgg3
  z3 := Tryz.sizeOf3
  v3 := Tryz.zeroValue3
  t4 := Tryz.underlying4
  a4 := Tryz.isAgg4
  z4 := Tryz.sizeOf4
  v4 := Tryz.zeroValue4
  t9 := Tryz.underlying9
  a9 := Tryz.isAgg9
  z9 := Tryz.sizeOf9
  v9 := Tryz.zeroValue9
  t31 := Tryz.underlying42
  a31 := Tryz.isAgg42
  z31 := Tryz.sizeOf42
  v31 := Tryz.zeroValue42 }
open Go.Lib in
theorem Tryz.slices_Contains_string (b off n c : Nat) (zs : List ByteArray) (x : ByteArray) (w : World) (hz : n ≤ zs.length) (hbig : n ≤ 9223372036854775807) (hc : ∀ j, j < zs.length → w.cell? ⟨b, off + j, none⟩ = some (.string (zs.getD j ByteArray.empty))) :
    Calls Tryz.prog 42 #[.slice (some ⟨b, off, none⟩) n c, .string x] w fun e w' => e = .returned (.bool (Lib.containsS (zs.take n) x)) ∧ w' = w := Any.slices_Contains_string Tryz.lays110 b off n c zs x w hz hbig hc
open Go.Lib in
theorem Tryz.slices_Contains_string_empty (a : Option Addr) (c : Nat) (x : ByteArray) (w : World) :
    Calls Tryz.prog 42 #[.slice a 0 c, .string x] w fun e w' => e = .returned (.bool false) ∧ w' = w := Any.slices_Contains_string_empty Tryz.lays110 a c x w
def Tryz.lays193_ren : Go.Shelf.Ren := ⟨fun | 193 => 88 | n => n, fun | 31 => 42 | 9 => 9 | 4 => 4 | 3 => 3 | 0 => 0 | n => n, fun | n => n⟩
theorem Tryz.lays193 : Go.Proofs.Lays.n193 Tryz.prog Tryz.lays193_ren := {
  mixed := by kernel_rfl
  f193 := Tryz.func88.trans (congrArg some (by kernel_rfl))
  t0 := Tryz.underlying0
  a0 := Tryz.isAgg0
  z0 := Tryz.sizeOf0
  v0 := Tryz.zeroValue0
  t3 := Tryz.underlying3
  a3 := Tryz.isAgg3
  z3 := Tryz.sizeOf3
  v3 := Tryz.zeroValue3
  t4 := Tryz.underlying4
  a4 := Tryz.isAgg4
  z4 := Tryz.sizeOf4
  v4 := Tryz.zeroValue4
  t9 := Tryz.underlying9
  a9 := Tryz.isAgg9
  z9 := Tryz.sizeOf9
  v9 := Tryz.zeroValue9
  t31 := Tryz.underlying42
  a31 := Tryz.isAgg42
  z31 := Tryz.sizeOf42
  v31 := Tryz.zeroValue42 }
open Go.RowKit Go.Lib in
theorem Tryz.slices_Equal_string (b1 o1 n c b2 o2 m d : Nat) (xs ys : List ByteArray) (w : World) (hx : n ≤ xs.length) (hy : m ≤ ys.length) (hbig : n ≤ 9223372036854775807) (hbig2 : m ≤ 9223372036854775807) (hc1 : ∀ j, j < xs.length → w.cell? ⟨b1, o1 + j, none⟩ = some (.string (xs.getD j ByteArray.empty))) (hc2 : ∀ j, j < ys.length → w.cell? ⟨b2, o2 + j, none⟩ = some (.string (ys.getD j ByteArray.empty))) :
    Calls Tryz.prog 88 #[.slice (some ⟨b1, o1, none⟩) n c, .slice (some ⟨b2, o2, none⟩) m d] w fun e w' => e = .returned (.bool (decide (xs.take n = ys.take m))) ∧ ∃ q, w' = w.drewN q := Any.slices_Equal_string Tryz.lays193 b1 o1 n c b2 o2 m d xs ys w hx hy hbig hbig2 hc1 hc2
open Go.RowKit Go.Lib in
theorem Tryz.slices_Equal_string_empty (a1 a2 : Option Addr) (c m d : Nat) (w : World) (hbig2 : m ≤ 9223372036854775807) :
    Calls Tryz.prog 88 #[.slice a1 0 c, .slice a2 m d] w fun e w' => e = .returned (.bool (decide (m = 0))) ∧ w' = w := Any.slices_Equal_string_empty Tryz.lays193 a1 a2 c m d w hbig2
open Go.RowKit Go.Sort in
theorem Tryz.slices_Sort_string_none (p : Option Addr) (cap : Nat) (w : World) :
    Calls Tryz.prog 43 #[.slice p 0 cap] w fun e w' => e = .returned (.tuple #[]) ∧ w' = w := Any.slices_Sort_string_none Tryz.lays190 p cap w
open Go.RowKit Go.Lib in
theorem Tryz.slices_Equal_string_lens (a1 a2 : Option Addr) (n c m d : Nat) (w : World) (hnm : n ≠ m) :
    Calls Tryz.prog 88 #[.slice a1 n c, .slice a2 m d] w fun e w' => e = .returned (.bool false) ∧ w' = w := Any.slices_Equal_string_lens Tryz.lays193 a1 a2 n c m d w hnm
end Go.Proofs
end

section
section
namespace Go.Proofs.YtjijijjkkhpjnaaGreatDoor
open Go.RowKit Pl
namespace A1
/-- A value holds these strings. -/
def StrsV (w : World) (v : Value) (xs : List Bs) : Prop :=
  (xs = [] ∧ (v = .slice none 0 0 ∨ ∃ a c, v = .slice (some a) 0 c)) ∨ ∃ b o c : Nat, v = .slice (some ⟨b, o, none⟩) xs.length c ∧ xs.length ≤ c ∧ b < w.heap.size ∧ CellsAt w b o xs
theorem StrsV.below {w w' : World} {v : Value} {xs : List Bs} (h : StrsV w v xs) (hb : Below w.heap.size w w') : StrsV w' v xs := by
  rcases h with h | ⟨b, o, c, h1, h2, h3, h4⟩
  · exact .inl h
  · exact .inr ⟨b, o, c, h1, h2, Nat.lt_of_lt_of_le h3 hb.size, h4.below hb h3⟩
theorem StrsV.drewN {w : World} {v : Value} {xs : List Bs} (h : StrsV w v xs) (q : Nat) : StrsV (w.drewN q) v xs :=
  h.below (below_drewN (Below.refl _ _) q)
theorem CellsAt.one {w : World} {b o k : Nat} {xs : List Bs} (h : CellsAt w b o xs) (hk : k < xs.length) : w.cell? ⟨b, o + k, none⟩ = some (.string ⟨(xs[k]).toArray⟩) := h k xs[k] (by simp [hk])
theorem StrsV.form {w : World} {v : Value} {xs : List Bs} (h : StrsV w v xs) : ∃ a c, v = .slice a xs.length c := by
  rcases h with ⟨rfl, rfl | ⟨a, c, rfl⟩⟩ | ⟨b, o, c, rfl, _⟩
  · exact ⟨_, _, rfl⟩
  · exact ⟨_, _, rfl⟩
  · exact ⟨_, _, rfl⟩
end A1
end Go.Proofs.YtjijijjkkhpjnaaGreatDoor
end

section
namespace Go.Proofs.YtjijijjkkhpjnaaGreatDoor
open Go.RowKit Pl
namespace A1

theorem bsOf_inj {a b : Bs} (h : (⟨a.toArray⟩ : ByteArray) = ⟨b.toArray⟩) : a = b := by
  have := congrArg (fun x : ByteArray => x.data.toList) h
  simpa using this
theorem mem_bytes (xs : List Bs) (x : Bs) : (⟨x.toArray⟩ : ByteArray) ∈ xs.map (fun y : Bs => (⟨y.toArray⟩ : ByteArray)) ↔ x ∈ xs := by
  constructor
  · intro h
    obtain ⟨y, hy, e⟩ := List.mem_map.1 h
    rw [← bsOf_inj e]; exact hy
  · exact fun h => List.mem_map.2 ⟨x, h, rfl⟩
theorem map_bytes_inj : ∀ {xs ys : List Bs}, xs.map (fun y : Bs => (⟨y.toArray⟩ : ByteArray)) = ys.map (fun y : Bs => (⟨y.toArray⟩ : ByteArray)) → xs = ys
  | [], [], _ => rfl
  | [], _ :: _, h => by simp at h
  | _ :: _, [], h => by simp at h
  | x :: xs, y :: ys, h => by
    simp only [List.map_cons, List.cons.injEq] at h
    rw [bsOf_inj h.1, map_bytes_inj h.2]
theorem cells_bytes {w : World} {b o : Nat} {xs : List Bs} (h : CellsAt w b o xs) : ∀ j, j < (xs.map fun y : Bs => (⟨y.toArray⟩ : ByteArray)).length → w.cell? ⟨b, o + j, none⟩ = some (.string ((xs.map fun y : Bs => (⟨y.toArray⟩ : ByteArray)).getD j ByteArray.empty)) := by
  intro j hj
  rw [List.length_map] at hj
  rw [h j xs[j] (by simp [hj])]
  simp [List.getD, hj]

theorem contains_any (v : Value) (xs : List Bs) (x : Bs) (w : World) (hv : StrsV w v xs) (hn : xs.length ≤ 9223372036854775807) :
    Calls Tryz.prog 42 #[v, .string ⟨x.toArray⟩] w fun e w' => e = .returned (.bool (decide (x ∈ xs))) ∧ w = w' := by
  obtain ⟨a0, c0, hv0⟩ := hv.form
  rcases hv with ⟨rfl, _⟩ | ⟨b, o, c, rfl, _, _, hc⟩
  · subst hv0
    exact (Tryz.slices_Contains_string_empty a0 c0 ⟨x.toArray⟩ w).mono fun e w' h => ⟨by rw [h.1]; simp, h.2.symm⟩
  · refine (Tryz.slices_Contains_string b o xs.length c (xs.map fun y : Bs => (⟨y.toArray⟩ : ByteArray)) ⟨x.toArray⟩ w (by simp) hn (cells_bytes hc)).mono fun e w' h => ⟨?_, h.2.symm⟩
    rw [h.1, List.take_of_length_le (by simp)]
    congr 2
    rw [Bool.eq_iff_iff, Lib.containsS_iff, mem_bytes, decide_eq_true_eq]

theorem equal_any (v u : Value) (xs ys : List Bs) (w : World) (hv : StrsV w v xs) (hu : StrsV w u ys) (hx : xs.length ≤ 9223372036854775807) (hy : ys.length ≤ 9223372036854775807) :
    Calls Tryz.prog 88 #[v, u] w fun e w' => e = .returned (.bool (decide (xs = ys))) ∧ Below w.heap.size w w' := by
  by_cases hl : xs.length = ys.length
  · obtain ⟨a0, c0, hv0⟩ := hv.form
    rcases hv with ⟨rfl, _⟩ | ⟨b, o, c, rfl, _, _, hc⟩
    · have : ys = [] := List.eq_nil_of_length_eq_zero hl.symm
      subst this
      subst hv0
      obtain ⟨a2, c2, rfl⟩ := hu.form
      exact (Tryz.slices_Equal_string_empty a0 a2 c0 0 c2 w (by omega)).mono fun e w' h => ⟨by rw [h.1]; simp, h.2 ▸ Below.refl _ _⟩
    · obtain ⟨a2', c2', hu0⟩ := hu.form
      rcases hu with ⟨rfl, _⟩ | ⟨b2, o2, c2, rfl, _, _, hc2⟩
      · have : xs = [] := List.eq_nil_of_length_eq_zero hl
        subst this
        subst hu0
        exact (Tryz.slices_Equal_string_empty (some ⟨b, o, none⟩) a2' c 0 c2' w (by omega)).mono fun e w' h => ⟨by rw [h.1]; simp, h.2 ▸ Below.refl _ _⟩
      · refine (Tryz.slices_Equal_string b o xs.length c b2 o2 ys.length c2 (xs.map fun y : Bs => (⟨y.toArray⟩ : ByteArray)) (ys.map fun y : Bs => (⟨y.toArray⟩ : ByteArray)) w (by simp) (by simp) hx hy (cells_bytes hc) (cells_bytes hc2)).mono fun e w' h => ⟨?_, ?_⟩
        · rw [h.1, List.take_of_length_le (by simp), List.take_of_length_le (by simp)]
          congr 2
          rw [decide_eq_decide]
          exact ⟨map_bytes_inj, fun e => by rw [e]⟩
        · obtain ⟨q, rfl⟩ := h.2
          exact below_drewN (Below.refl _ _) q
  · obtain ⟨a1, c1, rfl⟩ := hv.form
    obtain ⟨a2, c2, rfl⟩ := hu.form
    exact (Tryz.slices_Equal_string_lens a1 a2 xs.length c1 ys.length c2 w hl).mono fun e w' h => ⟨by rw [h.1, decide_eq_false (fun e => hl (by rw [e]))], h.2 ▸ Below.refl _ _⟩

/-- The row of a sort: the same cells, in order. -/
theorem sort_any (B : Nat) (v : Value) (xs : List Bs) (w : World) (hown : OwnWin w B 9 1 v xs.length (svals xs)) (hn : xs.length < 4611686018427387904) :
    Calls Tryz.prog 43 #[v] w fun e w' => e = .returned (.tuple #[]) ∧ OwnWin w' B 9 1 v xs.length (svals (xs.mergeSort fun x y => decide (x ≤ y))) ∧ Touch (fun k => v.ownBlock = some k) w w' := by
  rcases Nat.eq_zero_or_pos xs.length with h0 | h0
  · have hx : xs = [] := List.eq_nil_of_length_eq_zero h0
    subst hx
    obtain ⟨a, c, rfl, _⟩ := hown.form
    exact (Tryz.slices_Sort_string_none a c w).mono fun e w' h => by
      obtain ⟨rfl, rfl⟩ := h
      exact ⟨rfl, by simpa using hown, Touch.refl _ _⟩
  · rcases hown.2 with ⟨_, h9⟩ | ⟨g, o, cap, cur, rfl, hb, hg, hnc, hm, hsz, htake⟩
    · omega
    · have hlt : g < w.heap.size := (Array.getElem?_eq_some_iff.1 hg).1
      have hH : Sort.Holds encStr w g o xs.toArray := by
        intro j hj
        simp only [List.size_toArray] at hj
        refine ⟨?_, ?_⟩
        · obtain ⟨g', o', c', e', _, _, _, _, hc⟩ := hown.cells h0
          cases e'
          rw [hc j (str xs[j]) (by simp [svals, hj])]
          simp [encStr, hj, str]
        · unfold World.frozen?
          rw [hg]
          simp
      refine (Tryz.slices_Sort_string g o cap xs w hH hlt hn).mono fun e w' h => ?_
      obtain ⟨rfl, n, os, rfl⟩ := h
      refine ⟨rfl, ⟨by simp [svals], .inr ⟨g, o, cap, Sort.putCells encStr o (xs.mergeSort fun x y => decide (x ≤ y)).toArray cur, rfl, hb, ?_, hnc, hm, ?_, ?_⟩⟩, ⟨rfl, rfl, rfl, by simp, ?_⟩⟩
      · rw [Sort.heap_grow_old _ _ (by simpa using hlt)]
        show ((Sort.ahead w n).heap.modify g _)[g]? = _
        rw [Array.getElem?_modify, if_pos rfl]
        show (w.heap[g]?).map _ = _
        rw [hg]; rfl
      · simpa [Sort.putCells] using hsz
      · apply List.ext_getElem?
        intro k
        rw [List.getElem?_take]
        have hsl : (xs.mergeSort fun x y => decide (x ≤ y)).length = xs.length := List.length_mergeSort _
        by_cases hk : k < xs.length
        · have hko : o + k < cur.size := by omega
          rw [if_pos (by omega), List.getElem?_drop]
          simp [Sort.putCells, hk, hko, svals, encStr, str, hsl]
        · rw [if_neg (by omega)]
          simp [svals, hsl, Nat.le_of_not_lt hk]
      · intro k hk hne
        rw [Sort.heap_grow_old _ _ (by simpa using hk)]
        show ((Sort.ahead w n).heap.modify g _)[k]? = _
        rw [Array.getElem?_modify, if_neg (fun e => hne (by simp [Value.ownBlock, e]))]
        rfl
end A1
end Go.Proofs.YtjijijjkkhpjnaaGreatDoor
end
end

section
namespace Go.Proofs.YtjijijjkkhpjnaaGreatDoor
open Go.RowKit Pl Ad
attribute [local go_sem] ba_get ba_append ba_extract
set_option maxRecDepth 100000
set_option maxHeartbeats 4000000
set_option linter.unusedVariables false
namespace A1

theorem strsV_own {w : World} {B : Nat} {v : Value} {xs : List Bs} (h : OwnWin w B 9 1 v xs.length (svals xs)) : StrsV w v xs := by
  rcases h.2 with ⟨h1, h2⟩ | ⟨g, o, cap, cur, rfl, hb, hg, hnc, _⟩
  · exact .inl ⟨List.eq_nil_of_length_eq_zero h2, .inl h1⟩
  · refine .inr ⟨g, o, cap, rfl, hnc, (Array.getElem?_eq_some_iff.1 hg).1, fun k x hx => ?_⟩
    have hk : k < xs.length := (List.getElem?_eq_some_iff.1 hx).1
    obtain ⟨g', o', c', e', _, _, _, _, hc⟩ := h.cells (by omega)
    cases e'
    exact hc k (str x) (by simp [svals, hx])

/-- What Clean returns. -/
def CleanR (s : Bs) (w : World) (e : Ending) (w' : World) : Prop := Below w.heap.size w w' ∧
  ((e = .returned (.tuple #[.slice none 0 0, .iface 108 (.int .i64 2)]) ∧ goodB s = false) ∨
   ∃ v xs, e = .returned (.tuple #[v, .nilIface]) ∧ StrsV w' v xs ∧ xs.length ≤ 16 ∧ (∀ x ∈ xs, goodB x = true) ∧ (goodB s = true → xs = [s]))

theorem byteF {c m : UInt8} (h : ¬ c = m) : ((c.toNat : Int) == (m.toNat : Int)) = false := beq_eq_false_iff_ne.2 (fun e => h (UInt8.toNat_inj.1 (by omega)))
theorem good_at {s : Bs} {k : Nat} (hk : k < s.length) (h : goodB s = true) : ¬ s[k] = 32 ∧ ¬ s[k] = 9 :=
  ⟨fun e => goodB_noblank h (e ▸ List.getElem_mem hk), fun e => goodB_notab h (e ▸ List.getElem_mem hk)⟩
theorem mid_all (s : Bs) (j : Nat) (h0 : j = s.length) : (s.drop 0).take (j - 0) = s := by subst h0; simp

theorem clean_any (s : Bs) (w : World) (hl : s.length ≤ 2147483648) :
    Calls Tryz.prog 18 #[.string ⟨s.toArray⟩] w (CleanR s w) := by
  go_enter Tryz.func18, Tryz.ntmps18
  go_wp2
  go_loopw [4, 5] (fun v i wr => ∃ (u : Value) (k : Nat) (xs : List Bs), u = v ∧ k ≤ s.length ∧ i = .int .i64 k ∧ OwnWin wr w.heap.size 9 1 u xs.length (svals xs) ∧ xs.length ≤ 16 ∧ Below w.heap.size w wr ∧ Hid (∀ x ∈ xs, goodB x = true) ∧ Hid (goodB s = true → (k = 0 ∧ xs = []) ∨ (k = s.length ∧ xs = [s]))) (fun _ i _ => s.length - (intOf i).toNat)
  case atStart => exact ⟨_, 0, [], rfl, Nat.zero_le _, rfl, OwnWin.nil _ _ _ _, by simp, Below.refl _ _, fun x hx => by simp at hx, fun _ => .inl ⟨rfl, rfl⟩⟩
  case round =>
    obtain ⟨v, k, xs, rfl, hk, rfl, hown, hxl, hb, HG, HS⟩ := hrel
    obtain ⟨a0, c0, rfl, _⟩ := hown.form
    have hz := hb.size
    by_cases hlt : k < s.length
    · by_cases hbl : s[k] = 32 ∨ s[k] = 9
      · have HN := Lib.hid (show goodB s = true → False from fun h => by
          rcases hbl with h9 | h9
          · exact (good_at hlt h).1 h9
          · exact (good_at hlt h).2 h9)
        rcases hbl with h9 | h9
        · have h32 : ((s[k].toNat : Int) == 32) = true := by rw [h9]; rfl
          clear h9
          go_wp2_with fail
          go_roundw
          case rel => exact ⟨_, k + 1, xs, rfl, by omega, by go_num, hown, hxl, hb, HG, fun h => (HN.out h).elim⟩
          case measure => simp [intOf]; omega
        · have h32 : ((s[k].toNat : Int) == 32) = false := by rw [h9]; rfl
          have h09 : ((s[k].toNat : Int) == 9) = true := by rw [h9]; rfl
          clear h9
          go_wp2_with fail
          go_roundw
          case rel => exact ⟨_, k + 1, xs, rfl, by omega, by go_num, hown, hxl, hb, HG, fun h => (HN.out h).elim⟩
          case measure => simp [intOf]; omega
      · have HNB := Lib.hid hbl
        have h32 : ((s[k].toNat : Int) == 32) = false := byteF fun e => hbl (.inl e)
        have h09 : ((s[k].toNat : Int) == 9) = false := byteF fun e => hbl (.inr e)
        clear hbl
        go_wp2_with fail
        go_loop [6] (fun i => ∃ j : Nat, k ≤ j ∧ j ≤ s.length ∧ i = .int .i64 j) (fun i => s.length - (intOf i).toNat)
        case atStart => exact ⟨k, Nat.le_refl _, by omega, rfl⟩
        case round =>
          obtain ⟨j, hkj, hj, rfl⟩ := hrel
          clear h32 h09
          by_cases hgo : ∃ h : j < s.length, ¬ (s[j] = 32 ∨ s[j] = 9)
          · obtain ⟨hjl, hnb⟩ := hgo
            have h32 : ((s[j].toNat : Int) == 32) = false := byteF fun e => hnb (.inl e)
            have h09 : ((s[j].toNat : Int) == 9) = false := byteF fun e => hnb (.inr e)
            have h32' : ((s[j].toNat : Int) != 32) = true := by rw [bne, h32]; rfl
            have h09' : ((s[j].toNat : Int) != 9) = true := by rw [bne, h09]; rfl
            clear hnb
            go_wp2_with fail
            go_round
            case rel => exact ⟨j + 1, by omega, by omega, by go_num⟩
            case measure => simp [intOf]; omega
          · have hkj2 : k < j := by
              rcases Nat.lt_or_ge k j with h | h
              · exact h
              · exfalso
                obtain rfl : j = k := by omega
                exact hgo ⟨hlt, HNB.out⟩
            have HEND := Lib.hid (show goodB s = true → j = s.length from fun h => by
              rcases Nat.lt_or_ge j s.length with h1 | h1
              · exfalso
                exact hgo ⟨h1, fun h2 => by
                  rcases h2 with h2 | h2
                  · exact (good_at h1 h).1 h2
                  · exact (good_at h1 h).2 h2⟩
              · omega)
            have HST := Lib.hid (show j = s.length ∨ ∃ h : j < s.length, (s[j] = 32 ∨ s[j] = 9) by
              by_cases h1 : j < s.length
              · by_cases h2 : s[j] = 32 ∨ s[j] = 9
                · exact .inr ⟨h1, h2⟩
                · exact absurd ⟨h1, h2⟩ hgo
              · exact .inl (by omega))
            clear hgo
            have HW := Lib.hid (show goodB s = true → k = 0 ∧ xs = [] from fun h => by
              rcases HS.out h with h1 | h1
              · exact h1
              · omega)
            have hwl : ((s.drop k).take (j - k)).length ≤ 2147483648 := by rw [List.length_take, List.length_drop]; omega
            have HWD := Lib.hid (show goodB s = true → (s.drop k).take (j - k) = s from fun h => by
              obtain ⟨rfl, _⟩ := HW.out h
              exact mid_all s j (HEND.out h))
            generalize hwd : (s.drop k).take (j - k) = word at hwl HWD
            rcases HST.out with h1 | ⟨h1, h2⟩
            · have hj2 : ¬ j < s.length := by omega
              clear h1
              cases hg : goodB word with
              | false =>
                have HGW := Lib.hid hg
                have HNG := Lib.hid (show goodB s = false from by rw [Bool.eq_false_iff]; intro h; rw [HWD.out h, h] at hg; cases hg)
                clear hg
                skip
                go_wp2_with (first | (go_at_call 41; refine (good_any word _ hwl).mono ?_; rintro e w2 ⟨rfl, rfl⟩; rw [HGW.out]))
                go_ret2
                exact ⟨hb, .inl ⟨rfl, HNG.out⟩⟩
              | true =>
                have HGW := Lib.hid hg
                clear hg
                have HSV := Lib.hid (strsV_own hown)
                by_cases h16 : xs.length < 16
                · by_cases hm : word ∈ xs
                  · have HMEM := Lib.hid (decide_eq_true hm)
                    have HNG := Lib.hid (show goodB s = true → False from fun h => by obtain ⟨_, hx⟩ := HW.out h; rw [hx] at hm; cases hm)
                    clear hm
                    skip
                    go_wp2_with (first | (go_at_call 41; refine (good_any word _ hwl).mono ?_; rintro e w2 ⟨rfl, rfl⟩; rw [HGW.out]) | (go_at_call 42; refine (contains_any _ xs word _ HSV.out (by omega)).mono ?_; rintro e w2 ⟨rfl, rfl⟩; rw [HMEM.out]))
                    go_roundw
                    case rel => exact ⟨_, j, xs, rfl, by omega, rfl, hown, hxl, hb, HG, fun h => (HNG.out h).elim⟩
                    case measure => simp [intOf]; omega
                  · have HMEM := Lib.hid (decide_eq_false hm)
                    clear hm
                    skip
                    go_wp2_with (first | (go_at_call 41; refine (good_any word _ hwl).mono ?_; rintro e w2 ⟨rfl, rfl⟩; rw [HGW.out]) | (go_at_call 42; refine (contains_any _ xs word _ HSV.out (by omega)).mono ?_; rintro e w2 ⟨rfl, rfl⟩; rw [HMEM.out]) | (at_builtin; refine wpList_appw tyStrs rfl _ _ rfl w.heap.size (.slice a0 xs.length c0) xs.length (svals xs) rfl (hown.alloc _) (by simp; omega) (.slice (some ⟨wr.heap.size, 0, none⟩) 1 1) 1 [str word] rfl (SrcAt.one (heap_alloc_new wr _)) rfl (by simp [Value.oneCell']) (by omega) ?_; intro v' w' hown' hgrow' hlies'))
                    go_roundw
                    case rel => exact ⟨_, j, xs ++ [word], rfl, by omega, rfl, by rw [List.length_append, ← svals_append]; exact hown', by simp; omega, (hb.alloc (by omega) _).grown hgrow' (by simp; omega) (fun q hq => (hown.lt q hq).1), fun x hx => by rcases List.mem_append.1 hx with hx | hx; exact HG.out x hx; rw [List.mem_singleton.1 hx]; exact HGW.out, fun h => .inr ⟨HEND.out h, by rw [(HW.out h).2, HWD.out h]; rfl⟩⟩
                    case measure => simp [intOf]; omega
                · have HNG := Lib.hid (show goodB s = true → False from fun h => by obtain ⟨_, hx⟩ := HW.out h; rw [hx] at h16; simp at h16)
                  skip
                  go_wp2_with (first | (go_at_call 41; refine (good_any word _ hwl).mono ?_; rintro e w2 ⟨rfl, rfl⟩; rw [HGW.out]) | (go_at_call 42; refine (contains_any _ xs word _ HSV.out (by omega)).mono ?_; rintro e w2 ⟨rfl, rfl⟩; rw [HMEM.out]))
                  go_roundw
                  case rel => exact ⟨_, j, xs, rfl, by omega, rfl, hown, hxl, hb, HG, fun h => (HNG.out h).elim⟩
                  case measure => simp [intOf]; omega
            · rcases h2 with h2 | h2
              · have h32 : ((s[j].toNat : Int) == 32) = true := by rw [h2]; rfl
                have h32' : ((s[j].toNat : Int) != 32) = false := by rw [bne, h32]; rfl
                clear h2
                cases hg : goodB word with
                | false =>
                  have HGW := Lib.hid hg
                  have HNG := Lib.hid (show goodB s = false from by rw [Bool.eq_false_iff]; intro h; rw [HWD.out h, h] at hg; cases hg)
                  clear hg
                  skip
                  go_wp2_with (first | (go_at_call 41; refine (good_any word _ hwl).mono ?_; rintro e w2 ⟨rfl, rfl⟩; rw [HGW.out]))
                  go_ret2
                  exact ⟨hb, .inl ⟨rfl, HNG.out⟩⟩
                | true =>
                  have HGW := Lib.hid hg
                  clear hg
                  have HSV := Lib.hid (strsV_own hown)
                  by_cases h16 : xs.length < 16
                  · by_cases hm : word ∈ xs
                    · have HMEM := Lib.hid (decide_eq_true hm)
                      have HNG := Lib.hid (show goodB s = true → False from fun h => by obtain ⟨_, hx⟩ := HW.out h; rw [hx] at hm; cases hm)
                      clear hm
                      skip
                      go_wp2_with (first | (go_at_call 41; refine (good_any word _ hwl).mono ?_; rintro e w2 ⟨rfl, rfl⟩; rw [HGW.out]) | (go_at_call 42; refine (contains_any _ xs word _ HSV.out (by omega)).mono ?_; rintro e w2 ⟨rfl, rfl⟩; rw [HMEM.out]))
                      go_roundw
                      case rel => exact ⟨_, j, xs, rfl, by omega, rfl, hown, hxl, hb, HG, fun h => (HNG.out h).elim⟩
                      case measure => simp [intOf]; omega
                    · have HMEM := Lib.hid (decide_eq_false hm)
                      clear hm
                      skip
                      go_wp2_with (first | (go_at_call 41; refine (good_any word _ hwl).mono ?_; rintro e w2 ⟨rfl, rfl⟩; rw [HGW.out]) | (go_at_call 42; refine (contains_any _ xs word _ HSV.out (by omega)).mono ?_; rintro e w2 ⟨rfl, rfl⟩; rw [HMEM.out]) | (at_builtin; refine wpList_appw tyStrs rfl _ _ rfl w.heap.size (.slice a0 xs.length c0) xs.length (svals xs) rfl (hown.alloc _) (by simp; omega) (.slice (some ⟨wr.heap.size, 0, none⟩) 1 1) 1 [str word] rfl (SrcAt.one (heap_alloc_new wr _)) rfl (by simp [Value.oneCell']) (by omega) ?_; intro v' w' hown' hgrow' hlies'))
                      go_roundw
                      case rel => exact ⟨_, j, xs ++ [word], rfl, by omega, rfl, by rw [List.length_append, ← svals_append]; exact hown', by simp; omega, (hb.alloc (by omega) _).grown hgrow' (by simp; omega) (fun q hq => (hown.lt q hq).1), fun x hx => by rcases List.mem_append.1 hx with hx | hx; exact HG.out x hx; rw [List.mem_singleton.1 hx]; exact HGW.out, fun h => .inr ⟨HEND.out h, by rw [(HW.out h).2, HWD.out h]; rfl⟩⟩
                      case measure => simp [intOf]; omega
                  · have HNG := Lib.hid (show goodB s = true → False from fun h => by obtain ⟨_, hx⟩ := HW.out h; rw [hx] at h16; simp at h16)
                    skip
                    go_wp2_with (first | (go_at_call 41; refine (good_any word _ hwl).mono ?_; rintro e w2 ⟨rfl, rfl⟩; rw [HGW.out]) | (go_at_call 42; refine (contains_any _ xs word _ HSV.out (by omega)).mono ?_; rintro e w2 ⟨rfl, rfl⟩; rw [HMEM.out]))
                    go_roundw
                    case rel => exact ⟨_, j, xs, rfl, by omega, rfl, hown, hxl, hb, HG, fun h => (HNG.out h).elim⟩
                    case measure => simp [intOf]; omega
              · have h32 : ((s[j].toNat : Int) == 32) = false := by rw [h2]; rfl
                have h32' : ((s[j].toNat : Int) != 32) = true := by rw [bne, h32]; rfl
                have h09 : ((s[j].toNat : Int) == 9) = true := by rw [h2]; rfl
                have h09' : ((s[j].toNat : Int) != 9) = false := by rw [bne, h09]; rfl
                clear h2
                cases hg : goodB word with
                | false =>
                  have HGW := Lib.hid hg
                  have HNG := Lib.hid (show goodB s = false from by rw [Bool.eq_false_iff]; intro h; rw [HWD.out h, h] at hg; cases hg)
                  clear hg
                  skip
                  go_wp2_with (first | (go_at_call 41; refine (good_any word _ hwl).mono ?_; rintro e w2 ⟨rfl, rfl⟩; rw [HGW.out]))
                  go_ret2
                  exact ⟨hb, .inl ⟨rfl, HNG.out⟩⟩
                | true =>
                  have HGW := Lib.hid hg
                  clear hg
                  have HSV := Lib.hid (strsV_own hown)
                  by_cases h16 : xs.length < 16
                  · by_cases hm : word ∈ xs
                    · have HMEM := Lib.hid (decide_eq_true hm)
                      have HNG := Lib.hid (show goodB s = true → False from fun h => by obtain ⟨_, hx⟩ := HW.out h; rw [hx] at hm; cases hm)
                      clear hm
                      skip
                      go_wp2_with (first | (go_at_call 41; refine (good_any word _ hwl).mono ?_; rintro e w2 ⟨rfl, rfl⟩; rw [HGW.out]) | (go_at_call 42; refine (contains_any _ xs word _ HSV.out (by omega)).mono ?_; rintro e w2 ⟨rfl, rfl⟩; rw [HMEM.out]))
                      go_roundw
                      case rel => exact ⟨_, j, xs, rfl, by omega, rfl, hown, hxl, hb, HG, fun h => (HNG.out h).elim⟩
                      case measure => simp [intOf]; omega
                    · have HMEM := Lib.hid (decide_eq_false hm)
                      clear hm
                      skip
                      go_wp2_with (first | (go_at_call 41; refine (good_any word _ hwl).mono ?_; rintro e w2 ⟨rfl, rfl⟩; rw [HGW.out]) | (go_at_call 42; refine (contains_any _ xs word _ HSV.out (by omega)).mono ?_; rintro e w2 ⟨rfl, rfl⟩; rw [HMEM.out]) | (at_builtin; refine wpList_appw tyStrs rfl _ _ rfl w.heap.size (.slice a0 xs.length c0) xs.length (svals xs) rfl (hown.alloc _) (by simp; omega) (.slice (some ⟨wr.heap.size, 0, none⟩) 1 1) 1 [str word] rfl (SrcAt.one (heap_alloc_new wr _)) rfl (by simp [Value.oneCell']) (by omega) ?_; intro v' w' hown' hgrow' hlies'))
                      go_roundw
                      case rel => exact ⟨_, j, xs ++ [word], rfl, by omega, rfl, by rw [List.length_append, ← svals_append]; exact hown', by simp; omega, (hb.alloc (by omega) _).grown hgrow' (by simp; omega) (fun q hq => (hown.lt q hq).1), fun x hx => by rcases List.mem_append.1 hx with hx | hx; exact HG.out x hx; rw [List.mem_singleton.1 hx]; exact HGW.out, fun h => .inr ⟨HEND.out h, by rw [(HW.out h).2, HWD.out h]; rfl⟩⟩
                      case measure => simp [intOf]; omega
                  · have HNG := Lib.hid (show goodB s = true → False from fun h => by obtain ⟨_, hx⟩ := HW.out h; rw [hx] at h16; simp at h16)
                    skip
                    go_wp2_with (first | (go_at_call 41; refine (good_any word _ hwl).mono ?_; rintro e w2 ⟨rfl, rfl⟩; rw [HGW.out]) | (go_at_call 42; refine (contains_any _ xs word _ HSV.out (by omega)).mono ?_; rintro e w2 ⟨rfl, rfl⟩; rw [HMEM.out]))
                    go_roundw
                    case rel => exact ⟨_, j, xs, rfl, by omega, rfl, hown, hxl, hb, HG, fun h => (HNG.out h).elim⟩
                    case measure => simp [intOf]; omega
    · have HF := Lib.hid (show goodB s = true → xs = [s] from fun h => by
        rcases HS.out h with h1 | h1
        · have := goodB_lens h; omega
        · exact h1.2)
      have hsl : (xs.mergeSort fun x y => decide (x ≤ y)).length = xs.length := List.length_mergeSort _
      have HSL := Lib.hid hsl
      clear hsl
      go_wp2_with fail
      refine (sort_any w.heap.size _ xs wr hown (by omega)).mono ?_
      rintro e w2 ⟨rfl, hown2, ht2⟩
      have HB2 := Lib.hid (hb.trans (ht2.below (B := w.heap.size) hz (fun q hq => (hown.lt q hq).1)))
      have HO2 := Lib.hid (show OwnWin w2 w.heap.size 9 1 (.slice a0 xs.length c0) (xs.mergeSort fun x y => decide (x ≤ y)).length (svals (xs.mergeSort fun x y => decide (x ≤ y))) by rw [HSL.out]; exact hown2)
      clear ht2 hown2
      go_wp2_with fail
      go_ret2
      refine ⟨HB2.out, .inr ⟨_, xs.mergeSort fun x y => decide (x ≤ y), rfl, strsV_own HO2.out, by rw [HSL.out]; exact hxl, fun x hx => HG.out x (List.mem_mergeSort.1 hx), fun h => by rw [HF.out h]; simp⟩⟩
end A1
end Go.Proofs.YtjijijjkkhpjnaaGreatDoor
end

