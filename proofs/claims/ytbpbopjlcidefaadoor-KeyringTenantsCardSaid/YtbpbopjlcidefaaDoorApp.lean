/- Appending to a slice of the call's own, in one law for every element type; string(b) of such a slice of bytes. Conditions: at most 2^40 elements of at most 64 bytes. -/
import Derived.Test.YtbpbopjlcidefaaDoorLib
import Derived.Laws.IdiomStrings
import Derived.Lib.BufferRead
namespace Go.Proofs.YtbpbopjlcidefaaDoor
open Go.RowKit

/-- What a slice type's tables say. -/
structure SliceTy (P : Program) (T e : TypeId) (size bytes : Nat) : Prop where
  under : P.underlying T = some (.slice e)
  info : ∃ i z, P.info? e = some i ∧ i.zero = some z ∧ i.size = size ∧ i.bytes = bytes ∧ z.cells.size = size
  pos : 0 < size
  small : bytes ≤ 64

/-- A new block is a slice's whole memory. -/
def BlockIs (w : World) (g : Nat) (e : TypeId) (C : List Value) : Prop := ∃ fr, w.heap[g]? = some (.cells C.toArray e fr)

section
variable {P : Program} {T e : TypeId} {size bytes : Nat} (ty : SliceTy P T e size bytes)
include ty

theorem wp_app {o : Oper} {a : Act} {w : World} {K : Act → World → Prop} {Q : Exit → Act → World → Prop} (s x : Operand)
    (ho : o.op = .call { callee := .builtin .append, args := #[s, x], argTypes := #[T, T] })
    (W : World) (B B0 : Nat) (v : Value) (n : Nat) (xs : List Value) (hs : a.eval s = v) (hown : w.ownsRow B e size v n xs) (hb : Below B0 W w) (hB : B ≤ w.heap.size) (hBB : B0 ≤ B)
    (g m c : Nat) (C : List Value) (hx : a.eval x = .slice (some ⟨g, 0, none⟩) m c) (hC : BlockIs w g e C) (hl : C.length = m * size) (h1 : ∀ u ∈ C, u.oneCell' = true)
    (hn : n + m ≤ 1099511627776)
    (h : ∀ v' w', w'.ownsRow B e size v' (n + m) (xs ++ C) → Below B0 W w' → w.grownBy w' v.ownBlock → K (a.put o.dst v') w') : o.wp P a w K Q := by
  obtain ⟨i, z, hi, hz, hsize, hby, hzs⟩ := ty.info
  obtain ⟨fr, hC⟩ := hC
  have hsm := ty.small
  refine wp_append_own w s x T ho B e i z size bytes ty.under hi hz hsize hby hzs ty.pos v n xs hs hown ⟨g, 0, none⟩ m c C hx hl (fun j u hu => ?_) h1 (by unfold maxLen; omega) ?_ hB (fun v' w' h2 h3 _ => h v' w' h2 (hb.trans ?_) h3)
  · have hadd : (⟨g, 0, none⟩ : Addr).add j = ⟨g, j, none⟩ := by unfold Addr.add; split <;> simp_all
    rw [hadd, cell_of_row w g j C.toArray e fr hC]
    simpa using hu
  · calc (n + m) * bytes ≤ 1099511627776 * 64 := Nat.mul_le_mul hn hsm
      _ ≤ 140737488355328 := by decide
  · exact (Below.refl B0 w).grown h3 (by omega) (fun k hk => by have := (hown.lt k hk).1; omega)

theorem wpList_app {ops : Array Oper} {rest : List Oper} {o : Oper} {a : Act} {w : World} {Q : Exit → Act → World → Prop} (hg : o.guard = none) (s x : Operand)
    (ho : o.op = .call { callee := .builtin .append, args := #[s, x], argTypes := #[T, T] })
    (W : World) (B B0 : Nat) (v : Value) (n : Nat) (xs : List Value) (hs : a.eval s = v) (hown : w.ownsRow B e size v n xs) (hb : Below B0 W w) (hB : B ≤ w.heap.size) (hBB : B0 ≤ B)
    (g m c : Nat) (C : List Value) (hx : a.eval x = .slice (some ⟨g, 0, none⟩) m c) (hC : BlockIs w g e C) (hl : C.length = m * size) (h1 : ∀ u ∈ C, u.oneCell' = true)
    (hn : n + m ≤ 1099511627776)
    (h : ∀ v' w', w'.ownsRow B e size v' (n + m) (xs ++ C) → Below B0 W w' → w.grownBy w' v.ownBlock → wpList P ops Q rest (a.put o.dst v') w') : wpList P ops Q (o :: rest) a w :=
  wpList_plain hg fun _ hK => wp_app ty s x ho W B B0 v n xs hs hown hb hB hBB g m c C hx hC hl h1 hn fun v' w' h2 h3 h4 => hK _ _ (h v' w' h2 h3 h4)

theorem step_app {ops : Array Oper} {o : Oper} {a : Act} {w : World} {K : Act → World → Prop} {Q : Exit → Act → World → Prop} {E : Prop} (hgd : o.guard = none) (s x : Operand)
    (ho : o.op = .call { callee := .builtin .append, args := #[s, x], argTypes := #[T, T] })
    (W : World) (B B0 : Nat) (v : Value) (n : Nat) (xs : List Value) (hs : a.eval s = v) (hown : w.ownsRow B e size v n xs) (hb : Below B0 W w) (hB : B ≤ w.heap.size) (hBB : B0 ≤ B)
    (g m c : Nat) (C : List Value) (hx : a.eval x = .slice (some ⟨g, 0, none⟩) m c) (hC : BlockIs w g e C) (hl : C.length = m * size) (h1 : ∀ u ∈ C, u.oneCell' = true)
    (hn : n + m ≤ 1099511627776)
    (h : ∀ v' w', w'.ownsRow B e size v' (n + m) (xs ++ C) → Below B0 W w' → w.grownBy w' v.ownBlock → K (a.put o.dst v') w') :
    if Region.wanted o (yielded ops a.tmps) = true then Oper.wp P o a w K Q else E := by
  have hw : Region.wanted o (yielded ops a.tmps) = true := by simp [Region.wanted, hgd]
  rw [if_pos hw]
  exact wp_app ty s x ho W B B0 v n xs hs hown hb hB hBB g m c C hx hC hl h1 hn h
end

theorem blockIs_new (w : World) (C : List Value) (e : TypeId) : BlockIs (w.alloc (.cells C.toArray e)) w.heap.size e C := ⟨_, heap_alloc_new w _⟩

/-- The values of a list of bytes, of a list of strings. -/
def bvals (l : Bs) : List Value := l.map fun b => .int .u8 (b.toNat : Int)
def svals (l : List Bs) : List Value := l.map str

theorem bvals_len (l : Bs) : (bvals l).length = l.length := by simp [bvals]
theorem svals_len (l : List Bs) : (svals l).length = l.length := by simp [svals]
theorem bvals_append (a b : Bs) : bvals a ++ bvals b = bvals (a ++ b) := by simp [bvals]
theorem svals_append (a b : List Bs) : svals a ++ svals b = svals (a ++ b) := by simp [svals]
theorem bvals_one (l : Bs) : ∀ u ∈ bvals l, u.oneCell' = true := by
  intro u hu
  obtain ⟨_, _, rfl⟩ := List.mem_map.1 hu
  rfl
theorem svals_one (l : List Bs) : ∀ u ∈ svals l, u.oneCell' = true := by
  intro u hu
  obtain ⟨_, _, rfl⟩ := List.mem_map.1 hu
  rfl

theorem tyBytes : SliceTy Tryd.prog 29 5 1 1 :=
  ⟨Tryd.underlying29, by
    obtain ⟨i, h1, h2, h3, h4⟩ := info_parts (show (Tryd.prog.info? 5).map (fun i => (i.zero, i.size, i.bytes)) = some (some (.int .u8 0), 1, 1) by kernel_rfl)
    exact ⟨i, _, h1, h2, h3, h4, rfl⟩, by decide, by decide⟩
theorem tyStrs : SliceTy Tryd.prog 40 9 1 16 :=
  ⟨Tryd.underlying40, by
    obtain ⟨i, h1, h2, h3, h4⟩ := info_parts (show (Tryd.prog.info? 9).map (fun i => (i.zero, i.size, i.bytes)) = some (some (.string ⟨#[]⟩), 1, 16) by kernel_rfl)
    exact ⟨i, _, h1, h2, h3, h4, rfl⟩, by decide, by decide⟩

/-- string(b) of a slice of bytes of the call's own. -/
theorem conv_owned {w : World} {B n : Nat} {v : Value} (out : Bs) (h : w.ownsRow B 5 1 v n (bvals out)) : (convert 29 9 v).run Tryd.prog w = .ok (.string ⟨out.toArray⟩) w := by
  have hn : n = out.length := by have := h.1; rw [bvals_len] at this; omega
  subst hn
  rcases h.2 with ⟨rfl, h0⟩ | ⟨g, cap, cur, rfl, _, hg, hnc, _, hsz, htake⟩
  · have : out = [] := List.eq_nil_of_length_eq_zero h0
    subst this
    rw [run_convert_bytes_string w 29 9 5 none 0 0 Tryd.underlying29 Tryd.underlying5 Tryd.underlying9]
    rfl
  · refine run_convert_bytes_back w 29 9 5 ⟨g, 0, none⟩ cap out Tryd.underlying29 Tryd.underlying5 Tryd.underlying9 (fun j hj => ?_)
    have := h.cells (g := g) rfl j (.int .u8 (out[j].toNat : Int)) (by simp [bvals, hj])
    exact this

theorem owned_form {w : World} {B e size n : Nat} {v : Value} {xs : List Value} (h : w.ownsRow B e size v n xs) (hn : 0 < n) : ∃ g c, v = .slice (some ⟨g, 0, none⟩) n c := by
  rcases h.2 with ⟨_, h0⟩ | ⟨g, cap, _, rfl, _⟩
  · omega
  · exact ⟨g, cap, rfl⟩

/-- The cells of an owned slice of strings. -/
theorem cellsAt_owned {w : World} {B n g c : Nat} (l : List Bs) (h : w.ownsRow B 9 1 (.slice (some ⟨g, 0, none⟩) n c) n (svals l)) : n = l.length ∧ n ≤ c ∧ B ≤ g ∧ g < w.heap.size ∧ CellsAt w g 0 l := by
  have hn : n = l.length := by have := h.1; rw [svals_len] at this; omega
  have hlt := h.lt g rfl
  refine ⟨hn, ?_, hlt.1, hlt.2, ?_⟩
  · rcases h.2 with ⟨h0, _⟩ | ⟨g', cap, cur, h1, _, _, hnc, _⟩
    · cases h0
    · cases h1; exact hnc
  · intro k x hx
    have := h.cells (g := g) rfl k (str x) (by simp [svals, hx])
    have hadd : (⟨g, 0, none⟩ : Addr).add k = ⟨g, 0 + k, none⟩ := by unfold Addr.add; split <;> simp_all
    rw [hadd] at this
    exact this
theorem newStrs_owned {w w' : World} {v : Value} {n : Nat} (l : List Bs) (h : w'.ownsRow w.heap.size 9 1 v n (svals l)) (hl : 0 < l.length) (hb : Below w.heap.size w w') : NewStrs w l (.returned v) w' := by
  have hn : n = l.length := by have := h.1; rw [svals_len] at this; omega
  subst hn
  obtain ⟨g, c, rfl⟩ := owned_form h hl
  obtain ⟨_, h2, h3, h4, h5⟩ := cellsAt_owned l h
  exact ⟨g, c, rfl, h2, h3, h4, h5, hb⟩
end Go.Proofs.YtbpbopjlcidefaaDoor
