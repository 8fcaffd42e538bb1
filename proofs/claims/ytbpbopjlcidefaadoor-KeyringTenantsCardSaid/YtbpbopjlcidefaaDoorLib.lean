/- The library's contracts in the words of this proof: strings.Split, Cut, Join, HasPrefix, HasSuffix, IndexByte at one-byte separators. Conditions: texts shorter than 2^31 bytes. -/
import Derived.Test.YtbpbopjlcidefaaDoorPlain
import Derived.Test.YtbpbopjlcidefaaDoorShelf
import Derived.Below
import Derived.WalkSmall
import Derived.WalkKit
namespace Go.Proofs.YtbpbopjlcidefaaDoor
open Go.RowKit

/-- From the number k on the cells of block b hold the strings xs. -/
def CellsAt (w : World) (b o : Nat) (xs : List Bs) : Prop := ∀ (k : Nat) x, xs[k]? = some x → w.cell? ⟨b, o + k, none⟩ = some (.string ⟨x.toArray⟩)

theorem CellsAt.below {w w' : World} {B b o : Nat} {xs : List Bs} (h : CellsAt w b o xs) (hb : Below B w w') (hB : b < B) : CellsAt w' b o xs :=
  fun k x hx => by rw [hb.cell (p := ⟨b, o + k, none⟩) hB]; exact h k x hx

/-- A new slice of strings, read to its end. -/
def NewStrs (w : World) (xs : List Bs) (e : Ending) (w' : World) : Prop :=
  ∃ b c : Nat, e = .returned (.slice (some ⟨b, 0, none⟩) xs.length c) ∧ xs.length ≤ c ∧ w.heap.size ≤ b ∧ b < w'.heap.size ∧ CellsAt w' b 0 xs ∧ Below w.heap.size w w'

/-- A byte of a string, in the words of its list. -/
theorem ba_get (l : Bs) (k : Nat) (h : k < (⟨l.toArray⟩ : ByteArray).size) : (⟨l.toArray⟩ : ByteArray)[k]'h = l[k]'h := rfl
theorem ba_append (a b : Bs) : (⟨a.toArray⟩ : ByteArray) ++ (⟨b.toArray⟩ : ByteArray) = ⟨(a ++ b).toArray⟩ := by
  apply ByteArray.ext
  simp
theorem ba_ext {a b : ByteArray} (h : a.data.toList = b.data.toList) : a = b := by
  apply ByteArray.ext
  rw [← Array.toList_inj]
  exact h
/-- A piece of a string, in the words of its list. -/
theorem ba_extract (l : Bs) (a b : Nat) : (⟨l.toArray⟩ : ByteArray).extract a b = ⟨((l.drop a).take (b - a)).toArray⟩ :=
  ba_ext (by rw [Lib.extract_data])
theorem ba_extract_end (l : Bs) (a : Nat) : (⟨l.toArray⟩ : ByteArray).extract a l.length = ⟨(l.drop a).toArray⟩ :=
  ba_ext (by rw [Lib.extract_data]; exact List.take_of_length_le (by simp))
theorem ba_extract_zero (l : Bs) (b : Nat) : (⟨l.toArray⟩ : ByteArray).extract 0 b = ⟨(l.take b).toArray⟩ :=
  ba_ext (by rw [Lib.extract_data]; simp)
theorem take_one {α : Type} (l : List α) (k : Nat) (h : k < l.length) : (l.drop k).take 1 = [l[k]] := by
  rw [Pl.drop_cons h]; rfl
theorem size_str (l : Bs) : (⟨l.toArray⟩ : ByteArray).size = l.length := rfl
theorem data_str (l : Bs) : (⟨l.toArray⟩ : ByteArray).data.toList = l := rfl

theorem and15 (m : Nat) (h : m ≤ 255) : bits .and .u8 (m : Int) 15 = (m : Int) % 16 := by
  have h2 : ∀ d : Fin 256, bits .and .u8 (d.val : Int) 15 = (d.val : Int) % 16 := by decide +kernel
  exact h2 ⟨m, by omega⟩

/-- A contract that leaves the world alone, inside a region that draws its order. -/
theorem quiet_eq {P : Program} {f : FuncId} {args : Array Value} {w : World} {n : Nat} {v : Value}
    (h : Calls P f args (w.drewN n) fun e w' => e = .returned v ∧ w.drewN n = w') : Calls P f args (w.drewN n) fun e w'' => e = .returned v ∧ ∃ m, w'' = w.drewN m :=
  h.mono fun _ _ h => ⟨h.1, n, h.2.symm⟩

/-- string([]byte{n}) -/
theorem conv_one (w : World) (n : Int) : (convert 29 9 (.slice (some ⟨w.heap.size, 0, none⟩) 1 1)).run Tryd.prog (w.alloc (.cells #[.int .u8 n] 5)) = .ok (.string ⟨[UInt8.ofNat n.toNat].toArray⟩) (w.alloc (.cells #[.int .u8 n] 5)) := by
  rw [run_convert_bytes_string _ 29 9 5 _ _ _ Tryd.underlying29 Tryd.underlying5 Tryd.underlying9]
  have hl := run_loadCells_list (P := Tryd.prog) (w.alloc (.cells #[.int .u8 n] 5)) ⟨w.heap.size, 0, none⟩ ([n].map (Value.int .u8)) (fun j v hj => by
    have hj' : j = 0 := by
      have := (List.getElem?_eq_some_iff.1 hj).1
      simp at this; exact this
    subst hj'
    simp at hj
    subst hj
    show (w.alloc _).cell? ⟨w.heap.size, 0, none⟩ = _
    unfold World.cell?
    rw [heap_alloc_new]
    rfl)
  exact run_bytesToString _ ⟨w.heap.size, 0, none⟩ 1 1 [n] hl

theorem conv_one_drewN (w : World) (n : Int) (q : Nat) : (convert 29 9 (.slice (some ⟨w.heap.size, 0, none⟩) 1 1)).run Tryd.prog ((w.drewN q).alloc (.cells #[.int .u8 n] 5)) = .ok (.string ⟨[UInt8.ofNat n.toNat].toArray⟩) ((w.drewN q).alloc (.cells #[.int .u8 n] 5)) :=
  conv_one (w.drewN q) n

end Go.Proofs.YtbpbopjlcidefaaDoor
