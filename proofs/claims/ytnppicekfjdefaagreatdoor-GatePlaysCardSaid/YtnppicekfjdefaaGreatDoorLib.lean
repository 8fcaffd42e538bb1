/- The library's contracts in the words of this proof: strings.Split, Cut, Join, HasPrefix, HasSuffix, IndexByte at one-byte separators. Conditions: texts shorter than 2^31 bytes. -/
import Derived.Test.YtnppicekfjdefaaGreatDoorPlain
import Derived.Test.YtnppicekfjdefaaGreatDoorShelf
import Derived.Below
import Derived.WalkSmall
import Derived.WalkKit
namespace Go.Proofs.YtnppicekfjdefaaGreatDoor
open Go.RowKit

/-- The variable MaxLen of the library holds some int. -/
structure Ready (w : World) : Prop where
  lt : 0 < w.heap.size
  cell : ∃ m, w.cell? ⟨0, 0, none⟩ = some (.int .i64 m)

theorem Ready.below {w w' : World} (h : Ready w) (hb : Below w.heap.size w w') : Ready w' :=
  ⟨Nat.lt_of_lt_of_le h.lt hb.size, by obtain ⟨m, hm⟩ := h.cell; exact ⟨m, by rw [hb.cell (p := ⟨_, 0, none⟩) h.lt]; exact hm⟩⟩

/-- From the number k on the cells of block b hold the strings xs. -/
def CellsAt (w : World) (b o : Nat) (xs : List Bs) : Prop := ∀ (k : Nat) x, xs[k]? = some x → w.cell? ⟨b, o + k, none⟩ = some (.string ⟨x.toArray⟩)

theorem CellsAt.below {w w' : World} {B b o : Nat} {xs : List Bs} (h : CellsAt w b o xs) (hb : Below B w w') (hB : b < B) : CellsAt w' b o xs :=
  fun k x hx => by rw [hb.cell (p := ⟨b, o + k, none⟩) hB]; exact h k x hx

/-- A new slice of strings, read to its end. -/
def NewStrs (w : World) (xs : List Bs) (e : Ending) (w' : World) : Prop :=
  ∃ b c : Nat, e = .returned (.slice (some ⟨b, 0, none⟩) xs.length c) ∧ xs.length ≤ c ∧ w.heap.size ≤ b ∧ b < w'.heap.size ∧ CellsAt w' b 0 xs ∧ Below w.heap.size w w'

/-- A byte of a string, in the words of its list. -/
theorem ba_get (l : Bs) (k : Nat) (h : k < (⟨l.toArray⟩ : ByteArray).size) : (⟨l.toArray⟩ : ByteArray)[k]'h = l[k]'h := rfl
theorem ba_append (a b : Bs) : (⟨a.toArray⟩ : ByteArray) ++ (⟨b.toArray⟩ : ByteArray) = ⟨(a ++ b).toArray⟩ := by
  apply ByteArray.ext
  simp
theorem ba_ext {a b : ByteArray} (h : a.data.toList = b.data.toList) : a = b := by
  apply ByteArray.ext
  rw [← Array.toList_inj]
  exact h
/-- A piece of a string, in the words of its list. -/
theorem ba_extract (l : Bs) (a b : Nat) : (⟨l.toArray⟩ : ByteArray).extract a b = ⟨((l.drop a).take (b - a)).toArray⟩ :=
  ba_ext (by rw [Lib.extract_data])
theorem ba_extract_end (l : Bs) (a : Nat) : (⟨l.toArray⟩ : ByteArray).extract a l.length = ⟨(l.drop a).toArray⟩ :=
  ba_ext (by rw [Lib.extract_data]; exact List.take_of_length_le (by simp))
theorem ba_extract_zero (l : Bs) (b : Nat) : (⟨l.toArray⟩ : ByteArray).extract 0 b = ⟨(l.take b).toArray⟩ :=
  ba_ext (by rw [Lib.extract_data]; simp)
theorem take_one {α : Type} (l : List α) (k : Nat) (h : k < l.length) : (l.drop k).take 1 = [l[k]] := by
  rw [Pl.drop_cons h]; rfl
theorem size_str (l : Bs) : (⟨l.toArray⟩ : ByteArray).size = l.length := rfl
theorem data_str (l : Bs) : (⟨l.toArray⟩ : ByteArray).data.toList = l := rfl

theorem and15 (m : Nat) (h : m ≤ 255) : bits .and .u8 (m : Int) 15 = (m : Int) % 16 := by
  have h2 : ∀ d : Fin 256, bits .and .u8 (d.val : Int) 15 = (d.val : Int) % 16 := by decide +kernel
  exact h2 ⟨m, by omega⟩

/-- A contract that leaves the world alone, inside a region that draws its order. -/
theorem quiet_eq {P : Program} {f : FuncId} {args : Array Value} {w : World} {n : Nat} {v : Value}
    (h : Calls P f args (w.drewN n) fun e w' => e = .returned v ∧ w.drewN n = w') : Calls P f args (w.drewN n) fun e w'' => e = .returned v ∧ ∃ m, w'' = w.drewN m :=
  h.mono fun _ _ h => ⟨h.1, n, h.2.symm⟩

/-- string([]byte{n}) -/
theorem conv_one (w : World) (n : Int) : (convert 130 9 (.slice (some ⟨w.heap.size, 0, none⟩) 1 1)).run Tryz.prog (w.alloc (.cells #[.int .u8 n] 5)) = .ok (.string ⟨[UInt8.ofNat n.toNat].toArray⟩) (w.alloc (.cells #[.int .u8 n] 5)) := by
  rw [run_convert_bytes_string _ 130 9 5 _ _ _ Tryz.underlying130 Tryz.underlying5 Tryz.underlying9]
  have hl := run_loadCells_list (P := Tryz.prog) (w.alloc (.cells #[.int .u8 n] 5)) ⟨w.heap.size, 0, none⟩ ([n].map (Value.int .u8)) (fun j v hj => by
    have hj' : j = 0 := by
      have := (List.getElem?_eq_some_iff.1 hj).1
      simp at this; exact this
    subst hj'
    simp at hj
    subst hj
    show (w.alloc _).cell? ⟨w.heap.size, 0, none⟩ = _
    unfold World.cell?
    rw [heap_alloc_new]
    rfl)
  exact run_bytesToString _ ⟨w.heap.size, 0, none⟩ 1 1 [n] hl

theorem conv_one_drewN (w : World) (n : Int) (q : Nat) : (convert 130 9 (.slice (some ⟨w.heap.size, 0, none⟩) 1 1)).run Tryz.prog ((w.drewN q).alloc (.cells #[.int .u8 n] 5)) = .ok (.string ⟨[UInt8.ofNat n.toNat].toArray⟩) ((w.drewN q).alloc (.cells #[.int .u8 n] 5)) :=
  conv_one (w.drewN q) n

theorem split_any (l : Bs) (c : UInt8) (w : World) (hl : l.length ≤ 2147483648) (hr : Ready w) :
    Calls Tryz.prog 68 #[.string ⟨l.toArray⟩, .string ⟨#[c]⟩] w (NewStrs w (Pl.splitOn c l)) := by
  obtain ⟨m, hm⟩ := hr.cell
  refine (Tryz.strings_Split ⟨l.toArray⟩ ⟨#[c]⟩ m w (by rw [size_str]; omega) hm (Nat.le_refl 1)).mono fun e w' h => ?_
  obtain ⟨rfl, rfl⟩ := h
  obtain ⟨h1, h2⟩ := Pl.split_str c l
  rw [h1, h2]
  refine ⟨w.heap.size, _, rfl, Nat.le_refl _, Nat.le_refl _, by simp, ?_, (Below.refl _ _).alloc (Nat.le_refl _) _⟩
  intro k x hx
  have h3 : (w.alloc (.cells ((Pl.splitOn c l).map str).toArray 9)).cell? ⟨w.heap.size, 0 + k, none⟩ = (((Pl.splitOn c l).map str).toArray)[k]? := by
    unfold World.cell?
    rw [heap_alloc_new]
    simp
  rw [h3]
  simp [hx]

theorem cut_any (l : Bs) (c : UInt8) (w : World) (hl : l.length ≤ 2147483648) (hr : Ready w) :
    Calls Tryz.prog 66 #[.string ⟨l.toArray⟩, .string ⟨#[c]⟩] w fun e w' => e = .returned (.tuple #[.string ⟨(Pl.cutAt c l).1.toArray⟩, .string ⟨(Pl.cutAt c l).2.1.toArray⟩, .bool (Pl.cutAt c l).2.2]) ∧ Below w.heap.size w w' := by
  obtain ⟨m, hm⟩ := hr.cell
  refine (Tryz.strings_Cut ⟨l.toArray⟩ ⟨#[c]⟩ m w (by rw [size_str]; omega) hm).mono fun e w' h => ?_
  obtain ⟨rfl, n, rfl⟩ := h
  rw [← Pl.cut_eq]
  exact ⟨rfl, below_drewN (Below.refl _ _) n⟩

theorem join_any (b c : Nat) (xs : List Bs) (sep : Bs) (w : World) (hc : CellsAt w b 0 xs) (hb : b < w.heap.size) (hN : xs.length ≤ 2147483648) (hcap : xs.length ≤ c) (hlen : (Lib.join xs sep).length ≤ 140737488355328) :
    Calls Tryz.prog 69 #[.slice (some ⟨b, 0, none⟩) xs.length c, .string ⟨sep.toArray⟩] w fun e w' => e = .returned (.string ⟨(Lib.join xs sep).toArray⟩) ∧ Below w.heap.size w w' := by
  have e1 : (xs.map fun x : Bs => (⟨x.toArray⟩ : ByteArray)).map (·.data.toList) = xs := by rw [List.map_map]; simp [Function.comp_def]
  have h := Tryz.strings_Join b 0 c (xs.map fun x : Bs => (⟨x.toArray⟩ : ByteArray)) ⟨sep.toArray⟩ w (fun j x hx => by
    simp only [List.getElem?_map, Option.map_eq_some_iff] at hx
    obtain ⟨y, hy, rfl⟩ := hx
    exact hc j y hy) hb (by rw [List.length_map]; omega) (by rw [List.length_map]; exact hcap) (by rw [e1]; exact hlen)
  rw [e1, List.length_map] at h
  exact h

theorem join_none (a : Option Addr) (c : Nat) (sep : Bs) (w : World) :
    Calls Tryz.prog 69 #[.slice a 0 c, .string ⟨sep.toArray⟩] w fun e w' => e = .returned (.string ⟨#[]⟩) ∧ Below w.heap.size w w' :=
  (Tryz.strings_Join_none a c ⟨sep.toArray⟩ w).mono fun _ _ h => ⟨h.1, h.2 ▸ Below.refl _ _⟩

theorem indexByte_any (l : Bs) (c : UInt8) (w : World) :
    Calls Tryz.prog 54 #[.string ⟨l.toArray⟩, .int .u8 (c.toNat : Int)] w fun e w' => e = .returned (.int .i64 (Lib.indexByte l c)) ∧ w = w' :=
  (Tryz.strings_IndexByte ⟨l.toArray⟩ (c.toNat : Int) w).mono fun _ _ h => ⟨by rw [h.1]; simp, h.2.symm⟩

theorem hasPrefix_any (l p : Bs) (w : World) :
    Calls Tryz.prog 70 #[.string ⟨l.toArray⟩, .string ⟨p.toArray⟩] w fun e w' => e = .returned (.bool (Lib.hasPrefix l p)) ∧ w = w' :=
  (Tryz.strings_HasPrefix ⟨l.toArray⟩ ⟨p.toArray⟩ w).mono fun _ _ h => ⟨h.1, h.2.symm⟩

theorem hasSuffix_any (l p : Bs) (w : World) (hl : l.length ≤ 9223372036854775807) :
    Calls Tryz.prog 71 #[.string ⟨l.toArray⟩, .string ⟨p.toArray⟩] w fun e w' => e = .returned (.bool (Lib.hasSuffix l p)) ∧ w = w' :=
  (Tryz.strings_HasSuffix ⟨l.toArray⟩ ⟨p.toArray⟩ w hl).mono fun _ _ h => ⟨h.1, h.2.symm⟩

end Go.Proofs.YtnppicekfjdefaaGreatDoor
