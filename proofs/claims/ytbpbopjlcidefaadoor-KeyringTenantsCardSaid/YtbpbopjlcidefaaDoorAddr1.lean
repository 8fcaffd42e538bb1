/- Contracts of the small functions of package address and of its references: bytes, hexadecimal digits, membership, lower case. Conditions: texts of at most 2^31 bytes. Contracts: quaysideref01.Lower, address.canonical and the reference's canonical. Conditions: texts of at most 2^31 bytes. Contract: address.canonical. Conditions: texts of at most 2^31 bytes. Contract: the reference's Cut. Conditions: texts of at most 2^31 bytes. Contract: the reference's Host. Conditions: texts of at most 2^31 bytes. Contract: address.Host. Conditions: texts of at most 2^31 bytes. Contracts: the texts of an address; quaysidebase.Num and Is; the laws' Of and Ref. Conditions: texts of at most 2^31 bytes. -/
import Derived.Test.YtbpbopjlcidefaaDoorAddrP
import Derived.Test.YtbpbopjlcidefaaDoorLib
import Derived.WalkKit
import Derived.WalkLawsBesides
import Derived.WalkSpells
import Derived.Lib.Hide
import Derived.BigQuiet
import Derived.Deep.QuietTactic
import Derived.Test.YtbpbopjlcidefaaDoorApp
import Derived.Deep.RegionLaw
import Derived.Laws.ResultCell
section
namespace Go.Proofs.YtbpbopjlcidefaaDoor
open Go.RowKit Pl Ad
attribute [local go_sem] ba_get
theorem ret_bool {a b : Bool} (h : a = b) : Ending.returned (.bool a) = Ending.returned (.bool b) := by rw [h]
theorem ret_int {k : IntKind} {a b : Int} (h : a = b) : Ending.returned (.int k a) = Ending.returned (.int k b) := by rw [h]
theorem ret_str {a b : Bs} (h : a = b) : Ending.returned (.string ⟨a.toArray⟩) = Ending.returned (.string ⟨b.toArray⟩) := by rw [h]

set_option maxRecDepth 100000
set_option maxHeartbeats 4000000
set_option linter.unusedVariables false
namespace A1
theorem unres_of (c : Int) : unresB c = (alnumB c || (decide (c = 45) || decide (c = 46) || decide (c = 95) || decide (c = 126))) := by
  rw [Bool.eq_iff_iff]; simp [alnumB, unresB]; omega

theorem inB_nil (c : Int) : inB [] c = false := rfl
theorem inB_cons (b : UInt8) (t : Bs) (c : Int) : inB (b :: t) c = (decide ((b.toNat : Int) = c) || inB t c) := rfl

end A1
end Go.Proofs.YtbpbopjlcidefaaDoor
end

section
namespace Go.Proofs.YtbpbopjlcidefaaDoor
open Go.RowKit Pl Ad
attribute [local go_sem] ba_get conv_one conv_one_drewN ba_append ba_extract
set_option maxRecDepth 100000
set_option maxHeartbeats 4000000
set_option linter.unusedVariables false
namespace A1
theorem lower_len (l : Bs) : (lower l).length = l.length := by simp [lower]
theorem lower_take (l : Bs) (k : Nat) (h : k < l.length) : lower (l.take (k + 1)) = lower (l.take k) ++ [lowB l[k]] := by
  simp only [lower, take_snoc h, List.map_append, List.map_cons, List.map_nil]
def marks : Bs := [33, 36, 38, 39, 40, 41, 42, 43, 44, 59, 61, 58, 64, 47]

end A1
end Go.Proofs.YtbpbopjlcidefaaDoor
end

section
namespace Go.Proofs.YtbpbopjlcidefaaDoor
open Go.RowKit Pl Ad
attribute [local go_sem] ba_get conv_one conv_one_drewN ba_append ba_extract
set_option maxRecDepth 100000
set_option maxHeartbeats 4000000
set_option linter.unusedVariables false
namespace A1

theorem inB_mem (l : Bs) (b : UInt8) : inB l (b.toNat : Int) = true ↔ b ∈ l := by
  simp only [inB, List.any_eq_true, decide_eq_true_eq]
  constructor
  · rintro ⟨x, hx, h⟩
    have : x = b := UInt8.toNat_inj.1 (by omega)
    exact this ▸ hx
  · exact fun h => ⟨b, h, rfl⟩
theorem idx_in (l : Bs) (b : UInt8) : (Lib.indexByte l b < 0) ↔ inB l (b.toNat : Int) = false := by
  rw [mem_iff_indexByte, ← inB_mem, Bool.not_eq_true]

end A1
end Go.Proofs.YtbpbopjlcidefaaDoor
end

section
namespace Go.Proofs.YtbpbopjlcidefaaDoor
open Go.RowKit Pl Ad
attribute [local go_sem] ba_get conv_one conv_one_drewN ba_append ba_extract
set_option maxRecDepth 100000
set_option maxHeartbeats 4000000
set_option linter.unusedVariables false
namespace A1

theorem cut_hit (c : UInt8) (l : Bs) (j k : Nat) (hk : k < l.length) (h : l[k] = c) (acc : List Bs) :
    acc ++ splitAcc c ((l.drop j).take (k - j)) (l.drop k) = (acc ++ [(l.drop j).take (k - j)]) ++ splitAcc c ((l.drop (k + 1)).take (k + 1 - (k + 1))) (l.drop (k + 1)) := by
  rw [drop_cons hk, splitAcc, if_pos h]; simp
theorem cut_miss (c : UInt8) (l : Bs) (j k : Nat) (hj : j ≤ k) (hk : k < l.length) (h : ¬ l[k] = c) (acc : List Bs) :
    acc ++ splitAcc c ((l.drop j).take (k - j)) (l.drop k) = acc ++ splitAcc c ((l.drop j).take (k + 1 - j)) (l.drop (k + 1)) := by
  rw [drop_cons hk, splitAcc, if_neg h]
  have e : (l.drop j).take (k + 1 - j) = (l.drop j).take (k - j) ++ [l[k]] := by
    rw [show k + 1 - j = (k - j) + 1 by omega, take_snoc (by simp; omega)]
    simp [show j + (k - j) = k by omega]
  rw [e]

end A1
end Go.Proofs.YtbpbopjlcidefaaDoor
end

section
namespace Go.Proofs.YtbpbopjlcidefaaDoor
open Go.RowKit Pl Ad
attribute [local go_sem] ba_get conv_one conv_one_drewN ba_append ba_extract
set_option maxRecDepth 100000
set_option maxHeartbeats 4000000
set_option linter.unusedVariables false
namespace A1

theorem hostOk_no (l : Bs) (h : ¬ l.length ≤ 100 ∨ (splitOn 46 l).all labelB = false) : hostOk l = false := by
  unfold hostOk
  rcases h with h | h
  · rw [decide_eq_false h]; rfl
  · rw [h]; simp
theorem hostOk_yes (l : Bs) (h1 : l.length ≤ 100) (h2 : (splitOn 46 l).all labelB = true) : hostOk l = true := by
  unfold hostOk; rw [h2, decide_eq_true h1]; rfl

theorem splitAcc_len (c : UInt8) : ∀ (acc l x : Bs), x ∈ splitAcc c acc l → x.length ≤ acc.length + l.length
  | acc, [], x, h => by simp [splitAcc] at h; subst h; simp
  | acc, b :: t, x, h => by
    rw [splitAcc] at h
    split at h
    · rcases List.mem_cons.1 h with rfl | h
      · omega
      · have := splitAcc_len c [] t x h; simp at this ⊢; omega
    · have := splitAcc_len c (acc ++ [b]) t x h; simp at this ⊢; omega
theorem splitOn_len (c : UInt8) (l x : Bs) (h : x ∈ splitOn c l) : x.length ≤ l.length := by simpa using splitAcc_len c [] l x h
theorem splitAcc_count (c : UInt8) : ∀ (acc l : Bs), (splitAcc c acc l).length ≤ l.length + 1
  | acc, [] => by simp [splitAcc]
  | acc, b :: t => by
    rw [splitAcc]; split
    · have := splitAcc_count c [] t; simp; omega
    · have := splitAcc_count c (acc ++ [b]) t; simp; omega
theorem splitOn_count (c : UInt8) (l : Bs) : (splitOn c l).length ≤ l.length + 1 := splitAcc_count c [] l

/-- What a host's function returns. -/
def hostS (l : Bs) : Bs := if hostOk l then lower l else []
theorem hostS_no (l : Bs) (h : hostOk l = false) : hostS l = [] := by rw [hostS, h]; rfl
theorem hostS_yes (l : Bs) (h : hostOk l = true) : hostS l = lower l := by rw [hostS, h]; rfl

end A1
end Go.Proofs.YtbpbopjlcidefaaDoor
end

section
namespace Go.Proofs.YtbpbopjlcidefaaDoor
open Go.RowKit Pl Ad
attribute [local go_sem] ba_get conv_one conv_one_drewN ba_append ba_extract
set_option maxRecDepth 100000
set_option maxHeartbeats 4000000
set_option linter.unusedVariables false
namespace A1

/-- The error code n as a value. -/
@[reducible] def errV (n : Int) : Value := .iface 65 (.int .i64 n)
def hostE (l : Bs) : Value := if hostOk l then .nilIface else errV 8
theorem hostE_no (l : Bs) (h : hostOk l = false) : hostE l = errV 8 := by rw [hostE, h]; rfl
theorem hostE_yes (l : Bs) (h : hostOk l = true) : hostE l = .nilIface := by rw [hostE, h]; rfl

/-- []byte(s): the new slice's capacity, and the world behind it. -/
def bcap (w : World) (l : Bs) : Nat := grownCap w l.length 0 5
def brow (w : World) (l : Bs) : List Value := bvals l ++ List.replicate (bcap w l - l.length) (.int .u8 0)
def bworld (w : World) (l : Bs) : World := w.drew.alloc (.cells (brow w l).toArray 5 ((brow w l).length, (brow w l).length + 1))
theorem conv_bytes (w : World) (l : Bs) : (convert 9 29 (.string ⟨l.toArray⟩)).run Tryd.prog w = .ok (.slice (some ⟨w.heap.size, 0, none⟩) l.length (bcap w l)) (bworld w l) := by
  rw [run_bytes_of_string w 9 29 5 ⟨l.toArray⟩ Tryd.underlying9 Tryd.underlying29 Tryd.underlying5]
  have e : bytesRow ⟨l.toArray⟩ (grownCap w (⟨l.toArray⟩ : ByteArray).size 0 5) = (brow w l).toArray := by
    unfold bytesRow brow bcap bvals
    rw [← Array.toList_inj]
    simp
    rfl
  rw [e]
  rfl
theorem bworld_below (w : World) (l : Bs) : Below w.heap.size w (bworld w l) := ((Below.refl _ _).drew).alloc (Nat.le_refl _) _
theorem bworld_size (w : World) (l : Bs) : (bworld w l).heap.size = w.heap.size + 1 := by simp [bworld]

/-- Block g holds the bytes l at its head, and may be written there. -/
def BytesAt (w : World) (g : Nat) (l : Bs) : Prop := ∃ C : List Value, w.heap[g]? = some (.cells C.toArray 5 (C.length, C.length + 1)) ∧ l.length ≤ C.length ∧ ∀ k (h : k < l.length), C[k]? = some (.int .u8 (l[k].toNat : Int))
theorem bytesAt_new (w : World) (l : Bs) : BytesAt (bworld w l) w.heap.size l := by
  refine ⟨brow w l, heap_alloc_new w.drew _, by simp [brow, bvals], fun k h => ?_⟩
  rw [brow, List.getElem?_append_left (by simpa [bvals] using h)]
  simp [bvals, h]
theorem BytesAt.cell {w : World} {g : Nat} {l : Bs} (h : BytesAt w g l) (k : Nat) (hk : k < l.length) : w.cell? ⟨g, k, none⟩ = some (.int .u8 (l[k].toNat : Int)) := by
  obtain ⟨C, h1, _, h3⟩ := h
  rw [cell_of_row w g k C.toArray 5 _ h1]
  simpa using h3 k hk
theorem BytesAt.frozen {w : World} {g : Nat} {l : Bs} (h : BytesAt w g l) (k : Nat) (hk : k < l.length) : w.frozen? ⟨g, k, none⟩ = false := by
  obtain ⟨C, h1, h2, _⟩ := h
  unfold World.frozen?
  rw [h1]
  simp; omega
theorem BytesAt.set {w : World} {g : Nat} {l : Bs} (h : BytesAt w g l) (k : Nat) (hk : k < l.length) (b : UInt8) (n : Int) (hn : (b.toNat : Int) = n) : BytesAt (w.setCell ⟨g, k, none⟩ (.int .u8 n)) g (l.set k b) := by
  obtain ⟨C, h1, h2, h3⟩ := h
  refine ⟨C.set k (.int .u8 n), ?_, by simpa using h2, fun j hj => ?_⟩
  · simp only [World.setCell, Array.getElem?_modify, if_pos, h1, Option.map_some, Option.isSome_none, Bool.false_eq_true, if_false, List.length_set]
    simp
  · rw [List.length_set] at hj
    by_cases e : k = j
    · subst e
      simp [hn, show k < C.length by omega]
    · rw [List.getElem?_set_ne e, h3 j hj]
      simp [List.getElem_set_ne e]
theorem BytesAt.conv {w : World} {g : Nat} {l : Bs} (h : BytesAt w g l) (c : Nat) : (convert 29 9 (.slice (some ⟨g, 0, none⟩) l.length c)).run Tryd.prog w = .ok (.string ⟨l.toArray⟩) w :=
  run_convert_bytes_back w 29 9 5 ⟨g, 0, none⟩ c l Tryd.underlying29 Tryd.underlying5 Tryd.underlying9 (fun j hj => by
    have hadd : (⟨g, 0, none⟩ : Addr).add j = ⟨g, j, none⟩ := by unfold Addr.add; split <;> simp_all
    rw [hadd]; exact h.cell j hj)

/-- The bytes before place k in lower case. -/
def lowTo (l : Bs) (k : Nat) : Bs := lower (l.take k) ++ l.drop k
theorem lowTo_len (l : Bs) (k : Nat) : (lowTo l k).length = l.length := by
  unfold lowTo; rw [List.length_append, lower_len, List.length_take, List.length_drop]; omega
theorem lowTo_at (l : Bs) (k : Nat) (h : k < l.length) (h2 : k < (lowTo l k).length) : (lowTo l k)[k] = l[k] := by
  have e : (lowTo l k)[k]? = some l[k] := by
    unfold lowTo
    rw [List.getElem?_append_right (by rw [lower_len, List.length_take]; omega)]
    simp [lower_len, show min k l.length = k by omega, h]
  rw [List.getElem?_eq_getElem h2] at e
  exact Option.some.inj e
theorem lowTo_succ (l : Bs) (k : Nat) (h : k < l.length) : lowTo l (k + 1) = (lowTo l k).set k (lowB l[k]) := by
  unfold lowTo
  rw [lower_take l k h, drop_cons h, List.set_append_right _ _ (by rw [lower_len, List.length_take]; omega)]
  rw [lower_len, List.length_take, show k - min k l.length = 0 by omega, List.set_cons_zero, List.append_assoc]
  rfl
theorem lowTo_same (l : Bs) (k : Nat) (h : k < l.length) (h2 : lowB l[k] = l[k]) : lowTo l (k + 1) = lowTo l k := by
  unfold lowTo
  rw [lower_take l k h, drop_cons h, h2]; simp
theorem lowTo_all (l : Bs) (k : Nat) (h : l.length ≤ k) : lowTo l k = lower l := by
  unfold lowTo; rw [List.take_of_length_le h, List.drop_of_length_le h, List.append_nil]

theorem lowB_in (b : UInt8) (h1 : 65 ≤ b.toNat) (h2 : b.toNat ≤ 90) : (((lowB b).toNat : Nat) : Int) = (b.toNat : Int) + 32 := by
  unfold lowB
  rw [if_pos ⟨h1, h2⟩, UInt8.toNat_add]
  show (((b.toNat + 32) % 256 : Nat) : Int) = _
  omega

end A1
end Go.Proofs.YtbpbopjlcidefaaDoor
end

section
namespace Go.Proofs.YtbpbopjlcidefaaDoor
open Go.RowKit Pl Ad
attribute [local go_sem] ba_get conv_one conv_one_drewN ba_append ba_extract
set_option maxRecDepth 100000
set_option maxHeartbeats 4000000
set_option linter.unusedVariables false
namespace A1

theorem owned_zero {w : World} {B e size : Nat} {v : Value} {xs : List Value} (h : w.ownsRow B e size v 0 xs) (hv : ∀ g c, v ≠ .slice (some ⟨g, 0, none⟩) 0 c) : v = .slice none 0 0 := by
  rcases h.2 with ⟨h1, _⟩ | ⟨g, cap, _, h1, _⟩
  · exact h1
  · exact absurd h1 (hv g cap)
/-- What an owned slice looks like: nil, or a row's head. -/
theorem owned_cases {w : World} {B e size n : Nat} {v : Value} {xs : List Value} (h : w.ownsRow B e size v n xs) : v = .slice none n 0 ∨ ∃ g c, v = .slice (some ⟨g, 0, none⟩) n c := by
  rcases h.2 with ⟨h1, h2⟩ | ⟨g, cap, _, h1, _⟩
  · exact .inl (by rw [h1, h2])
  · exact .inr ⟨g, cap, h1⟩
theorem owned_pop {w : World} {B g c : Nat} {left : List Bs} (hne : left ≠ []) (h : w.ownsRow B 9 1 (.slice (some ⟨g, 0, none⟩) left.length c) left.length (svals left)) :
    w.ownsRow B 9 1 (.slice (some ⟨g, 0, none⟩) (left.length - 1) c) (left.length - 1) (svals left.dropLast) := by
  have hl : left.length - 1 + 1 = left.length := by have := List.length_pos_iff.2 hne; omega
  have e : svals left = svals left.dropLast ++ svals [left.getLast hne] := by rw [svals_append, List.dropLast_concat_getLast]
  refine ownsRow_pop (last := svals [left.getLast hne]) (by rw [svals_len, List.length_dropLast]; omega) ?_
  rw [hl, ← e]
  exact h
theorem num_nil (w : World) : Calls Tryd.prog 16 #[.nilIface] w fun e w' => e = .returned (.int .i64 0) ∧ w = w' := by
  go_enter Tryd.func16, Tryd.ntmps16
  go_wp2
  go_ret
  exact ⟨rfl, rfl⟩
theorem assert_errno (v : Value) (w : World) : (Instr.typeAssert (.iface 65 v) 27 65 true).run Tryd.prog w = .ok (.tuple #[v, .bool true]) w := by kernel_rfl
attribute [local go_sem] assert_errno
theorem num_err (n : Int) (w : World) : Calls Tryd.prog 16 #[errV n] w fun e w' => e = .returned (.int .i64 n) ∧ w = w' := by
  go_enter Tryd.func16, Tryd.ntmps16
  go_wp2
  go_ret
  exact ⟨rfl, rfl⟩
theorem is_err (n : Int) (w : World) (hn : ¬ n = 0) : Calls Tryd.prog 36 #[errV n, .int .i64 n] w fun e w' => e = .returned (.bool true) ∧ w = w' := by
  have h1 : (n == 0) = false := beq_eq_false_iff_ne.2 hn
  go_enter Tryd.func36, Tryd.ntmps36
  go_wp2_with (go_at_call 16; refine (num_err n _).mono ?_; rintro e w' ⟨rfl, rfl⟩)
  go_ret
  exact ⟨ret_bool (by simp [h1, bne]), rfl⟩
end A1
end Go.Proofs.YtbpbopjlcidefaaDoor
end
