/- Contracts: what the laws over the keyring call: secret, tenant, same, Num, Is, Texts. No condition. -/
import Derived.Test.YtbpbopjlcidefaaDoorKeyW
import Derived.Test.YtbpbopjlcidefaaDoorAddrH
import Derived.Laws.MakeOwn
namespace Go.Proofs.YtbpbopjlcidefaaDoor
open Go.RowKit Pl Ad
attribute [local go_sem] ba_get ba_append ba_extract_end ba_extract_zero ba_extract
set_option maxRecDepth 100000
set_option maxHeartbeats 4000000
set_option linter.unusedVariables false
set_option linter.unusedSimpArgs false
namespace Kr
def secN (n : Nat) : Bs := (List.range (n % 80)).map fun i => UInt8.ofNat (n + i)
theorem secN_len (n : Nat) : (secN n).length = n % 80 := by simp [secN]
theorem madeB (m : Nat) : madeCells (Value.int .u8 0).cells (m * 1) = (bvals (List.replicate m 0)).toArray := by
  simp [madeCells, bvals, Value.cells]
  apply Array.ext
  · simp
  · intro i h1 h2
    simp [Nat.mod_one]
theorem wpList_make_bytes {w : World} {ops : Array Oper} {rest : List Oper} {o : Oper} {a : Act} {Q : Exit → Act → World → Prop} (hg : o.guard = none) (l c : Operand) (hop : o.op = Op.makeSlice 29 l c) (n : Nat) (N : Int)
    (hl : a.eval l = .int .i64 N) (hc : a.eval c = .int .i64 N) (hN : N = (n : Int)) (hn : n ≤ 1000000)
    (hK : wpList Tryd.prog ops Q rest (a.put o.dst (.slice (some ⟨w.heap.size, 0, none⟩) n n)) (w.alloc (.cells (bvals (List.replicate n 0)).toArray 5))) : wpList Tryd.prog ops Q (o :: rest) a w := by
  refine wpList_plain hg fun K hK' => ?_
  obtain ⟨i, h1, h2, h3, h4⟩ := info_parts (show (Tryd.prog.info? 5).map (fun i => (i.zero, i.size, i.bytes)) = some (some (.int .u8 0), 1, 1) by kernel_rfl)
  have hr := run_make (P := Tryd.prog) w 29 5 i (.int .u8 0) Tryd.underlying29 h1 h2 .i64 .i64 N N (by omega) (Int.le_refl _) (by rw [h4]; omega) (by omega)
  subst hN
  rw [h3] at hr
  simp only [Int.toNat_natCast] at hr
  rw [madeB] at hr
  unfold Oper.wp
  simp [execOp, hop, hl, hc, hr, Result.andThen]
  exact hK' _ _ (by simpa using hK)
/-- string(b) of a slice of bytes of the call's own. -/
theorem convK_owned {w : World} {B n : Nat} {v : Value} (out : Bs) (h : OwnWin w B 5 1 v n (bvals out)) : (convert 29 9 v).run Tryd.prog w = .ok (.string ⟨out.toArray⟩) w := by
  have hn : n = out.length := by have := h.1; rw [bvals_len] at this; omega
  subst hn
  rcases h.2 with ⟨rfl, h0⟩ | ⟨g, o, cap, cur, rfl, _, hg, hnc, _, hsz, htake⟩
  · have : out = [] := List.eq_nil_of_length_eq_zero h0
    subst this
    rw [run_convert_bytes_string w 29 9 5 none 0 0 Tryd.underlying29 Tryd.underlying5 Tryd.underlying9]
    rfl
  · refine run_convert_bytes_back w 29 9 5 ⟨g, o, none⟩ cap out Tryd.underlying29 Tryd.underlying5 Tryd.underlying9 (fun j hj => ?_)
    obtain ⟨g', o', c', e', _, _, _, _, hc⟩ := h.cells (by omega)
    cases e'
    rw [Addr.add_lit]
    exact hc j (.int .u8 (out[j].toNat : Int)) (by simp [bvals, hj])
theorem bvals_set (l : Bs) (k : Nat) (x : UInt8) : (bvals l).toArray.setIfInBounds k (.int .u8 (x.toNat : Int)) = (bvals (l.set k x)).toArray := by
  simp [bvals]
theorem sec_next {n k : Nat} {l : Bs} (hk : k < l.length) (hk2 : k < (secN n).length) (h : l.take k = (secN n).take k) : (l.set k (UInt8.ofNat (n + k))).take (k + 1) = (secN n).take (k + 1) := by
  rw [take_snoc (show k < (l.set k (UInt8.ofNat (n + k))).length by rw [List.length_set]; exact hk), take_snoc hk2, List.take_set_of_le (Nat.le_refl _), h, List.getElem_set_self]
  congr 2
  simp [secN]
theorem secret_any (n : Nat) (w : World) (hn : n < 256) :
    Calls Tryd.prog 9 #[.int .u8 (n : Int)] w fun e w' => e = .returned (.string ⟨(secN n).toArray⟩) ∧ Below w.heap.size w w' := by
  have h1 : (0 : Int) ≤ (n : Int) := by omega
  have h2 : (n : Int) < 256 := by omega
  obtain ⟨m, hm⟩ : ∃ m, n % 80 = m := ⟨_, rfl⟩
  have hmod : (n : Int) % 80 = (m : Int) := by omega
  have hm80 : m < 80 := by omega
  have HM := Lib.hid hmod
  have HL := Lib.hid (show (secN n).length = m by rw [secN_len, hm])
  clear hmod hm
  go_enter Tryd.func9, Tryd.ntmps9
  go_wp2_with ((refine wpList_make_bytes rfl _ _ rfl m ((n : Int) % 80) rfl rfl HM.out (by omega) ?_))
  go_loopw [4, 11] (fun x i wr => ∃ (k : Nat) (l : Bs), k ≤ m ∧ i = .int .i64 k ∧ l.length = m ∧ Hid (l.take k = (secN n).take k) ∧ Bx wr w.heap.size 5 (bvals l).toArray ∧ Below w.heap.size w wr) (fun _ i _ => m - (intOf i).toNat)
  case atStart => exact ⟨0, List.replicate m 0, Nat.zero_le _, rfl, by simp, Lib.hid rfl, Bx.new w _ _, (Below.refl _ _).alloc (Nat.le_refl _) _⟩
  case round =>
    obtain ⟨k, l, hk, rfl, hll, HT, hbx, hbel⟩ := hrel
    have HX := Lib.hid hbx
    have HB := Lib.hid hbel
    have HLL := Lib.hid hll
    have hz := hbx.lt
    by_cases hlt : k < m
    · obtain ⟨y, hy⟩ : ∃ y, l[k]? = some y := ⟨_, List.getElem?_eq_getElem (by omega)⟩
      have hc : wr.cell? ⟨w.heap.size, k, none⟩ = some (.int .u8 (y.toNat : Int)) := hbx.cell (by simp [bvals, hy])
      have hf := hbx.frz k
      have hv : ((n : Int) + (k : Int)) % 256 = ((UInt8.ofNat (n + k)).toNat : Int) := by simp
      have HV := Lib.hid hv
      have hk3 : (k : Int) < 256 := by omega
      clear hbx hbel hv hll hy
      go_wp2
      go_roundw
      case rel =>
        refine ⟨k + 1, l.set k (UInt8.ofNat (n + k)), by omega, by go_num, by rw [List.length_set]; exact HLL.out, Lib.hid (sec_next (by have := HLL.out; omega) (by have := HL.out; omega) HT.out), ?_, HB.out.setCell (p := ⟨w.heap.size, k, none⟩) (Nat.le_refl _) _⟩
        have h9 := HX.out.set k (.int .u8 (((n : Int) + (k : Int)) % 256))
        rw [HV.out, bvals_set] at h9
        rw [HV.out]
        exact h9
      case measure => simp [intOf]; omega
    · have HE : Hid (l = secN n) := Lib.hid (by
        have h9 := HT.out
        rw [List.take_of_length_le (by omega), List.take_of_length_le (by have := HL.out; omega)] at h9
        exact h9)
      have hown : OwnWin wr w.heap.size 5 1 (.slice (some ⟨w.heap.size, 0, none⟩) m m) m (bvals l) :=
        ⟨by rw [bvals_len, hll]; omega, .inr ⟨w.heap.size, 0, m, (bvals l).toArray, rfl, Nat.le_refl _, hbx, Nat.le_refl _, by unfold maxLen; omega, by simp [bvals, hll], by rw [List.drop_zero, Nat.mul_one, List.take_of_length_le (by simp [bvals, hll])]⟩⟩
      have hcv := convK_owned l hown
      clear hown hbx hbel hll
      go_wp2
      go_ret
      exact ⟨ret_str HE.out, HB.out⟩
/-- An act's tenant. -/
def tenB (b : Nat) : Int := if b % 8 = 7 then ((b / 8 % 19 : Nat) : Int) - 1 else ((b % 8 % 3 : Nat) : Int)
@[reducible] def actV (kd tn s : Nat) (id : Bs) (x y z at_ : Int) : Value := .agg #[.int .u8 (kd : Int), .int .u8 (tn : Int), .int .u8 (s : Int), .string ⟨id.toArray⟩, .int .i64 x, .int .i64 y, .int .i64 z, .int .i64 at_]
theorem tenant_any (kd tn s : Nat) (id : Bs) (x y z at_ : Int) (w : World) (hn : tn < 256) :
    Calls Tryd.prog 15 #[actV kd tn s id x y z at_] w fun e w' => e = .returned (.int .i64 (tenB tn)) ∧ Below w.heap.size w w' := by
  have h1 : (0 : Int) ≤ (tn : Int) := by omega
  have h2 : (tn : Int) < 256 := by omega
  by_cases h7 : tn % 8 = 7
  · have h7' : ((tn : Int) % 8 == 7) = true := beq_iff_eq.2 (by omega)
    have HT := Lib.hid (show tenB tn = (tn : Int) / 8 % 19 - 1 by unfold tenB; rw [if_pos h7]; omega)
    clear h7
    go_enter Tryd.func15, Tryd.ntmps15
    go_wp2
    go_ret
    exact ⟨ret_int HT.out.symm, (Below.refl _ _).alloc (Nat.le_refl _) _⟩
  · have h7' : ((tn : Int) % 8 == 7) = false := beq_eq_false_iff_ne.2 (by omega)
    have HT := Lib.hid (show tenB tn = (tn : Int) % 8 % 3 by unfold tenB; rw [if_neg h7]; omega)
    clear h7
    go_enter Tryd.func15, Tryd.ntmps15
    go_wp2
    go_ret
    exact ⟨ret_int HT.out.symm, (Below.refl _ _).alloc (Nat.le_refl _) _⟩
theorem same_true (t : Int) (k : KeyM) (B : Nat) (ua : Option Addr) (uc : Nat) (w : World) (h : OwnWin w B 5 1 (.slice ua k.sec.length uc) k.sec.length (bvals k.sec)) :
    Calls Tryd.prog 37 #[keyV k.id (.slice ua k.sec.length uc) k.frm k.til, rkeyV t k] w fun e w' => e = .returned (.bool true) ∧ Below w.heap.size w w' := by
  obtain ⟨id, sec, frm, til, rev⟩ := k
  simp only at h ⊢
  have hb2 := ((Below.refl w.heap.size w).alloc (Nat.le_refl _) (.cells #[.string ⟨id.toArray⟩, .slice ua sec.length uc, .int .i64 frm, .int .i64 til] 32)).alloc (by simp) (.cells #[.int .i64 t, .string ⟨id.toArray⟩, .string ⟨sec.toArray⟩, .int .i64 frm, .int .i64 til, .int .i64 rev] 52)
  have hcv := convK_owned sec (h.older hb2)
  have HB := Lib.hid hb2
  clear h hb2
  go_enter Tryd.func37, Tryd.ntmps37
  go_wp2
  go_ret
  exact ⟨ret_bool (by simp), HB.out⟩
end Kr
end Go.Proofs.YtbpbopjlcidefaaDoor
