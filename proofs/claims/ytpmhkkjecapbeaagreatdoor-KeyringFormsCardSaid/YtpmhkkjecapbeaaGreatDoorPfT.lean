/- Contracts and plain facts that the statement's proof leans on (texts joined). No condition beyond those that each names. -/
import Derived.Laws.MakeOwn
import Derived.Laws.CopyOwn
import Derived.Deep.RegionHeld3
import Derived.OrdersHeld
import Derived.Deep.LoopGhost
import Derived.BigQuiet
import Derived.Test.YtpmhkkjecapbeaaGreatDoorPfC
import Derived.Test.YtpmhkkjecapbeaaGreatDoorPfJ
import Derived.Test.YtpmhkkjecapbeaaGreatDoorPfS
section
namespace Go.Proofs.YtpmhkkjecapbeaaGreatDoor
open Go.RowKit Pl Ad
attribute [local go_sem] ba_get ba_append ba_extract_end ba_extract_zero ba_extract
set_option maxRecDepth 100000
set_option maxHeartbeats 4000000
set_option linter.unusedVariables false
set_option linter.unusedSimpArgs false
namespace Kr
def secN (n : Nat) : Bs := (List.range (n % 80)).map fun i => UInt8.ofNat (n + i)
theorem secN_len (n : Nat) : (secN n).length = n % 80 := by simp [secN]
theorem madeB (m : Nat) : madeCells (Value.int .u8 0).cells (m * 1) = (bvals (List.replicate m 0)).toArray := by
  simp [madeCells, bvals, Value.cells]
  apply Array.ext
  · simp
  · intro i h1 h2
    simp [Nat.mod_one]
theorem wpList_make_bytes {w : World} {ops : Array Oper} {rest : List Oper} {o : Oper} {a : Act} {Q : Exit → Act → World → Prop} (hg : o.guard = none) (l c : Operand) (hop : o.op = Op.makeSlice 45 l c) (n : Nat) (N : Int)
    (hl : a.eval l = .int .i64 N) (hc : a.eval c = .int .i64 N) (hN : N = (n : Int)) (hn : n ≤ 1000000)
    (hK : wpList Tryz.prog ops Q rest (a.put o.dst (.slice (some ⟨w.heap.size, 0, none⟩) n n)) (w.alloc (.cells (bvals (List.replicate n 0)).toArray 5))) : wpList Tryz.prog ops Q (o :: rest) a w := by
  refine wpList_plain hg fun K hK' => ?_
  obtain ⟨i, h1, h2, h3, h4⟩ := info_parts (show (Tryz.prog.info? 5).map (fun i => (i.zero, i.size, i.bytes)) = some (some (.int .u8 0), 1, 1) by kernel_rfl)
  have hr := run_make (P := Tryz.prog) w 45 5 i (.int .u8 0) Tryz.underlying45 h1 h2 .i64 .i64 N N (by omega) (Int.le_refl _) (by rw [h4]; omega) (by omega)
  subst hN
  rw [h3] at hr
  simp only [Int.toNat_natCast] at hr
  rw [madeB] at hr
  unfold Oper.wp
  simp [execOp, hop, hl, hc, hr, Result.andThen]
  exact hK' _ _ (by simpa using hK)
/-- string(b) of a slice of bytes of the call's own. -/
theorem convK_owned {w : World} {B n : Nat} {v : Value} (out : Bs) (h : OwnWin w B 5 1 v n (bvals out)) : (convert 45 9 v).run Tryz.prog w = .ok (.string ⟨out.toArray⟩) w := by
  have hn : n = out.length := by have := h.1; rw [bvals_len] at this; omega
  subst hn
  rcases h.2 with ⟨rfl, h0⟩ | ⟨g, o, cap, cur, rfl, _, hg, hnc, _, hsz, htake⟩
  · have : out = [] := List.eq_nil_of_length_eq_zero h0
    subst this
    rw [run_convert_bytes_string w 45 9 5 none 0 0 Tryz.underlying45 Tryz.underlying5 Tryz.underlying9]
    rfl
  · refine run_convert_bytes_back w 45 9 5 ⟨g, o, none⟩ cap out Tryz.underlying45 Tryz.underlying5 Tryz.underlying9 (fun j hj => ?_)
    obtain ⟨g', o', c', e', _, _, _, _, hc⟩ := h.cells (by omega)
    cases e'
    rw [Addr.add_lit]
    exact hc j (.int .u8 (out[j].toNat : Int)) (by simp [bvals, hj])
theorem bvals_set (l : Bs) (k : Nat) (x : UInt8) : (bvals l).toArray.setIfInBounds k (.int .u8 (x.toNat : Int)) = (bvals (l.set k x)).toArray := by
  simp [bvals]
theorem sec_next {n k : Nat} {l : Bs} (hk : k < l.length) (hk2 : k < (secN n).length) (h : l.take k = (secN n).take k) : (l.set k (UInt8.ofNat (n + k))).take (k + 1) = (secN n).take (k + 1) := by
  rw [take_snoc (show k < (l.set k (UInt8.ofNat (n + k))).length by rw [List.length_set]; exact hk), take_snoc hk2, List.take_set_of_le (Nat.le_refl _), h, List.getElem_set_self]
  congr 2
  simp [secN]
theorem secret_any (n : Nat) (w : World) (hn : n < 256) :
    Calls Tryz.prog 44 #[.int .u8 (n : Int)] w fun e w' => e = .returned (.string ⟨(secN n).toArray⟩) ∧ Below w.heap.size w w' := by
  have h1 : (0 : Int) ≤ (n : Int) := by omega
  have h2 : (n : Int) < 256 := by omega
  obtain ⟨m, hm⟩ : ∃ m, n % 80 = m := ⟨_, rfl⟩
  have hmod : (n : Int) % 80 = (m : Int) := by omega
  have hm80 : m < 80 := by omega
  have HM := Lib.hid hmod
  have HL := Lib.hid (show (secN n).length = m by rw [secN_len, hm])
  clear hmod hm
  go_enter Tryz.func44, Tryz.ntmps44
  go_wp2_with ((refine wpList_make_bytes rfl _ _ rfl m ((n : Int) % 80) rfl rfl HM.out (by omega) ?_))
  go_loopw [4, 11] (fun x i wr => ∃ (k : Nat) (l : Bs), k ≤ m ∧ i = .int .i64 k ∧ l.length = m ∧ Hid (l.take k = (secN n).take k) ∧ Bx wr w.heap.size 5 (bvals l).toArray ∧ Below w.heap.size w wr) (fun _ i _ => m - (intOf i).toNat)
  case atStart => exact ⟨0, List.replicate m 0, Nat.zero_le _, rfl, by simp, Lib.hid rfl, Bx.new w _ _, (Below.refl _ _).alloc (Nat.le_refl _) _⟩
  case round =>
    obtain ⟨k, l, hk, rfl, hll, HT, hbx, hbel⟩ := hrel
    have HX := Lib.hid hbx
    have HB := Lib.hid hbel
    have HLL := Lib.hid hll
    have hz := hbx.lt
    by_cases hlt : k < m
    · obtain ⟨y, hy⟩ : ∃ y, l[k]? = some y := ⟨_, List.getElem?_eq_getElem (by omega)⟩
      have hc : wr.cell? ⟨w.heap.size, k, none⟩ = some (.int .u8 (y.toNat : Int)) := hbx.cell (by simp [bvals, hy])
      have hf := hbx.frz k
      have hv : ((n : Int) + (k : Int)) % 256 = ((UInt8.ofNat (n + k)).toNat : Int) := by simp
      have HV := Lib.hid hv
      have hk3 : (k : Int) < 256 := by omega
      clear hbx hbel hv hll hy
      go_wp2
      go_roundw
      case rel =>
        refine ⟨k + 1, l.set k (UInt8.ofNat (n + k)), by omega, by go_num, by rw [List.length_set]; exact HLL.out, Lib.hid (sec_next (by have := HLL.out; omega) (by have := HL.out; omega) HT.out), ?_, HB.out.setCell (p := ⟨w.heap.size, k, none⟩) (Nat.le_refl _) _⟩
        have h9 := HX.out.set k (.int .u8 (((n : Int) + (k : Int)) % 256))
        rw [HV.out, bvals_set] at h9
        rw [HV.out]
        exact h9
      case measure => simp [intOf]; omega
    · have HE : Hid (l = secN n) := Lib.hid (by
        have h9 := HT.out
        rw [List.take_of_length_le (by omega), List.take_of_length_le (by have := HL.out; omega)] at h9
        exact h9)
      have hown : OwnWin wr w.heap.size 5 1 (.slice (some ⟨w.heap.size, 0, none⟩) m m) m (bvals l) :=
        ⟨by rw [bvals_len, hll]; omega, .inr ⟨w.heap.size, 0, m, (bvals l).toArray, rfl, Nat.le_refl _, hbx, Nat.le_refl _, by unfold maxLen; omega, by simp [bvals, hll], by rw [List.drop_zero, Nat.mul_one, List.take_of_length_le (by simp [bvals, hll])]⟩⟩
      have hcv := convK_owned l hown
      clear hown hbx hbel hll
      go_wp2
      go_ret
      exact ⟨ret_str HE.out, HB.out⟩
end Kr
end Go.Proofs.YtpmhkkjecapbeaaGreatDoor
end

section
namespace Go.Proofs.YtpmhkkjecapbeaaGreatDoor
open Go.RowKit Pl Ad
set_option maxRecDepth 100000
set_option maxHeartbeats 4000000
set_option linter.unusedVariables false
set_option linter.unusedSimpArgs false
namespace Dg
open Kr
theorem dsum_any (a : Option Addr) (c : Nat) (m : Bs) (w : World) (h : SrcAt w (.slice a m.length c) m.length (bvals m)) (hc : ConstAt w) (hm : m.length ≤ 1073741824) :
    Calls Tryz.prog 75 #[.slice a m.length c] w fun e w' => ∃ ua uc, e = .returned (.slice ua 32 uc) ∧ OwnWin w' w.heap.size 5 1 (.slice ua 32 uc) 32 (bvals (sumM mixM m)) ∧ Below w.heap.size w w' := by
  have hg := hc.lt
  have hb0 := (Below.refl w.heap.size w).alloc (Nat.le_refl _) (.cells (hashC initS (.slice none 0 0) 0) 174)
  have HB0 := Lib.hid hb0
  have HC0 := Lib.hid (hc.below hb0)
  have HS := Lib.hid (show ∀ x, SrcAt ((w.alloc (.cells (hashC initS (.slice none 0 0) 0) 174)).setCell ⟨w.heap.size, 9, none⟩ x) (.slice a m.length c) m.length (bvals m) from fun x => h.older (hb0.setCell (p := ⟨w.heap.size, 9, none⟩) (Nat.le_refl _) x))
  have HSUM := Lib.hid (show outM (runL mixM (runL mixM initS ([] ++ m)).1 ((runL mixM initS ([] ++ m)).2 ++ tailM (0 + m.length))).1 = sumM mixM m by
    rw [List.nil_append, Nat.zero_add, ← runL_append _ _ _ _ (Nat.le_refl _)]; rfl)
  have HLEN := Lib.hid (show (runL mixM initS ([] ++ m)).2.length = (0 + m.length) % 64 by rw [List.nil_append, Nat.zero_add]; exact runL_rest _ _ _ (Nat.le_refl _))
  clear h hc hb0
  go_enter Tryz.func75, Tryz.ntmps75
  go_wp2_with (first
    | (go_at_call 72; refine (hashNew_any _).mono ?_; rintro e w1 ⟨rfl, rfl⟩)
    | (go_at_call 73; refine (write_any w.heap.size w.heap.size initS (.slice none 0 0) (.slice a m.length c) [] m 0 _ (hashAt_new w) HB0.out.size hg HS.out ⟨a, c, rfl⟩ HC0.out (by simp) hm (by omega)).mono ?_; rintro e w2 ⟨rfl, v2, hh2, hb2⟩; have HH2 := Lib.hid hh2; have HB2 := Lib.hid (HB0.out.trans hb2); have HC2 := Lib.hid (HC0.out.belowB hb2 hg); clear hh2 hb2)
    | (go_at_call 76; refine (hsum_any w.heap.size w.heap.size _ v2 _ (0 + m.length) _ HH2.out HC2.out HLEN.out (by omega)).mono ?_; rw [HSUM.out]; rintro e w3 ⟨ua, uc, rfl, hu3, hb3⟩))
  go_ret
  exact ⟨ua, uc, rfl, hu3.mono (fun k hk => by have := (hu3.lt k hk).1; have := HB2.out.size; omega), HB2.out.trans (hb3.mono HB2.out.size)⟩
/-- The first k bytes are changed. -/
def xorK (p : Bs) (x : UInt8) (k : Nat) : Bs := (p.map (· ^^^ x)).take k ++ p.drop k
theorem xorK_len (p : Bs) (x : UInt8) (k : Nat) (h : k ≤ p.length) : (xorK p x k).length = p.length := by
  unfold xorK; rw [List.length_append, List.length_take, List.length_map, List.length_drop]; omega
theorem xorK_at (p : Bs) (x : UInt8) {k : Nat} (h : k < p.length) : (xorK p x k)[k]? = some p[k] := by
  unfold xorK
  rw [List.getElem?_append_right (by rw [List.length_take, List.length_map]; omega), List.length_take, List.length_map, show k - min k p.length = 0 by omega, List.getElem?_drop, Nat.add_zero, List.getElem?_eq_getElem h]
theorem xorK_set (p : Bs) (x : UInt8) {k : Nat} (h : k < p.length) : (xorK p x k).set k (p[k] ^^^ x) = xorK p x (k + 1) := by
  unfold xorK
  have hl : ((p.map (· ^^^ x)).take k).length = k := by rw [List.length_take, List.length_map]; omega
  rw [List.set_append_right _ _ (by omega), hl, Nat.sub_self, List.drop_eq_getElem_cons h, List.set_cons_zero, take_snoc (show k < (p.map (· ^^^ x)).length by rw [List.length_map]; exact h)]
  simp
theorem xorK_all (p : Bs) (x : UInt8) : xorK p x p.length = p.map (· ^^^ x) := by unfold xorK; rw [List.take_of_length_le (by simp), List.drop_length, List.append_nil]
theorem xorI (x : UInt8) (hx : x = 54 ∨ x = 92) (b : UInt8) : bits .xor .u8 (b.toNat : Int) (x.toNat : Int) = ((b ^^^ x).toNat : Int) := by
  have h1 : ∀ d : Fin 256, bits .xor .u8 (d.val : Int) 54 = ((UInt8.ofNat d.val ^^^ 54).toNat : Int) := by decide +kernel
  have h2 : ∀ d : Fin 256, bits .xor .u8 (d.val : Int) 92 = ((UInt8.ofNat d.val ^^^ 92).toNat : Int) := by decide +kernel
  rcases hx with rfl | rfl
  · have := h1 ⟨b.toNat, b.toNat_lt⟩
    simpa using this
  · have := h2 ⟨b.toNat, b.toNat_lt⟩
    simpa using this
theorem srcPos {w : World} {a : Option Addr} {n c : Nat} {xs : List Value} (h : SrcAt w (.slice a n c) n xs) (hp : 0 < xs.length) : ∃ ad, a = some ad ∧ ∀ j v, xs[j]? = some v → w.cell? (ad.add j) = some v := by
  rcases h with ⟨_, _, rfl⟩ | ⟨ad, c', h1, h2⟩
  · simp at hp
  · cases h1
    exact ⟨ad, rfl, h2⟩
theorem splice_pad (k : Bs) (hk : k.length ≤ 64) : splice (bvals (List.replicate 64 0)) 0 (bvals k) = bvals (k ++ List.replicate (64 - k.length) 0) := by
  unfold splice
  rw [List.take_zero, List.nil_append, Nat.zero_add, bvals_len, bvals_drop, bvals_append, List.drop_replicate]
theorem padded_short (a : Option Addr) (c : Nat) (key : Bs) (x : UInt8) (hx : x = 54 ∨ x = 92) (w : World) (h : SrcAt w (.slice a key.length c) key.length (bvals key)) (hc : ConstAt w) (hm : key.length ≤ 1073741824) (hs : key.length ≤ 64) :
    Calls Tryz.prog 74 #[.slice a key.length c, .int .u8 (x.toNat : Int)] w fun e w' => ∃ ua uc, e = .returned (.slice ua 64 uc) ∧ OwnWin w' w.heap.size 5 1 (.slice ua 64 uc) 64 (bvals (padK (keyM mixM key) x)) ∧ Below w.heap.size w w' := by
  have hmk : ∀ w, (Instr.makeSlice 45 (.int .i64 64) (.int .i64 64)).run Tryz.prog w = .ok (.slice (some ⟨w.heap.size, 0, none⟩) 64 64) (w.alloc (.cells (bvals (List.replicate 64 0)).toArray 5)) := fun _ => by kernel_rfl
  have HC := Lib.hid hc
  have HS := Lib.hid h
  have HKEY := Lib.hid (show keyM mixM key = key by unfold keyM; rw [if_neg (by omega)])
  have HKL := Lib.hid hs
  have HN := Lib.hid (show (bvals key).length = Nat.min key.length 64 by rw [bvals_len]; exact (Nat.min_eq_left hs).symm)
  have HF := Lib.hid (show 0 + (bvals key).length ≤ (bvals (List.replicate 64 0)).length by rw [bvals_len, bvals_len, List.length_replicate]; omega)
  have HB := Lib.hid (Below.refl w.heap.size w)
  have hsi : ¬ (64 : Int) < (key.length : Int) := by omega
  clear h hc
  go_enter Tryz.func74, Tryz.ntmps74
  go_wp2_with (first | (have hal := (Below.refl w.heap.size w).alloc (Nat.le_refl _) (.cells (bvals (List.replicate 64 0)).toArray 5); refine wpList_copy_splice rfl _ _ 45 45 rfl 5 Tryz.underlying45 (by kernel_rfl) (some ⟨w.heap.size, 0, none⟩) a 64 64 key.length c rfl rfl w.heap.size 0 (bvals (List.replicate 64 0)) 5 (heap_alloc_new w _) (bvals key) HN.out (fun hp => ⟨rfl, srcPos (HS.out.older hal) hp⟩) HF.out (bvals_one _) w.heap.size w (HB.out.alloc HB.out.size _) HB.out.size ?_; intro w2 hrow hb2; have HR2 := Lib.hid (show Bx w2 w.heap.size 5 (bvals (xorK (key ++ List.replicate (64 - key.length) 0) x 0)).toArray by have h9 := hrow.out; rw [splice_pad key HKL.out] at h9; exact h9); have HB2 := Lib.hid hb2; clear hrow hb2 hal))
  have HBX := Lib.hid (HB.out.size)
  go_wp2_with fail
  obtain ⟨P, hP⟩ : ∃ P, key ++ List.replicate (64 - key.length) 0 = P := ⟨_, rfl⟩
  have hPl : P.length = 64 := by rw [← hP, List.length_append, List.length_replicate]; have := HKL.out; omega
  have HP := Lib.hid (show P.map (· ^^^ x) = padK (keyM mixM key) x by rw [← hP, HKEY.out]; rfl)
  rw [hP] at HR2
  clear hP
  obtain ⟨g, hg9⟩ : ∃ g, w.heap.size = g := ⟨_, rfl⟩
  have HG := Lib.hid (show w.heap.size ≤ g by have := HBX.out; omega)
  rw [hg9] at HR2
  rw [hg9]
  clear hg9
  go_loopg [18, 6] 64 (fun gq iv s6 wr => ∃ k : Nat, iv = .int .i64 k ∧ k ≤ 64 ∧ Hid (64 ≤ gq + k) ∧ Bx wr g 5 (bvals (xorK P x k)).toArray ∧ Below w.heap.size w wr)
  case atStart => exact ⟨0, rfl, Nat.zero_le _, Lib.hid (by omega), HR2.out, HB2.out⟩
  case round =>
    obtain ⟨k, rfl, hk, HQ, hbx, hbel⟩ := hrel
    clear HR2 HB2
    have HX := Lib.hid hbx
    have HB := Lib.hid hbel
    have hz := hbx.lt
    by_cases hlt : k < 64
    · obtain ⟨y, hy⟩ : ∃ y, P[k]? = some y := ⟨_, List.getElem?_eq_getElem (by omega)⟩
      have hyk : P[k]'(by omega) = y := by rw [List.getElem?_eq_getElem (by omega)] at hy; exact Option.some.inj hy
      have hc0 : wr.cell? ⟨g, k, none⟩ = some (.int .u8 (y.toNat : Int)) := hbx.cell (by have h9 := xorK_at P x (show k < P.length by omega); rw [hyk] at h9; simp [bvals, h9])
      have hf := hbx.frz k
      have HV := Lib.hid (xorI x hx y)
      have HST := Lib.hid (show (bvals (xorK P x k)).toArray.setIfInBounds k (.int .u8 ((y ^^^ x).toNat : Int)) = (bvals (xorK P x (k + 1))).toArray by rw [bvals_set, ← hyk, xorK_set P x (by omega)])
      have hk0 : (0 : Int) ≤ (k : Int) := by omega
      have hk1 : (k : Int) < 64 := by omega
      clear hbx hbel hy hyk
      go_wp2_with fail
      go_roundg (gk - 1)
      case rel =>
        refine ⟨k + 1, by go_num, by omega, Lib.hid (by have := HQ.out; omega), ?_, HB.out.setCell (p := ⟨g, k, none⟩) HG.out _⟩
        rw [HV.out, ← HST.out]
        exact HX.out.set k _
      case measure => have := HQ.out; omega
    · obtain rfl : k = 64 := by omega
      have HOWN := Lib.hid (show OwnWin wr w.heap.size 5 1 (.slice (some ⟨g, 0, none⟩) 64 64) 64 (bvals (padK (keyM mixM key) x)) from by
        have h9 : xorK P x 64 = padK (keyM mixM key) x := by rw [← HP.out, ← xorK_all, hPl]
        rw [← h9]
        have hl : (bvals (xorK P x 64)).length = 64 := by rw [bvals_len, xorK_len P x 64 (by omega), hPl]
        exact ⟨by rw [hl], .inr ⟨g, 0, 64, _, rfl, HG.out, HX.out, Nat.le_refl _, by unfold maxLen; omega, by simp [hl], by rw [List.drop_zero, Nat.mul_one, List.take_of_length_le (by simp [hl])]⟩⟩)
      clear hbx hbel
      go_wp2_with fail
      go_ret
      exact ⟨_, _, rfl, HOWN.out, HB.out⟩
theorem padded_long (a : Option Addr) (c : Nat) (key : Bs) (x : UInt8) (hx : x = 54 ∨ x = 92) (w : World) (h : SrcAt w (.slice a key.length c) key.length (bvals key)) (hc : ConstAt w) (hm : key.length ≤ 1073741824) (hs : 64 < key.length) :
    Calls Tryz.prog 74 #[.slice a key.length c, .int .u8 (x.toNat : Int)] w fun e w' => ∃ ua uc, e = .returned (.slice ua 64 uc) ∧ OwnWin w' w.heap.size 5 1 (.slice ua 64 uc) 64 (bvals (padK (keyM mixM key) x)) ∧ Below w.heap.size w w' := by
  have hmk : ∀ w, (Instr.makeSlice 45 (.int .i64 64) (.int .i64 64)).run Tryz.prog w = .ok (.slice (some ⟨w.heap.size, 0, none⟩) 64 64) (w.alloc (.cells (bvals (List.replicate 64 0)).toArray 5)) := fun _ => by kernel_rfl
  have HC := Lib.hid hc
  have HS := Lib.hid h
  have HKEY := Lib.hid (show keyM mixM key = sumM mixM key by unfold keyM; rw [if_pos hs])
  have HKL := Lib.hid (show (sumM mixM key).length ≤ 64 by rw [sumM_len]; omega)
  have HN := Lib.hid (show (bvals (sumM mixM key)).length = Nat.min (sumM mixM key).length 64 by rw [bvals_len]; exact (Nat.min_eq_left HKL.out).symm)
  have HF := Lib.hid (show 0 + (bvals (sumM mixM key)).length ≤ (bvals (List.replicate 64 0)).length by rw [bvals_len, bvals_len, List.length_replicate]; have := HKL.out; omega)
  have hsi : (64 : Int) < (key.length : Int) := by omega
  clear h hc
  go_enter Tryz.func74, Tryz.ntmps74
  go_wp2_with (first | (go_at_call 75; refine (dsum_any a c key _ HS.out HC.out hm).mono ?_; rintro e w1 ⟨ka, kc, rfl, hu1, hb1⟩; have HU1 := Lib.hid (SrcAt.of hu1); have HB1 := Lib.hid hb1; clear hu1 hb1) | (have hal := (Below.refl w1.heap.size w1).alloc (Nat.le_refl _) (.cells (bvals (List.replicate 64 0)).toArray 5); refine wpList_copy_splice rfl _ _ 45 45 rfl 5 Tryz.underlying45 (by kernel_rfl) (some ⟨w1.heap.size, 0, none⟩) ka 64 64 (sumM mixM key).length kc rfl rfl w1.heap.size 0 (bvals (List.replicate 64 0)) 5 (heap_alloc_new w1 _) (bvals (sumM mixM key)) HN.out (fun hp => ⟨rfl, srcPos (HU1.out.older hal) hp⟩) HF.out (bvals_one _) w.heap.size w (HB1.out.alloc HB1.out.size _) HB1.out.size ?_; intro w2 hrow hb2; have HR2 := Lib.hid (show Bx w2 w1.heap.size 5 (bvals (xorK ((sumM mixM key) ++ List.replicate (64 - (sumM mixM key).length) 0) x 0)).toArray by have h9 := hrow.out; rw [splice_pad (sumM mixM key) HKL.out] at h9; exact h9); have HB2 := Lib.hid hb2; clear hrow hb2 hal))
  have HBX := Lib.hid (HB1.out.size)
  go_wp2_with fail
  obtain ⟨P, hP⟩ : ∃ P, (sumM mixM key) ++ List.replicate (64 - (sumM mixM key).length) 0 = P := ⟨_, rfl⟩
  have hPl : P.length = 64 := by rw [← hP, List.length_append, List.length_replicate]; have := HKL.out; omega
  have HP := Lib.hid (show P.map (· ^^^ x) = padK (keyM mixM key) x by rw [← hP, HKEY.out]; rfl)
  rw [hP] at HR2
  clear hP
  obtain ⟨g, hg9⟩ : ∃ g, w1.heap.size = g := ⟨_, rfl⟩
  have HG := Lib.hid (show w.heap.size ≤ g by have := HBX.out; omega)
  rw [hg9] at HR2
  rw [hg9]
  clear hg9
  go_loopg [18, 6] 64 (fun gq iv s6 wr => ∃ k : Nat, iv = .int .i64 k ∧ k ≤ 64 ∧ Hid (64 ≤ gq + k) ∧ Bx wr g 5 (bvals (xorK P x k)).toArray ∧ Below w.heap.size w wr)
  case atStart => exact ⟨0, rfl, Nat.zero_le _, Lib.hid (by omega), HR2.out, HB2.out⟩
  case round =>
    obtain ⟨k, rfl, hk, HQ, hbx, hbel⟩ := hrel
    clear HR2 HB2
    have HX := Lib.hid hbx
    have HB := Lib.hid hbel
    have hz := hbx.lt
    by_cases hlt : k < 64
    · obtain ⟨y, hy⟩ : ∃ y, P[k]? = some y := ⟨_, List.getElem?_eq_getElem (by omega)⟩
      have hyk : P[k]'(by omega) = y := by rw [List.getElem?_eq_getElem (by omega)] at hy; exact Option.some.inj hy
      have hc0 : wr.cell? ⟨g, k, none⟩ = some (.int .u8 (y.toNat : Int)) := hbx.cell (by have h9 := xorK_at P x (show k < P.length by omega); rw [hyk] at h9; simp [bvals, h9])
      have hf := hbx.frz k
      have HV := Lib.hid (xorI x hx y)
      have HST := Lib.hid (show (bvals (xorK P x k)).toArray.setIfInBounds k (.int .u8 ((y ^^^ x).toNat : Int)) = (bvals (xorK P x (k + 1))).toArray by rw [bvals_set, ← hyk, xorK_set P x (by omega)])
      have hk0 : (0 : Int) ≤ (k : Int) := by omega
      have hk1 : (k : Int) < 64 := by omega
      clear hbx hbel hy hyk
      go_wp2_with fail
      go_roundg (gk - 1)
      case rel =>
        refine ⟨k + 1, by go_num, by omega, Lib.hid (by have := HQ.out; omega), ?_, HB.out.setCell (p := ⟨g, k, none⟩) HG.out _⟩
        rw [HV.out, ← HST.out]
        exact HX.out.set k _
      case measure => have := HQ.out; omega
    · obtain rfl : k = 64 := by omega
      have HOWN := Lib.hid (show OwnWin wr w.heap.size 5 1 (.slice (some ⟨g, 0, none⟩) 64 64) 64 (bvals (padK (keyM mixM key) x)) from by
        have h9 : xorK P x 64 = padK (keyM mixM key) x := by rw [← HP.out, ← xorK_all, hPl]
        rw [← h9]
        have hl : (bvals (xorK P x 64)).length = 64 := by rw [bvals_len, xorK_len P x 64 (by omega), hPl]
        exact ⟨by rw [hl], .inr ⟨g, 0, 64, _, rfl, HG.out, HX.out, Nat.le_refl _, by unfold maxLen; omega, by simp [hl], by rw [List.drop_zero, Nat.mul_one, List.take_of_length_le (by simp [hl])]⟩⟩)
      clear hbx hbel
      go_wp2_with fail
      go_ret
      exact ⟨_, _, rfl, HOWN.out, HB.out⟩
theorem padded_any (a : Option Addr) (c : Nat) (key : Bs) (x : UInt8) (hx : x = 54 ∨ x = 92) (w : World) (h : SrcAt w (.slice a key.length c) key.length (bvals key)) (hc : ConstAt w) (hm : key.length ≤ 1073741824) :
    Calls Tryz.prog 74 #[.slice a key.length c, .int .u8 (x.toNat : Int)] w fun e w' => ∃ ua uc, e = .returned (.slice ua 64 uc) ∧ OwnWin w' w.heap.size 5 1 (.slice ua 64 uc) 64 (bvals (padK (keyM mixM key) x)) ∧ Below w.heap.size w w' := by
  by_cases hs : key.length ≤ 64
  · exact padded_short a c key x hx w h hc hm hs
  · exact padded_long a c key x hx w h hc hm (by omega)
end Dg
end Go.Proofs.YtpmhkkjecapbeaaGreatDoor
end

section
namespace Go.Proofs.YtpmhkkjecapbeaaGreatDoor
open Go.RowKit Pl Ad Go.Shelf
attribute [local go_sem] ba_get ba_append ba_extract_end ba_extract_zero ba_extract conv_one
set_option maxRecDepth 100000
set_option maxHeartbeats 4000000
set_option linter.unusedVariables false
set_option linter.unusedSimpArgs false
namespace Sg
open Kr A1 Dg
theorem hex_at (n : Nat) (h : n < ([48, 49, 50, 51, 52, 53, 54, 55, 56, 57, 97, 98, 99, 100, 101, 102] : Bs).length) : ([48, 49, 50, 51, 52, 53, 54, 55, 56, 57, 97, 98, 99, 100, 101, 102] : Bs)[n] = hexDig.getD n 0 := by
  unfold hexDig
  rw [List.getD_eq_getElem?_getD, List.getElem?_eq_getElem h]; rfl
theorem hex_take {l : Bs} {k : Nat} (hk : k < l.length) : hexL (l.take (k + 1)) = hexL (l.take k) ++ [hexDig.getD (l[k].toNat / 16) 0, hexDig.getD (l[k].toNat % 16) 0] := by
  rw [take_snoc hk, hexL_snoc]
theorem madeZ (m : Nat) : madeCells (Value.int .u8 0).cells (m * 1) = (bvals (List.replicate m 0)).toArray := by
  simp [madeCells, bvals, Value.cells]
  apply Array.ext
  · simp
  · intro i h1 h2
    simp [Nat.mod_one]
theorem wpList_make_room {w : World} {ops : Array Oper} {rest : List Oper} {o : Oper} {a : Act} {Q : Exit → Act → World → Prop} (hg : o.guard = none) (l c : Operand) (hop : o.op = Op.makeSlice 45 l c) (n : Nat) (N : Int)
    (hl : a.eval l = .int .i64 0) (hc : a.eval c = .int .i64 N) (hN : N = (n : Int)) (hn : n ≤ 1000000)
    (hK : wpList Tryz.prog ops Q rest (a.put o.dst (.slice (some ⟨w.heap.size, 0, none⟩) 0 n)) (w.alloc (.cells (bvals (List.replicate n 0)).toArray 5))) : wpList Tryz.prog ops Q (o :: rest) a w := by
  refine wpList_plain hg fun K hK' => ?_
  obtain ⟨i, h1, h2, h3, h4⟩ := info_parts (show (Tryz.prog.info? 5).map (fun i => (i.zero, i.size, i.bytes)) = some (some (.int .u8 0), 1, 1) by kernel_rfl)
  have hr := run_make (P := Tryz.prog) w 45 5 i (.int .u8 0) Tryz.underlying45 h1 h2 .i64 .i64 0 N (by omega) (by omega) (by rw [h4]; omega) (by omega)
  subst hN
  rw [h3] at hr
  simp only [Int.toNat_natCast, Int.toNat_zero] at hr
  rw [madeZ] at hr
  unfold Oper.wp
  simp [execOp, hop, hl, hc, hr, Result.andThen]
  exact hK' _ _ (by simpa using hK)
theorem conv_owned {w : World} {B n : Nat} {v : Value} (out : Bs) (h : OwnWin w B 5 1 v n (bvals out)) : (convert 45 9 v).run Tryz.prog w = .ok (.string ⟨out.toArray⟩) w := by
  have hn : n = out.length := by have := h.1; rw [bvals_len] at this; omega
  subst hn
  rcases h.2 with ⟨rfl, h0⟩ | ⟨g, o, cap, cur, rfl, _, hg, hnc, _, hsz, htake⟩
  · have : out = [] := List.eq_nil_of_length_eq_zero h0
    subst this
    rw [run_convert_bytes_string w 45 9 5 none 0 0 Tryz.underlying45 Tryz.underlying5 Tryz.underlying9]
    rfl
  · refine run_convert_bytes_back w 45 9 5 ⟨g, o, none⟩ cap out Tryz.underlying45 Tryz.underlying5 Tryz.underlying9 (fun j hj => ?_)
    obtain ⟨g', o', c', e', _, _, _, _, hc⟩ := h.cells (by omega)
    cases e'
    rw [Addr.add_lit]
    exact hc j (.int .u8 (out[j].toNat : Int)) (by simp [bvals, hj])
theorem own_room (w : World) (n : Nat) (hn : n ≤ 1000000) : OwnWin (w.alloc (.cells (bvals (List.replicate n 0)).toArray 5)) w.heap.size 5 1 (.slice (some ⟨w.heap.size, 0, none⟩) 0 n) 0 (bvals []) :=
  ⟨rfl, .inr ⟨w.heap.size, 0, n, _, rfl, Nat.le_refl _, heap_alloc_new w _, Nat.zero_le _, by unfold maxLen; omega, by simp [bvals], by simp [bvals]⟩⟩
theorem hex_any (a : Option Addr) (c : Nat) (l : Bs) (w : World) (h : SrcAt w (.slice a l.length c) l.length (bvals l)) (hl : l.length ≤ 64) :
    Calls Tryz.prog 29 #[.slice a l.length c] w fun e w' => e = .returned (.string ⟨(hexL l).toArray⟩) ∧ Below w.heap.size w w' := by
  have HMK : IntKind.i64.wrap (2 * (l.length : Int)) = ((2 * l.length : Nat) : Int) := by rw [IntKind.wrap_i64]; omega
  have HS := Lib.hid h
  have HO0 := Lib.hid (own_room w (2 * l.length) (by omega))
  have HB0 := Lib.hid ((Below.refl w.heap.size w).alloc (Nat.le_refl _) (.cells (bvals (List.replicate (2 * l.length) 0)).toArray 5))
  clear h
  go_enter Tryz.func29, Tryz.ntmps29
  go_wp2_with (refine wpList_make_room (by rfl) _ _ (by rfl) (2 * l.length) _ (by rfl) (by rfl) (by first | exact HMK | omega) (by omega) ?_)
  go_loopg [12, 3] l.length (fun gq iv sv wr => ∃ (k N : Nat) (ua : Option Addr) (uc : Nat), iv = .int .i64 k ∧ k ≤ l.length ∧ Hid (l.length ≤ gq + k) ∧ sv = .slice ua N uc ∧ Hid (N = 2 * k) ∧ OwnWin wr w.heap.size 5 1 (.slice ua N uc) N (bvals (hexL (l.take k))) ∧ Below w.heap.size w wr)
  case atStart => exact ⟨0, 0, some ⟨w.heap.size, 0, none⟩, 2 * l.length, rfl, Nat.zero_le _, Lib.hid (by omega), rfl, Lib.hid rfl, HO0.out, HB0.out⟩
  case round =>
    obtain ⟨k, N, ua, uc, rfl, hk, HQ, rfl, HN, hown, hbel⟩ := hrel
    clear HO0 HB0 HMK
    have HOW := Lib.hid hown
    have HBW := Lib.hid hbel
    have HSW := Lib.hid (HS.out.older hbel)
    have hNb : N ≤ 128 := by have := HN.out; omega
    clear hown hbel
    by_cases hlt : k < l.length
    · obtain ⟨ad, had, hcell⟩ := srcPos HSW.out (show 0 < (bvals l).length by rw [bvals_len]; omega)
      have hc9 := hcell k (.int .u8 ((l[k].toNat : Nat) : Int)) (by simp [bvals, hlt])
      subst had
      have hz9 := World.block_lt_of_cell? wr _ hc9
      have HTK := Lib.hid (hex_take hlt)
      have hmb := byte_lt l[k]
      clear hcell
      obtain ⟨m, hm⟩ : ∃ m, l[k].toNat = m := ⟨_, rfl⟩
      rw [hm] at hc9 HTK hmb
      clear hm
      have q1 : (0 : Int) ≤ (m : Int) / 16 := by omega
      have q2 : (m : Int) / 16 < 16 := by omega
      have q3 : ((m : Int) / 16).toNat = m / 16 := by omega
      have q4 : (0 : Int) ≤ (m : Int) % 16 := by omega
      have q5 : (m : Int) % 16 < 16 := by omega
      have q6 : ((m : Int) % 16).toNat = m % 16 := by omega
      have q7 := and15 m (by omega)
      have e1 : m / 16 < ([48, 49, 50, 51, 52, 53, 54, 55, 56, 57, 97, 98, 99, 100, 101, 102] : Bs).length := by simp; omega
      have e2 : m % 16 < ([48, 49, 50, 51, 52, 53, 54, 55, 56, 57, 97, 98, 99, 100, 101, 102] : Bs).length := by simp; omega
      have HV := Lib.hid (show [Value.int .u8 (((([48, 49, 50, 51, 52, 53, 54, 55, 56, 57, 97, 98, 99, 100, 101, 102] : Bs)[m / 16]'e1).toNat : Nat) : Int), Value.int .u8 (((([48, 49, 50, 51, 52, 53, 54, 55, 56, 57, 97, 98, 99, 100, 101, 102] : Bs)[m % 16]'e2).toNat : Nat) : Int)] = bvals [hexDig.getD (m / 16) 0, hexDig.getD (m % 16) 0] by rw [hex_at _ e1, hex_at _ e2]; rfl)
      go_wp2_with fail
      have hbd : Below wr.heap.size wr (wr.drew.alloc (.cells #[.int .u8 (((([48, 49, 50, 51, 52, 53, 54, 55, 56, 57, 97, 98, 99, 100, 101, 102] : Bs)[m / 16]'e1).toNat : Nat) : Int), .int .u8 (((([48, 49, 50, 51, 52, 53, 54, 55, 56, 57, 97, 98, 99, 100, 101, 102] : Bs)[m % 16]'e2).toNat : Nat) : Int)] 5)) := ((Below.refl wr.heap.size wr).drew).alloc (Nat.le_refl _) _
      have HOA := Lib.hid (HOW.out.older hbd)
      have HBA := Lib.hid (HBW.out.trans (hbd.mono HBW.out.size))
      have HZA := Lib.hid HBA.out.size
      have HSR := Lib.hid (show SrcAt (wr.drew.alloc (.cells #[.int .u8 (((([48, 49, 50, 51, 52, 53, 54, 55, 56, 57, 97, 98, 99, 100, 101, 102] : Bs)[m / 16]'e1).toNat : Nat) : Int), .int .u8 (((([48, 49, 50, 51, 52, 53, 54, 55, 56, 57, 97, 98, 99, 100, 101, 102] : Bs)[m % 16]'e2).toNat : Nat) : Int)] 5)) (.slice (some ⟨wr.heap.size, 0, none⟩) 2 2) 2 [.int .u8 (((([48, 49, 50, 51, 52, 53, 54, 55, 56, 57, 97, 98, 99, 100, 101, 102] : Bs)[m / 16]'e1).toNat : Nat) : Int), .int .u8 (((([48, 49, 50, 51, 52, 53, 54, 55, 56, 57, 97, 98, 99, 100, 101, 102] : Bs)[m % 16]'e2).toNat : Nat) : Int)] from srcMany (heap_alloc_new wr.drew _))
      clear hbd
      refine wp_region_held_drew (S := fun _ => True) (by kernel_rfl) (by trivial) (fun hHeld => ?_)
      refine wpAnyH_take (i := 0) (v := ?_) (by simp only [List.getElem?_toArray, List.getElem?_cons_succ, List.getElem?_cons_zero]; rfl) (by kernel_rfl) (by kernel_rfl) (by kernel_rfl) (by intro _ _ _ h; exact h) (Or.inl ⟨by rfl, ?_⟩) (by assumption) ?_
      rotate_left
      focus (intro wT hT; (try dsimp only at hT); go_simp; try with_reducible rfl)
      try simp only [Act.put, List.setIfInBounds_toArray, List.set_cons_zero, List.set_cons_succ]
      refine wpAnyH_take (i := 1) (v := ?_) (by simp only [List.getElem?_toArray, List.getElem?_cons_succ, List.getElem?_cons_zero]; rfl) (by kernel_rfl) (by kernel_rfl) (by kernel_rfl) (by intro _ _ _ h; exact h) (Or.inl ⟨by rfl, ?_⟩) (by assumption) ?_
      rotate_left
      focus (intro wT hT; (try dsimp only at hT); go_simp; try with_reducible rfl)
      try simp only [Act.put, List.setIfInBounds_toArray, List.set_cons_zero, List.set_cons_succ]
      refine wpAnyH_take (i := 2) (v := ?_) (by simp only [List.getElem?_toArray, List.getElem?_cons_succ, List.getElem?_cons_zero]; rfl) (by kernel_rfl) (by kernel_rfl) (by kernel_rfl) (by intro _ _ _ h; exact h) (Or.inl ⟨by rfl, ?_⟩) (by assumption) ?_
      rotate_left
      focus (intro wT hT; (try dsimp only at hT); go_simp; try with_reducible rfl)
      try simp only [Act.put, List.setIfInBounds_toArray, List.set_cons_zero, List.set_cons_succ]
      refine wpAnyH_take (i := 3) (v := ?_) (by simp only [List.getElem?_toArray, List.getElem?_cons_succ, List.getElem?_cons_zero]; rfl) (by kernel_rfl) (by kernel_rfl) (by kernel_rfl) (by intro _ _ _ h; exact h) (Or.inl ⟨by rfl, ?_⟩) (by assumption) ?_
      rotate_left
      focus (intro wT hT; (try dsimp only at hT); go_simp; try with_reducible rfl)
      try simp only [Act.put, List.setIfInBounds_toArray, List.set_cons_zero, List.set_cons_succ]
      refine wpAnyH_take (i := 4) (v := ?_) (by simp only [List.getElem?_toArray, List.getElem?_cons_succ, List.getElem?_cons_zero]; rfl) (by kernel_rfl) (by kernel_rfl) (by kernel_rfl) (by intro _ _ _ h; exact h) (Or.inl ⟨by rfl, ?_⟩) (by assumption) ?_
      rotate_left
      focus (intro wT hT; (try dsimp only at hT); go_simp; try with_reducible rfl)
      try simp only [Act.put, List.setIfInBounds_toArray, List.set_cons_zero, List.set_cons_succ]
      refine wpAnyH_take (i := 5) (v := ?_) (by simp only [List.getElem?_toArray, List.getElem?_cons_succ, List.getElem?_cons_zero]; rfl) (by kernel_rfl) (by kernel_rfl) (by kernel_rfl) (by intro _ _ _ h; exact h) (Or.inl ⟨by rfl, ?_⟩) (by assumption) ?_
      rotate_left
      focus (intro wT hT; (try dsimp only at hT); go_simp; try with_reducible rfl)
      try simp only [Act.put, List.setIfInBounds_toArray, List.set_cons_zero, List.set_cons_succ]
      refine wpAnyH_take (i := 6) (v := ?_) (by simp only [List.getElem?_toArray, List.getElem?_cons_succ, List.getElem?_cons_zero]; rfl) (by kernel_rfl) (by kernel_rfl) (by kernel_rfl) (by intro _ _ _ h; exact h) (Or.inl ⟨by rfl, ?_⟩) (by assumption) ?_
      rotate_left
      focus (intro wT hT; (try dsimp only at hT); go_simp; try with_reducible rfl)
      try simp only [Act.put, List.setIfInBounds_toArray, List.set_cons_zero, List.set_cons_succ]
      refine wpAnyH_ready (rs := [7]) (by kernel_rfl) (by simp) (AllReadyH.cons (by simp only [List.getElem?_toArray, List.getElem?_cons_succ, List.getElem?_cons_zero]; rfl) (fun K hK => ?_) AllReadyH.nil)
      go_simp
      refine hK.out _ _ trivial (fun hHe2 => ?_)
      clear hK K
      try simp only [Act.put, List.setIfInBounds_toArray, List.set_cons_zero, List.set_cons_succ]
      refine wpAnyH_ready (rs := [8]) (by kernel_rfl) (by simp) (AllReadyH.cons (by simp only [List.getElem?_toArray, List.getElem?_cons_succ, List.getElem?_cons_zero]; rfl) (fun K hK => ?_) AllReadyH.nil)
      refine step_appw tyBytes (by rfl) _ _ (by rfl) w.heap.size (.slice ua N uc) N _ (by rfl) HOA.out HZA.out (.slice (some ⟨wr.heap.size, 0, none⟩) 2 2) 2 [.int .u8 (((([48, 49, 50, 51, 52, 53, 54, 55, 56, 57, 97, 98, 99, 100, 101, 102] : Bs)[m / 16]'e1).toNat : Nat) : Int), .int .u8 (((([48, 49, 50, 51, 52, 53, 54, 55, 56, 57, 97, 98, 99, 100, 101, 102] : Bs)[m % 16]'e2).toNat : Nat) : Int)] (by rfl) HSR.out (by rfl) (by simp [Value.oneCell']) (by omega) ?_
      intro v' w2 hown2 hgrow2 hlies2
      obtain ⟨ub, ud, rfl, hud⟩ := hown2.form
      have HBN := Lib.hid (belowK_grown HBA.out hgrow2 HZA.out (fun q hq => (HOA.out.lt q hq).1))
      refine hK.out _ _ trivial (fun hHe3 => ?_)
      clear hK K
      try simp only [Act.put, List.setIfInBounds_toArray, List.set_cons_zero, List.set_cons_succ]
      refine wpAnyH_take (i := 9) (v := ?_) (by simp only [List.getElem?_toArray, List.getElem?_cons_succ, List.getElem?_cons_zero]; rfl) (by kernel_rfl) (by kernel_rfl) (by kernel_rfl) (by intro _ _ _ h; exact h) (Or.inl ⟨by rfl, ?_⟩) (by assumption) ?_
      rotate_left
      focus (intro wT hT; (try dsimp only at hT); go_simp; try with_reducible rfl)
      try simp only [Act.put, List.setIfInBounds_toArray, List.set_cons_zero, List.set_cons_succ]
      refine wpAnyH_done (by kernel_rfl) ?_ _
      have HON := Lib.hid (show OwnWin w2 w.heap.size 5 1 (.slice ub (N + 2) ud) (N + 2) (bvals (hexL (l.take (k + 1)))) by rw [HTK.out, ← bvals_append, ← HV.out]; exact hown2)
      clear hown2 hgrow2 hlies2
      go_wp2_with fail
      go_roundg (gk - 1)
      case rel => exact ⟨k + 1, N + 2, ub, ud, by go_num, by omega, Lib.hid (by have := HQ.out; omega), rfl, Lib.hid (by have := HN.out; omega), HON.out, HBN.out⟩
      case measure => have := HQ.out; omega
    · have HCV := Lib.hid (conv_owned (hexL (l.take k)) HOW.out)
      have hcv := HCV.out
      have HT := Lib.hid (show hexL (l.take k) = hexL l by rw [List.take_of_length_le (by omega)])
      go_wp2_with fail
      go_ret
      exact ⟨ret_str HT.out, HBW.out⟩
end Sg
end Go.Proofs.YtpmhkkjecapbeaaGreatDoor
end

section
namespace Go.Proofs.YtpmhkkjecapbeaaGreatDoor
open Go.RowKit Pl Ad
set_option maxRecDepth 100000
set_option maxHeartbeats 4000000
set_option linter.unusedVariables false
set_option linter.unusedSimpArgs false
namespace Dg
open Kr
theorem hmac_any (ka : Option Addr) (kc : Nat) (key : Bs) (ta : Option Addr) (tc : Nat) (t : Bs) (w : World) (hk : SrcAt w (.slice ka key.length kc) key.length (bvals key)) (ht : SrcAt w (.slice ta t.length tc) t.length (bvals t)) (hc : ConstAt w) (hkl : key.length ≤ 536870912) (htl : t.length ≤ 536870912) :
    Calls Tryz.prog 28 #[.slice ka key.length kc, .slice ta t.length tc] w fun e w' => ∃ ua uc, e = .returned (.slice ua 32 uc) ∧ OwnWin w' w.heap.size 5 1 (.slice ua 32 uc) 32 (bvals (hmacM mixM key t)) ∧ Below w.heap.size w w' := by
  have hg := hc.lt
  have hb0 := (Below.refl w.heap.size w).alloc (Nat.le_refl _) (.cells (hashC initS (.slice none 0 0) 0) 174)
  have HB0 := Lib.hid hb0
  have HC0 := Lib.hid (hc.below hb0)
  have HK := Lib.hid hk
  have HT := Lib.hid ht
  obtain ⟨ki, hki⟩ : ∃ x, padK (keyM mixM key) 54 = x := ⟨_, rfl⟩
  obtain ⟨ko, hko⟩ : ∃ x, padK (keyM mixM key) 92 = x := ⟨_, rfl⟩
  have hkil : ki.length = 64 := by rw [← hki]; unfold padK; rw [List.length_map, List.length_append, List.length_replicate]; have := keyM_len mixM key; omega
  have hkol : ko.length = 64 := by rw [← hko]; unfold padK; rw [List.length_map, List.length_append, List.length_replicate]; have := keyM_len mixM key; omega
  have HKI := Lib.hid hki
  have HKO := Lib.hid hko
  have HKIL := Lib.hid hkil
  have HKOL := Lib.hid hkol
  obtain ⟨s1, l1, hr1⟩ : ∃ s l, runL mixM initS ([] ++ ki) = (s, l) := ⟨_, _, rfl⟩
  obtain ⟨s2, l2, hr2⟩ : ∃ s l, runL mixM s1 (l1 ++ t) = (s, l) := ⟨_, _, rfl⟩
  have hl1 : l1.length < 64 := by have h9 := runL_rest (mx := mixM) _ initS ([] ++ ki) (Nat.le_refl _); rw [hr1] at h9; simp only at h9; omega
  have hrun : runL mixM initS (ki ++ t) = (s2, l2) := by rw [runL_append _ _ _ _ (Nat.le_refl _), show runL mixM initS ki = (s1, l1) from hr1, hr2]
  have HR1 := Lib.hid hr1
  have HR2 := Lib.hid hr2
  have HLEN := Lib.hid (show l2.length = (0 + 64 + t.length) % 64 by have h9 := runL_rest (mx := mixM) _ initS (ki ++ t) (Nat.le_refl _); rw [hrun, List.length_append, hkil] at h9; simp only at h9; rw [Nat.zero_add]; exact h9)
  have HSUM := Lib.hid (show outM (runL mixM s2 (l2 ++ tailM (0 + 64 + t.length))).1 = sumM mixM (ki ++ t) by
    have h9 := runL_append (mx := mixM) (tailM (ki ++ t).length) _ initS (ki ++ t) (Nat.le_refl _)
    rw [hrun] at h9
    unfold sumM
    rw [h9, Nat.zero_add, List.length_append, hkil])
  have HFIN := Lib.hid (show sumM mixM (ko ++ sumM mixM (ki ++ t)) = hmacM mixM key t by unfold hmacM; rw [hki, hko])
  obtain ⟨sm, hsm⟩ : ∃ x, sumM mixM (ki ++ t) = x := ⟨_, rfl⟩
  have hsml : sm.length = 32 := by rw [← hsm, sumM_len]
  rw [hsm] at HSUM HFIN
  clear hki hko hkil hkol hr1 hr2 hrun hsm hk ht hc hb0
  go_enter Tryz.func28, Tryz.ntmps28
  go_wp2_with fail
  refine (hashNew_any _).mono ?_
  rintro e w1 ⟨rfl, rfl⟩
  go_wp2_with fail
  go_at_call 74
  refine (padded_any ka kc key 54 (.inl rfl) _ (HK.out.older HB0.out) HC0.out (by omega)).mono ?_
  rw [HKI.out]
  rintro e w2 ⟨pa, pc, rfl, hp2, hb2⟩
  have HP2 := Lib.hid hp2
  have HH2 := Lib.hid ((hashAt_new w).older hb2)
  have HB2 := Lib.hid (HB0.out.trans (hb2.mono HB0.out.size))
  have HC2 := Lib.hid (HC0.out.below hb2)
  clear hp2 hb2
  have hw2 := write_any w.heap.size w.heap.size initS (.slice none 0 0) (.slice pa 64 pc) [] ki 0 w2 HH2.out HB2.out.size hg (fun x => by rw [HKIL.out]; exact SrcAt.of (own_setB HP2.out HH2.out.box (by decide))) ⟨pa, pc, by rw [HKIL.out]⟩ HC2.out (by simp) (by rw [HKIL.out]; omega) (by omega)
  rw [HR1.out, HKIL.out] at hw2
  have HW2 := Lib.hid hw2
  clear hw2
  go_wp2_with fail
  go_at_call 73
  refine HW2.out.mono ?_
  rintro e w3 ⟨rfl, v3, hh3, hb3⟩
  have HH3 := Lib.hid hh3
  have HB3 := Lib.hid (HB2.out.trans hb3)
  have HC3 := Lib.hid (HC2.out.belowB hb3 hg)
  clear hh3 hb3
  have hw3 := write_any w.heap.size w.heap.size s1 v3 (.slice ta t.length tc) l1 t (0 + 64) w3 HH3.out HB3.out.size hg (fun x => HT.out.older (HB3.out.setCell (p := ⟨w.heap.size, 9, none⟩) (Nat.le_refl _) x)) ⟨ta, tc, rfl⟩ HC3.out (by omega) (by omega) (by omega)
  rw [HR2.out] at hw3
  have HW3 := Lib.hid hw3
  clear hw3
  go_wp2_with fail
  go_at_call 73
  refine HW3.out.mono ?_
  rintro e w4 ⟨rfl, v4, hh4, hb4⟩
  have HH4 := Lib.hid hh4
  have HB4 := Lib.hid (HB3.out.trans hb4)
  have HC4 := Lib.hid (HC3.out.belowB hb4 hg)
  clear hh4 hb4
  go_wp2_with (first
    | (go_at_call 74; refine (padded_any ka kc key 92 (.inr rfl) w4 (HK.out.older HB4.out) HC4.out (by omega)).mono ?_; rw [HKO.out]; rintro e w5 ⟨qa, qc, rfl, hp5, hb5⟩; have HP5 := Lib.hid (hp5.mono (C := w.heap.size) (fun k hk => by have := (hp5.lt k hk).1; have := HB4.out.size; omega)); have HH5 := Lib.hid (HH4.out.older hb5); have HB5 := Lib.hid (HB4.out.trans (hb5.mono HB4.out.size)); have HC5 := Lib.hid (HC4.out.below hb5); clear hp5 hb5)
    | (go_at_call 76; refine (hsum_any w.heap.size w.heap.size s2 v4 l2 (0 + 64 + t.length) w5 HH5.out HC5.out HLEN.out (by omega)).mono ?_; rw [HSUM.out]; rintro e w6 ⟨sa, sc, rfl, hu6, hb6⟩; have HU6 := Lib.hid hu6; have HP6 := Lib.hid (HP5.out.older hb6); have HB6 := Lib.hid (HB5.out.trans (hb6.mono HB5.out.size)); have HC6 := Lib.hid (HC5.out.below hb6); clear hu6 hb6)
    | (at_builtin; refine wpList_appw tyBytes rfl _ _ rfl w.heap.size (.slice qa 64 qc) 64 (bvals ko) rfl HP6.out HB6.out.size (.slice sa 32 sc) 32 (bvals sm) rfl (SrcAt.of HU6.out) (by rw [bvals_len, hsml]) (bvals_one _) (by omega) ?_; intro v' w7 hown7 hgrow7 hlies7; rw [bvals_append] at hown7; obtain ⟨na, nc, rfl, hnc⟩ := hown7.form; have HO7 := Lib.hid hown7; have HB7 := Lib.hid (belowK_grown HB6.out hgrow7 HB6.out.size (fun q hq => (HP6.out.lt q hq).1)); have HC7 := Lib.hid (HC6.out.belowB (belowK_grown (Below.refl w.heap.size w6) hgrow7 HB6.out.size (fun q hq => (HP6.out.lt q hq).1)) hg); have HLN := Lib.hid (show (ko ++ sm).length = 96 by rw [List.length_append, HKOL.out, hsml]); have HSR := Lib.hid (show SrcAt w7 (.slice na (ko ++ sm).length nc) (ko ++ sm).length (bvals (ko ++ sm)) by rw [HLN.out]; exact SrcAt.of HO7.out); clear hown7 hgrow7 hlies7)
    | (go_at_call 75; have h9 := dsum_any na nc (ko ++ sm) w7 HSR.out HC7.out (by rw [HLN.out]; omega); rw [HLN.out] at h9; refine h9.mono ?_; rw [HFIN.out]; rintro e w8 ⟨ua, uc, rfl, hu8, hb8⟩; have HU8 := Lib.hid hu8; have HB8 := Lib.hid (HB7.out.trans (hb8.mono HB7.out.size)); clear hu8 hb8 h9))
  go_ret
  exact ⟨ua, uc, rfl, HU8.out.mono (fun k hk => by have := (HU8.out.lt k hk).1; have := HB7.out.size; omega), HB8.out⟩
end Dg
end Go.Proofs.YtpmhkkjecapbeaaGreatDoor
end

