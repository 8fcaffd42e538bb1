/- Contracts and plain facts that the statement's proof leans on (texts joined). No condition beyond those that each names. -/
import Derived.Test.YtjijijjkkhpjnaaGreatDoorQgG
import Derived.Test.YtjijijjkkhpjnaaGreatDoorQgI
section
namespace Go.Proofs.YtjijijjkkhpjnaaGreatDoor
open Go.RowKit Pl Ad
attribute [local go_sem] ba_get ba_append ba_extract conv_one
set_option maxRecDepth 100000
set_option maxHeartbeats 4000000
set_option linter.unusedVariables false
set_option linter.unusedSimpArgs false
namespace Hy
open A1 Kr
theorem conv_srcH {w : World} {a : Option Addr} {c : Nat} {l : Bs} (h : SrcAt w (.slice a l.length c) l.length (bvals l)) : (convert 84 9 (.slice a l.length c)).run Tryz.prog w = .ok (.string ⟨l.toArray⟩) w := by
  rcases h with ⟨h0, h1, h2⟩ | ⟨ad, c', h1, h2⟩
  · have hl : l = [] := List.eq_nil_of_length_eq_zero h1
    subst hl
    have h3 := Value.slice.inj h0
    rw [h3.1, h3.2.2, show ([] : Bs).length = 0 from rfl]
    rw [run_convert_bytes_string w 84 9 5 none 0 0 Tryz.underlying84 Tryz.underlying5 Tryz.underlying9]
    rfl
  · have h3 := Value.slice.inj h1
    rw [h3.1]
    refine run_convert_bytes_back w 84 9 5 ad c l Tryz.underlying84 Tryz.underlying5 Tryz.underlying9 (fun j hj => h2 j (.int .u8 ((l[j].toNat : Nat) : Int)) (by simp [bvals, hj]))
theorem nums_str (l : Bs) : strOfNums (l.map fun b => ((b.toNat : Nat) : Int)) = ⟨l.toArray⟩ := by
  have e : ((fun n : Int => UInt8.ofNat n.toNat) ∘ fun b : UInt8 => ((b.toNat : Nat) : Int)) = id := by
    funext b
    simp
  unfold strOfNums
  apply ByteArray.ext
  simp [e]
theorem bytes_nums (l : Bs) : Lib.bytesOf (l.map fun b => ((b.toNat : Nat) : Int)) = l := by
  have e : ((fun n : Int => UInt8.ofNat n.toNat) ∘ fun b : UInt8 => ((b.toNat : Nat) : Int)) = id := by
    funext b
    simp
  unfold Lib.bytesOf
  simp [e]
theorem bytesEq_any (a b : Option Addr) (ac bc : Nat) (l m : Bs) (w : World) (h1 : SrcAt w (.slice a l.length ac) l.length (bvals l)) (h2 : SrcAt w (.slice b m.length bc) m.length (bvals m)) {n : Nat} (hn : m.length = n) :
    Calls Tryz.prog 111 #[.slice a l.length ac, .slice b n bc] w fun e w' => e = .returned (.bool (l == m)) ∧ w = w' := by
  subst hn
  have h := Tryz.bytes_Equal (.slice a l.length ac) (.slice b m.length bc) (l.map fun b => ((b.toNat : Nat) : Int)) (m.map fun b => ((b.toNat : Nat) : Int)) w (by rw [nums_str]; exact conv_srcH h1) (by rw [nums_str]; exact conv_srcH h2)
  rw [bytes_nums, bytes_nums] at h
  exact h.mono fun _ _ h => ⟨h.1, h.2.symm⟩
/-- A piece of a slice of bytes. -/
def cutA (ba : Option Addr) (bc lo : Nat) : Option Addr := if bc = lo then ba else ba.map (·.add (lo * 1))
theorem cut_src {w : World} {ba : Option Addr} {bc : Nat} {body : Bs} (h : RowsV Sg.byteC 1 w (.slice ba body.length bc) body) {lo n : Nat} (hl : lo + n ≤ body.length) : SrcAt w (.slice (cutA ba bc lo) ((body.drop lo).take n).length (bc - lo)) ((body.drop lo).take n).length (bvals ((body.drop lo).take n)) := by
  have hlen : ((body.drop lo).take n).length = n := by rw [List.length_take, List.length_drop]; omega
  by_cases h0 : n = 0
  · subst h0
    rw [List.take_zero]
    rcases h with ⟨rfl, h1 | ⟨a, c, h1⟩⟩ | ⟨b, o, c, h1, hc, _, hcell⟩
    · have h3 := Value.slice.inj h1
      rw [h3.1, h3.2.2]
      refine .inl ⟨?_, rfl, rfl⟩
      unfold cutA
      simp
    · have h3 := Value.slice.inj h1
      rw [h3.1]
      unfold cutA
      split
      · exact .inr ⟨_, _, rfl, fun j x hx => by simp [bvals] at hx⟩
      · exact .inr ⟨_, _, rfl, fun j x hx => by simp [bvals] at hx⟩
    · have h3 := Value.slice.inj h1
      rw [h3.1]
      unfold cutA
      split
      · exact .inr ⟨_, _, rfl, fun j x hx => by simp [bvals] at hx⟩
      · exact .inr ⟨_, _, rfl, fun j x hx => by simp [bvals] at hx⟩
  · rcases h with ⟨rfl, _⟩ | ⟨b, o, c, h1, hc, _, hcell⟩
    · simp at hl; omega
    · have h3 := Value.slice.inj h1
      rw [h3.1]
      have hne : ¬ bc = lo := by have := h3.2.2; omega
      unfold cutA
      rw [if_neg hne, Option.map_some, Addr.add_lit]
      refine .inr ⟨⟨b, o + lo * 1, none⟩, bc - lo, rfl, fun j x hx => ?_⟩
      simp only [bvals, List.getElem?_map, Option.map_eq_some_iff] at hx
      obtain ⟨y, hy, rfl⟩ := hx
      rw [List.getElem?_take] at hy
      split at hy
      · rw [List.getElem?_drop] at hy
        have h9 := hcell (lo + j) y hy 0 _ rfl
        rw [Addr.add_lit]
        have e : o + lo * 1 + j = o + ((lo + j) * 1 + 0) := by omega
        rw [e]; exact h9
      · cases hy
theorem cut_run {ba : Option Addr} {bc m lo hi : Nat} (h1 : lo ≤ hi) (h2 : hi ≤ bc) (w : World) : (Instr.slice 84 (.slice ba m bc) (some (.int .i64 (lo : Int))) (some (.int .i64 (hi : Int))) none).run Tryz.prog w = .ok (.slice (cutA ba bc lo) (hi - lo) (bc - lo)) w := by
  rw [run_slice_lh (P := Tryz.prog) w 84 ba m bc (by kernel_rfl) .i64 .i64 (lo : Int) (hi : Int) (by omega) (by omega) (by omega)]
  rw [show Tryz.prog.elem 84 = 5 by kernel_rfl, show (sizeOf 5).run Tryz.prog w = .ok 1 w by kernel_rfl]
  rfl
theorem runP_no {body : Bs} {t : Int} {a : Int} {x : PartM} {r : List PartM} (h : ¬ (x.off = a ∧ (x.data.length : Int) ≤ t - a ∧ x.data = (body.drop a.toNat).take x.data.length)) : runP body t a (x :: r) = none := if_neg h
theorem runP_yes {body : Bs} {t : Int} {a : Int} {x : PartM} {r : List PartM} (h : x.off = a ∧ (x.data.length : Int) ≤ t - a ∧ x.data = (body.drop a.toNat).take x.data.length) : runP body t a (x :: r) = runP body t (a + x.data.length) r := if_pos h
/-- The end of the test, by where the parts' walk ends. -/
def fitsE (t : Int) (ended : Bool) (r : Option Int) : Bool := match r with
  | none => false
  | some e => !ended || decide (e = t)
attribute [-go_sem] run_slice_lh run_slice_any
theorem fits_any (body : Bs) (ba : Option Addr) (bc : Nat) (edge sadr stag : Bs) (ten ask at_ frm til : Int) (ta : Option Addr) (tn tc : Nat) (qa : Option Addr) (qn qc : Nat) (ended : Bool) (tags : List Bs) (parts : List PartM) (w : World) (hb : RowsV Sg.byteC 1 w (.slice ba body.length bc) body) (hbl : body.length ≤ 1000000000) (hq : RowsV partR 3 w (.slice qa qn qc) parts) (hql : parts.length ≤ 1000000000) (hpa : ∀ x ∈ parts, SrcAt w x.dV x.data.length (bvals x.data) ∧ x.data.length ≤ 1000000000) :
    Calls Tryz.prog 81 #[.slice ba body.length bc, .agg #[.string ⟨edge.toArray⟩, .string ⟨sadr.toArray⟩, .string ⟨stag.toArray⟩, .int .i64 ten, .int .i64 ask, .int .i64 at_, .int .i64 frm, .int .i64 til, .slice ta tn tc, .slice qa qn qc, .bool ended]] w fun e w' => e = .returned (.bool (fitsB body ⟨edge, sadr, stag, ten, ask, at_, frm, til, .slice ta tn tc, tags, .slice qa qn qc, parts, ended⟩)) ∧ Below w.heap.size w w' := by
  have HB0 := Lib.hid ((Below.refl w.heap.size w).alloc (Nat.le_refl _) (.cells #[.string ⟨edge.toArray⟩, .string ⟨sadr.toArray⟩, .string ⟨stag.toArray⟩, .int .i64 ten, .int .i64 ask, .int .i64 at_, .int .i64 frm, .int .i64 til, .slice ta tn tc, .slice qa qn qc, .bool ended] 82))
  by_cases n0 : frm < 0
  · have HE := Lib.hid (show fitsB body ⟨edge, sadr, stag, ten, ask, at_, frm, til, .slice ta tn tc, tags, .slice qa qn qc, parts, ended⟩ = false by unfold fitsB; rw [decide_eq_false (show ¬ 0 ≤ frm by omega)]; rfl)
    clear hb hq hpa hbl hql
    go_enter Tryz.func81, Tryz.ntmps81
    go_wp2_with fail
    rw [HE.out]
    go_ret
    exact ⟨rfl, HB0.out⟩
  have n0f : decide (frm < 0) = false := decide_eq_false n0
  by_cases n1 : til < frm
  · have HE := Lib.hid (show fitsB body ⟨edge, sadr, stag, ten, ask, at_, frm, til, .slice ta tn tc, tags, .slice qa qn qc, parts, ended⟩ = false by unfold fitsB; rw [decide_eq_false (show ¬ frm ≤ til by omega)]; simp)
    clear hb hq hpa hbl hql
    go_enter Tryz.func81, Tryz.ntmps81
    go_wp2_with fail
    rw [HE.out]
    go_ret
    exact ⟨rfl, HB0.out⟩
  have n1f : decide (til < frm) = false := decide_eq_false n1
  by_cases n2 : (body.length : Int) < til
  · have HE := Lib.hid (show fitsB body ⟨edge, sadr, stag, ten, ask, at_, frm, til, .slice ta tn tc, tags, .slice qa qn qc, parts, ended⟩ = false by unfold fitsB; rw [decide_eq_false (show ¬ til ≤ (body.length : Int) by omega)]; simp)
    clear hb hq hpa hbl hql
    go_enter Tryz.func81, Tryz.ntmps81
    go_wp2_with fail
    rw [HE.out]
    go_ret
    exact ⟨rfl, HB0.out⟩
  have n2f : decide ((body.length : Int) < til) = false := decide_eq_false n2
  obtain ⟨f, rfl⟩ : ∃ f : Nat, frm = (f : Int) := ⟨frm.toNat, by omega⟩
  obtain ⟨t, rfl⟩ : ∃ t : Nat, til = (t : Int) := ⟨til.toNat, by omega⟩
  have hft : f ≤ t := by omega
  have htb : t ≤ body.length := by omega
  have HE := Lib.hid (show fitsB body ⟨edge, sadr, stag, ten, ask, at_, (f : Int), (t : Int), .slice ta tn tc, tags, .slice qa qn qc, parts, ended⟩ = fitsE (t : Int) ended (runP body (t : Int) (f : Int) parts) by unfold fitsB fitsE; rw [decide_eq_true (show (0 : Int) ≤ (f : Int) by omega), decide_eq_true (show (f : Int) ≤ (t : Int) by omega), decide_eq_true (show (t : Int) ≤ (body.length : Int) by omega)]; rfl)
  rw [HE.out]
  obtain ⟨_, hqn⟩ : True ∧ qn = parts.length := by
    refine ⟨trivial, ?_⟩
    obtain ⟨a, c, e, _⟩ := hq.form
    exact (Value.slice.inj e).2.1
  subst hqn
  have HXS := Lib.hid (Bx.new w 82 #[.string ⟨edge.toArray⟩, .string ⟨sadr.toArray⟩, .string ⟨stag.toArray⟩, .int .i64 ten, .int .i64 ask, .int .i64 at_, .int .i64 (f : Int), .int .i64 (t : Int), .slice ta tn tc, .slice qa parts.length qc, .bool ended])
  have HQ0 := Lib.hid hq
  have HBD := Lib.hid hb
  have HPA := Lib.hid hpa
  have hbc : body.length ≤ bc := by
    obtain ⟨a, c, e, h⟩ := hb.form
    have := (Value.slice.inj e).2.2
    omega
  have hn0 : ¬ ((f : Int) < 0) := by omega
  have hn1 : ¬ ((t : Int) < (f : Int)) := by omega
  have hn2 : ¬ ((body.length : Int) < (t : Int)) := by omega
  clear hq hb hpa HE n0 n1 n2
  go_enter Tryz.func81, Tryz.ntmps81
  go_wp2_with fail
  obtain ⟨w1, hw1⟩ : ∃ z, w.alloc (.cells #[.string ⟨edge.toArray⟩, .string ⟨sadr.toArray⟩, .string ⟨stag.toArray⟩, .int .i64 ten, .int .i64 ask, .int .i64 at_, .int .i64 (f : Int), .int .i64 (t : Int), .slice ta tn tc, .slice qa parts.length qc, .bool ended] 82) = z := ⟨_, rfl⟩
  obtain ⟨b0, hb0⟩ : ∃ z, w.heap.size = z := ⟨_, rfl⟩
  rw [hw1] at HB0 HXS ⊢
  rw [hb0] at HXS ⊢
  clear hw1 n0f n1f n2f hn0 hn1 hn2
  go_loopg [30, 5] parts.length (fun gq iv av wr => ∃ (k a : Nat), iv = .int .i64 k ∧ av = .int .i64 a ∧ k ≤ parts.length ∧ a ≤ t ∧ Hid (parts.length ≤ gq + k) ∧ Hid (runP body (t : Int) (f : Int) parts = runP body (t : Int) (a : Int) (parts.drop k)) ∧ Hid (Below w1.heap.size w1 wr))
  case atStart => exact ⟨0, f, rfl, rfl, Nat.zero_le _, hft, Lib.hid (by omega), Lib.hid rfl, Lib.hid (Below.refl _ _)⟩
  case round =>
    obtain ⟨k, a, rfl, rfl, hk, hat, HQ, HR, HBW⟩ := hrel
    have hbw0 := HB0.out.trans (HBW.out.mono HB0.out.size)
    have HBW0 := Lib.hid hbw0
    clear hbw0
    by_cases hlt : k < parts.length
    · have HLT := Lib.hid hlt
      have hkb : k < 1000000000 := by omega
      obtain ⟨x, hxk⟩ : ∃ x, parts[k]? = some x := ⟨_, List.getElem?_eq_getElem hlt⟩
      obtain ⟨b1, o1, rfl, _, _, hrow⟩ := row_at HQ0.out hxk
      have hxp := HPA.out x (List.mem_of_getElem? hxk)
      have hdr : parts.drop k = x :: parts.drop (k + 1) := by
        obtain ⟨hq9, e9⟩ := List.getElem?_eq_some_iff.1 hxk
        rw [List.drop_eq_getElem_cons hq9, e9]
      have HDR := Lib.hid hdr
      obtain ⟨xat, off, xdv, data⟩ := x
      simp only at hxp
      obtain ⟨hsd, hdl⟩ := hxp
      obtain ⟨da, dc, rfl⟩ := Sg.src_form hsd
      have d0 := keepH HBW0.out (hrow 0 _ rfl)
      have d1 := keepH HBW0.out (hrow 1 _ rfl)
      have d2 := keepH HBW0.out (hrow 2 _ rfl)
      rw [Nat.add_zero] at d0
      have hbz : b1 < wr.heap.size := World.block_lt_of_cell? wr _ d0
      have HB3 := Lib.hid (HBW.out.alloc HBW.out.size (.cells #[.int .i64 xat, .int .i64 off, .slice da data.length dc] 88))
      have HBS := Lib.hid (HBW0.out.alloc HBW0.out.size (.cells #[.int .i64 xat, .int .i64 off, .slice da data.length dc] 88))
      have HD3 := Lib.hid (hsd.older HBS.out)
      have HX3 := Lib.hid (Bx.new wr 88 #[.int .i64 xat, .int .i64 off, .slice da data.length dc])
      have HBQ := Lib.hid (HBD.out.below HBS.out)
      have hw1 : IntKind.i64.wrap ((t : Int) - (a : Int)) = (t : Int) - (a : Int) := IntWalk.i64_in _ (by omega)
      clear hsd hrow hdr hxk
      go_wp2_with fail
      obtain ⟨w3, hw3⟩ : ∃ z, wr.alloc (.cells #[.int .i64 xat, .int .i64 off, .slice da data.length dc] 88) = z := ⟨_, rfl⟩
      obtain ⟨pk, hpk⟩ : ∃ z, wr.heap.size = z := ⟨_, rfl⟩
      rw [hw3] at HB3 HBS HD3 HX3 HBQ ⊢
      rw [hpk] at HX3 ⊢
      clear hw3 hpk d0 d1 d2 hbz
      have p1 := HX3.out.cell (i := 1) rfl
      have p2 := HX3.out.cell (i := 2) rfl
      have s7 := ((HXS.out.older HB3.out).cell (i := 7) rfl)
      by_cases hoff : off = (a : Int)
      · subst hoff
        by_cases hle : (t : Int) - (a : Int) < (data.length : Int)
        · have HN := Lib.hid (show fitsE (t : Int) ended (runP body (t : Int) (f : Int) parts) = false by rw [HR.out, HDR.out, runP_no (by simp only; omega)]; rfl)
          refine wp_region_held_drew (S := (fun w' => w'.cell? ⟨pk, 1, none⟩ = some (.int .i64 (a : Int)) ∧ w'.cell? ⟨pk, 2, none⟩ = some (.slice da data.length dc) ∧ w'.cell? ⟨b0, 7, none⟩ = some (.int .i64 (t : Int)))) (by kernel_rfl) (by exact ⟨p1, p2, s7⟩) (fun hHeld => ?_)
          refine Hd.tk 0 ?_
          try simp only [Act.put, List.setIfInBounds_toArray, List.set_cons_zero, List.set_cons_succ]
          refine Hd.tk 1 ?_
          try simp only [Act.put, List.setIfInBounds_toArray, List.set_cons_zero, List.set_cons_succ]
          refine Hd.tk 2 ?_
          try simp only [Act.put, List.setIfInBounds_toArray, List.set_cons_zero, List.set_cons_succ]
          refine Hd.tk 3 ?_
          try simp only [Act.put, List.setIfInBounds_toArray, List.set_cons_zero, List.set_cons_succ]
          refine Hd.tk 4 ?_
          try simp only [Act.put, List.setIfInBounds_toArray, List.set_cons_zero, List.set_cons_succ]
          refine Hd.tk 5 ?_
          try simp only [Act.put, List.setIfInBounds_toArray, List.set_cons_zero, List.set_cons_succ]
          refine Hd.tk 6 ?_
          try simp only [Act.put, List.setIfInBounds_toArray, List.set_cons_zero, List.set_cons_succ]
          refine Hd.tk 7 ?_
          try simp only [Act.put, List.setIfInBounds_toArray, List.set_cons_zero, List.set_cons_succ]
          refine Hd.tk 8 ?_
          try simp only [Act.put, List.setIfInBounds_toArray, List.set_cons_zero, List.set_cons_succ]
          refine Hd.tk 9 ?_
          try simp only [Act.put, List.setIfInBounds_toArray, List.set_cons_zero, List.set_cons_succ]
          refine Hd.tk 10 ?_
          try simp only [Act.put, List.setIfInBounds_toArray, List.set_cons_zero, List.set_cons_succ]
          refine Hd.tk 11 ?_
          try simp only [Act.put, List.setIfInBounds_toArray, List.set_cons_zero, List.set_cons_succ]
          refine Hd.tk 12 ?_
          try simp only [Act.put, List.setIfInBounds_toArray, List.set_cons_zero, List.set_cons_succ]
          refine Hd.tk 13 ?_
          try simp only [Act.put, List.setIfInBounds_toArray, List.set_cons_zero, List.set_cons_succ]
          refine Hd.tk 14 ?_
          try simp only [Act.put, List.setIfInBounds_toArray, List.set_cons_zero, List.set_cons_succ]
          refine Hd.sk 15 ?_
          try simp only [Act.put, List.setIfInBounds_toArray, List.set_cons_zero, List.set_cons_succ]
          refine Hd.sk 16 ?_
          try simp only [Act.put, List.setIfInBounds_toArray, List.set_cons_zero, List.set_cons_succ]
          refine Hd.sk 17 ?_
          try simp only [Act.put, List.setIfInBounds_toArray, List.set_cons_zero, List.set_cons_succ]
          refine Hd.sk 18 ?_
          try simp only [Act.put, List.setIfInBounds_toArray, List.set_cons_zero, List.set_cons_succ]
          refine Hd.sk 19 ?_
          try simp only [Act.put, List.setIfInBounds_toArray, List.set_cons_zero, List.set_cons_succ]
          refine Hd.sk 20 ?_
          try simp only [Act.put, List.setIfInBounds_toArray, List.set_cons_zero, List.set_cons_succ]
          refine Hd.sk 21 ?_
          try simp only [Act.put, List.setIfInBounds_toArray, List.set_cons_zero, List.set_cons_succ]
          refine Hd.sk 22 ?_
          try simp only [Act.put, List.setIfInBounds_toArray, List.set_cons_zero, List.set_cons_succ]
          refine Hd.sk 23 ?_
          try simp only [Act.put, List.setIfInBounds_toArray, List.set_cons_zero, List.set_cons_succ]
          refine Hd.sk 24 ?_
          try simp only [Act.put, List.setIfInBounds_toArray, List.set_cons_zero, List.set_cons_succ]
          refine Hd.sk 25 ?_
          try simp only [Act.put, List.setIfInBounds_toArray, List.set_cons_zero, List.set_cons_succ]
          refine Hd.sk 26 ?_
          try simp only [Act.put, List.setIfInBounds_toArray, List.set_cons_zero, List.set_cons_succ]
          refine Hd.tk 27 ?_
          try simp only [Act.put, List.setIfInBounds_toArray, List.set_cons_zero, List.set_cons_succ]
          refine wpAnyH_done (by kernel_rfl) ?_ _
          go_wp2_with fail
          rw [HN.out]
          go_ret
          exact ⟨rfl, (HB0.out.trans (HB3.out.mono HB0.out.size)).drew⟩
        · have hlf : decide ((t : Int) - (a : Int) < (data.length : Int)) = false := decide_eq_false hle
          have hadl : a + data.length ≤ body.length := by omega
          have HTL := Lib.hid (show ((body.drop a).take data.length).length = data.length by rw [List.length_take, List.length_drop]; omega)
          have HSA := Lib.hid (cut_src HBQ.out hadl)
          have hsr := fun wx => cut_run (ba := ba) (bc := bc) (m := body.length) (lo := a) (hi := a + data.length) (by omega) (by omega) wx
          rw [show ((a + data.length : Nat) : Int) = (a : Int) + (data.length : Int) by omega] at hsr
          obtain ⟨sa, hsa⟩ : ∃ z, cutA ba bc a = z := ⟨_, rfl⟩
          rw [hsa] at HSA
          simp only [hsa] at hsr
          have hw2 : IntKind.i64.wrap ((a : Int) + (data.length : Int)) = (a : Int) + (data.length : Int) := IntWalk.i64_in _ (by omega)
          clear hsa
          cases heq : (data == (body.drop a).take data.length) with
          | false =>
            have HN := Lib.hid (show fitsE (t : Int) ended (runP body (t : Int) (f : Int) parts) = false by
              rw [HR.out, HDR.out, runP_no (by
                rintro ⟨_, _, h9⟩
                simp only [Int.toNat_natCast] at h9
                rw [beq_eq_false_iff_ne] at heq
                exact heq h9)]; rfl)
            have HEQ := Lib.hid heq
            clear heq
            refine wp_region_held_drew (S := (fun w' => w'.cell? ⟨pk, 1, none⟩ = some (.int .i64 (a : Int)) ∧ w'.cell? ⟨pk, 2, none⟩ = some (.slice da data.length dc) ∧ w'.cell? ⟨b0, 7, none⟩ = some (.int .i64 (t : Int)))) (by kernel_rfl) (by exact ⟨p1, p2, s7⟩) (fun hHeld => ?_)
            refine Hd.tk 0 ?_
            try simp only [Act.put, List.setIfInBounds_toArray, List.set_cons_zero, List.set_cons_succ]
            refine Hd.tk 1 ?_
            try simp only [Act.put, List.setIfInBounds_toArray, List.set_cons_zero, List.set_cons_succ]
            refine Hd.tk 2 ?_
            try simp only [Act.put, List.setIfInBounds_toArray, List.set_cons_zero, List.set_cons_succ]
            refine Hd.tk 3 ?_
            try simp only [Act.put, List.setIfInBounds_toArray, List.set_cons_zero, List.set_cons_succ]
            refine Hd.tk 4 ?_
            try simp only [Act.put, List.setIfInBounds_toArray, List.set_cons_zero, List.set_cons_succ]
            refine Hd.tk 5 ?_
            try simp only [Act.put, List.setIfInBounds_toArray, List.set_cons_zero, List.set_cons_succ]
            refine Hd.tk 6 ?_
            try simp only [Act.put, List.setIfInBounds_toArray, List.set_cons_zero, List.set_cons_succ]
            refine Hd.tk 7 ?_
            try simp only [Act.put, List.setIfInBounds_toArray, List.set_cons_zero, List.set_cons_succ]
            refine Hd.tk 8 ?_
            try simp only [Act.put, List.setIfInBounds_toArray, List.set_cons_zero, List.set_cons_succ]
            refine Hd.tk 9 ?_
            try simp only [Act.put, List.setIfInBounds_toArray, List.set_cons_zero, List.set_cons_succ]
            refine Hd.tk 10 ?_
            try simp only [Act.put, List.setIfInBounds_toArray, List.set_cons_zero, List.set_cons_succ]
            refine Hd.tk 11 ?_
            try simp only [Act.put, List.setIfInBounds_toArray, List.set_cons_zero, List.set_cons_succ]
            refine Hd.tk 12 ?_
            try simp only [Act.put, List.setIfInBounds_toArray, List.set_cons_zero, List.set_cons_succ]
            refine Hd.tk 13 ?_
            try simp only [Act.put, List.setIfInBounds_toArray, List.set_cons_zero, List.set_cons_succ]
            refine Hd.tk 14 ?_
            try simp only [Act.put, List.setIfInBounds_toArray, List.set_cons_zero, List.set_cons_succ]
            refine Hd.tk 15 ?_
            try simp only [Act.put, List.setIfInBounds_toArray, List.set_cons_zero, List.set_cons_succ]
            refine Hd.tk 16 ?_
            try simp only [Act.put, List.setIfInBounds_toArray, List.set_cons_zero, List.set_cons_succ]
            refine Hd.tk 17 ?_
            try simp only [Act.put, List.setIfInBounds_toArray, List.set_cons_zero, List.set_cons_succ]
            refine Hd.tk 18 ?_
            try simp only [Act.put, List.setIfInBounds_toArray, List.set_cons_zero, List.set_cons_succ]
            refine Hd.tk 19 ?_
            try simp only [Act.put, List.setIfInBounds_toArray, List.set_cons_zero, List.set_cons_succ]
            refine Hd.tk 20 ?_
            try simp only [Act.put, List.setIfInBounds_toArray, List.set_cons_zero, List.set_cons_succ]
            refine Hd.tk 21 ?_
            try simp only [Act.put, List.setIfInBounds_toArray, List.set_cons_zero, List.set_cons_succ]
            refine Hd.tk 22 ?_
            try simp only [Act.put, List.setIfInBounds_toArray, List.set_cons_zero, List.set_cons_succ]
            refine Hd.tk 23 ?_
            try simp only [Act.put, List.setIfInBounds_toArray, List.set_cons_zero, List.set_cons_succ]
            refine Hd.tk 24 ?_
            try simp only [Act.put, List.setIfInBounds_toArray, List.set_cons_zero, List.set_cons_succ]
            refine wpAnyH_ready (rs := [25]) (by kernel_rfl) (by simp) (AllReadyH.cons (by simp only [List.getElem?_toArray, List.getElem?_cons_succ, List.getElem?_cons_zero]; rfl) (fun K hK => ?_) AllReadyH.nil)
            go_simp
            go_at_call 111
            refine (bytesEq_any da sa dc (bc - a) data ((body.drop a).take data.length) _ (HD3.out.older (Below.refl _ _).drew) (HSA.out.older (Below.refl _ _).drew) HTL.out).mono ?_
            rw [HEQ.out]
            rintro e wq1 ⟨rfl, rfl⟩
            go_wp2_with fail
            refine hK.out _ _ (by exact ⟨p1, p2, s7⟩) (fun hHe1 => ?_)
            clear hK K
            try simp only [Act.put, List.setIfInBounds_toArray, List.set_cons_zero, List.set_cons_succ]
            refine Hd.tk 26 ?_
            try simp only [Act.put, List.setIfInBounds_toArray, List.set_cons_zero, List.set_cons_succ]
            refine Hd.tk 27 ?_
            try simp only [Act.put, List.setIfInBounds_toArray, List.set_cons_zero, List.set_cons_succ]
            refine wpAnyH_done (by kernel_rfl) ?_ _
            go_wp2_with fail
            rw [HN.out]
            go_ret
            exact ⟨rfl, (HB0.out.trans (HB3.out.mono HB0.out.size)).drew⟩
          | true =>
            have HY := Lib.hid (show runP body (t : Int) (f : Int) parts = runP body (t : Int) ((a + data.length : Nat) : Int) (parts.drop (k + 1)) by
              rw [HR.out, HDR.out, runP_yes (x := ⟨xat, (a : Int), .slice da data.length dc, data⟩) (a := (a : Int)) ⟨rfl, by simp only; omega, by simp only [Int.toNat_natCast]; exact eq_of_beq heq⟩]
              simp)
            have HEQ := Lib.hid heq
            clear heq
            refine wp_region_held_drew (S := (fun w' => w'.cell? ⟨pk, 1, none⟩ = some (.int .i64 (a : Int)) ∧ w'.cell? ⟨pk, 2, none⟩ = some (.slice da data.length dc) ∧ w'.cell? ⟨b0, 7, none⟩ = some (.int .i64 (t : Int)))) (by kernel_rfl) (by exact ⟨p1, p2, s7⟩) (fun hHeld => ?_)
            refine Hd.tk 0 ?_
            try simp only [Act.put, List.setIfInBounds_toArray, List.set_cons_zero, List.set_cons_succ]
            refine Hd.tk 1 ?_
            try simp only [Act.put, List.setIfInBounds_toArray, List.set_cons_zero, List.set_cons_succ]
            refine Hd.tk 2 ?_
            try simp only [Act.put, List.setIfInBounds_toArray, List.set_cons_zero, List.set_cons_succ]
            refine Hd.tk 3 ?_
            try simp only [Act.put, List.setIfInBounds_toArray, List.set_cons_zero, List.set_cons_succ]
            refine Hd.tk 4 ?_
            try simp only [Act.put, List.setIfInBounds_toArray, List.set_cons_zero, List.set_cons_succ]
            refine Hd.tk 5 ?_
            try simp only [Act.put, List.setIfInBounds_toArray, List.set_cons_zero, List.set_cons_succ]
            refine Hd.tk 6 ?_
            try simp only [Act.put, List.setIfInBounds_toArray, List.set_cons_zero, List.set_cons_succ]
            refine Hd.tk 7 ?_
            try simp only [Act.put, List.setIfInBounds_toArray, List.set_cons_zero, List.set_cons_succ]
            refine Hd.tk 8 ?_
            try simp only [Act.put, List.setIfInBounds_toArray, List.set_cons_zero, List.set_cons_succ]
            refine Hd.tk 9 ?_
            try simp only [Act.put, List.setIfInBounds_toArray, List.set_cons_zero, List.set_cons_succ]
            refine Hd.tk 10 ?_
            try simp only [Act.put, List.setIfInBounds_toArray, List.set_cons_zero, List.set_cons_succ]
            refine Hd.tk 11 ?_
            try simp only [Act.put, List.setIfInBounds_toArray, List.set_cons_zero, List.set_cons_succ]
            refine Hd.tk 12 ?_
            try simp only [Act.put, List.setIfInBounds_toArray, List.set_cons_zero, List.set_cons_succ]
            refine Hd.tk 13 ?_
            try simp only [Act.put, List.setIfInBounds_toArray, List.set_cons_zero, List.set_cons_succ]
            refine Hd.tk 14 ?_
            try simp only [Act.put, List.setIfInBounds_toArray, List.set_cons_zero, List.set_cons_succ]
            refine Hd.tk 15 ?_
            try simp only [Act.put, List.setIfInBounds_toArray, List.set_cons_zero, List.set_cons_succ]
            refine Hd.tk 16 ?_
            try simp only [Act.put, List.setIfInBounds_toArray, List.set_cons_zero, List.set_cons_succ]
            refine Hd.tk 17 ?_
            try simp only [Act.put, List.setIfInBounds_toArray, List.set_cons_zero, List.set_cons_succ]
            refine Hd.tk 18 ?_
            try simp only [Act.put, List.setIfInBounds_toArray, List.set_cons_zero, List.set_cons_succ]
            refine Hd.tk 19 ?_
            try simp only [Act.put, List.setIfInBounds_toArray, List.set_cons_zero, List.set_cons_succ]
            refine Hd.tk 20 ?_
            try simp only [Act.put, List.setIfInBounds_toArray, List.set_cons_zero, List.set_cons_succ]
            refine Hd.tk 21 ?_
            try simp only [Act.put, List.setIfInBounds_toArray, List.set_cons_zero, List.set_cons_succ]
            refine Hd.tk 22 ?_
            try simp only [Act.put, List.setIfInBounds_toArray, List.set_cons_zero, List.set_cons_succ]
            refine Hd.tk 23 ?_
            try simp only [Act.put, List.setIfInBounds_toArray, List.set_cons_zero, List.set_cons_succ]
            refine Hd.tk 24 ?_
            try simp only [Act.put, List.setIfInBounds_toArray, List.set_cons_zero, List.set_cons_succ]
            refine wpAnyH_ready (rs := [25]) (by kernel_rfl) (by simp) (AllReadyH.cons (by simp only [List.getElem?_toArray, List.getElem?_cons_succ, List.getElem?_cons_zero]; rfl) (fun K hK => ?_) AllReadyH.nil)
            go_simp
            go_at_call 111
            refine (bytesEq_any da sa dc (bc - a) data ((body.drop a).take data.length) _ (HD3.out.older (Below.refl _ _).drew) (HSA.out.older (Below.refl _ _).drew) HTL.out).mono ?_
            rw [HEQ.out]
            rintro e wq1 ⟨rfl, rfl⟩
            go_wp2_with fail
            refine hK.out _ _ (by exact ⟨p1, p2, s7⟩) (fun hHe1 => ?_)
            clear hK K
            try simp only [Act.put, List.setIfInBounds_toArray, List.set_cons_zero, List.set_cons_succ]
            refine Hd.tk 26 ?_
            try simp only [Act.put, List.setIfInBounds_toArray, List.set_cons_zero, List.set_cons_succ]
            refine Hd.tk 27 ?_
            try simp only [Act.put, List.setIfInBounds_toArray, List.set_cons_zero, List.set_cons_succ]
            refine wpAnyH_done (by kernel_rfl) ?_ _
            go_wp2_with fail
            go_roundg (gk - 1)
            case rel => exact ⟨k + 1, a + data.length, by go_num, by simp, by have := HLT.out; omega, by omega, Lib.hid (by have := HQ.out; omega), HY, Lib.hid HB3.out.drew⟩
            case measure => have := HQ.out; have := HLT.out; omega
      · have ho1 : (off == (a : Int)) = false := beq_eq_false_iff_ne.2 hoff
        have ho2 : (off != (a : Int)) = true := by rw [bne, ho1]; rfl
        have HN := Lib.hid (show fitsE (t : Int) ended (runP body (t : Int) (f : Int) parts) = false by rw [HR.out, HDR.out, runP_no (fun h => hoff h.1)]; rfl)
        clear hoff
        refine wp_region_held_drew (S := (fun w' => w'.cell? ⟨pk, 1, none⟩ = some (.int .i64 off) ∧ w'.cell? ⟨pk, 2, none⟩ = some (.slice da data.length dc) ∧ w'.cell? ⟨b0, 7, none⟩ = some (.int .i64 (t : Int)))) (by kernel_rfl) (by exact ⟨p1, p2, s7⟩) (fun hHeld => ?_)
        refine Hd.tk 0 ?_
        try simp only [Act.put, List.setIfInBounds_toArray, List.set_cons_zero, List.set_cons_succ]
        refine Hd.tk 1 ?_
        try simp only [Act.put, List.setIfInBounds_toArray, List.set_cons_zero, List.set_cons_succ]
        refine Hd.tk 2 ?_
        try simp only [Act.put, List.setIfInBounds_toArray, List.set_cons_zero, List.set_cons_succ]
        refine Hd.tk 3 ?_
        try simp only [Act.put, List.setIfInBounds_toArray, List.set_cons_zero, List.set_cons_succ]
        refine Hd.tk 4 ?_
        try simp only [Act.put, List.setIfInBounds_toArray, List.set_cons_zero, List.set_cons_succ]
        refine Hd.sk 5 ?_
        try simp only [Act.put, List.setIfInBounds_toArray, List.set_cons_zero, List.set_cons_succ]
        refine Hd.sk 6 ?_
        try simp only [Act.put, List.setIfInBounds_toArray, List.set_cons_zero, List.set_cons_succ]
        refine Hd.sk 7 ?_
        try simp only [Act.put, List.setIfInBounds_toArray, List.set_cons_zero, List.set_cons_succ]
        refine Hd.sk 8 ?_
        try simp only [Act.put, List.setIfInBounds_toArray, List.set_cons_zero, List.set_cons_succ]
        refine Hd.sk 9 ?_
        try simp only [Act.put, List.setIfInBounds_toArray, List.set_cons_zero, List.set_cons_succ]
        refine Hd.sk 10 ?_
        try simp only [Act.put, List.setIfInBounds_toArray, List.set_cons_zero, List.set_cons_succ]
        refine Hd.sk 11 ?_
        try simp only [Act.put, List.setIfInBounds_toArray, List.set_cons_zero, List.set_cons_succ]
        refine Hd.sk 12 ?_
        try simp only [Act.put, List.setIfInBounds_toArray, List.set_cons_zero, List.set_cons_succ]
        refine Hd.tk 13 ?_
        try simp only [Act.put, List.setIfInBounds_toArray, List.set_cons_zero, List.set_cons_succ]
        refine Hd.tk 14 ?_
        try simp only [Act.put, List.setIfInBounds_toArray, List.set_cons_zero, List.set_cons_succ]
        refine Hd.sk 15 ?_
        try simp only [Act.put, List.setIfInBounds_toArray, List.set_cons_zero, List.set_cons_succ]
        refine Hd.sk 16 ?_
        try simp only [Act.put, List.setIfInBounds_toArray, List.set_cons_zero, List.set_cons_succ]
        refine Hd.sk 17 ?_
        try simp only [Act.put, List.setIfInBounds_toArray, List.set_cons_zero, List.set_cons_succ]
        refine Hd.sk 18 ?_
        try simp only [Act.put, List.setIfInBounds_toArray, List.set_cons_zero, List.set_cons_succ]
        refine Hd.sk 19 ?_
        try simp only [Act.put, List.setIfInBounds_toArray, List.set_cons_zero, List.set_cons_succ]
        refine Hd.sk 20 ?_
        try simp only [Act.put, List.setIfInBounds_toArray, List.set_cons_zero, List.set_cons_succ]
        refine Hd.sk 21 ?_
        try simp only [Act.put, List.setIfInBounds_toArray, List.set_cons_zero, List.set_cons_succ]
        refine Hd.sk 22 ?_
        try simp only [Act.put, List.setIfInBounds_toArray, List.set_cons_zero, List.set_cons_succ]
        refine Hd.sk 23 ?_
        try simp only [Act.put, List.setIfInBounds_toArray, List.set_cons_zero, List.set_cons_succ]
        refine Hd.sk 24 ?_
        try simp only [Act.put, List.setIfInBounds_toArray, List.set_cons_zero, List.set_cons_succ]
        refine Hd.sk 25 ?_
        try simp only [Act.put, List.setIfInBounds_toArray, List.set_cons_zero, List.set_cons_succ]
        refine Hd.sk 26 ?_
        try simp only [Act.put, List.setIfInBounds_toArray, List.set_cons_zero, List.set_cons_succ]
        refine Hd.tk 27 ?_
        try simp only [Act.put, List.setIfInBounds_toArray, List.set_cons_zero, List.set_cons_succ]
        refine wpAnyH_done (by kernel_rfl) ?_ _
        go_wp2_with fail
        rw [HN.out]
        go_ret
        exact ⟨rfl, (HB0.out.trans (HB3.out.mono HB0.out.size)).drew⟩
    · have HY := Lib.hid (show runP body (t : Int) (f : Int) parts = some (a : Int) by rw [HR.out, List.drop_eq_nil_of_le (by omega)]; rfl)
      have s10 := (HXS.out.older HBW.out).cell (i := 10) rfl
      have s7 := (HXS.out.older HBW.out).cell (i := 7) rfl
      cases ended with
      | false =>
        have HF2 : Hid (fitsE (t : Int) false (runP body (t : Int) (f : Int) parts) = true) := Lib.hid (by rw [HY.out]; rfl)
        go_wp2_with fail
        rw [HF2.out]
        go_ret
        exact ⟨rfl, HBW0.out⟩
      | true =>
        have HF : Hid (fitsE (t : Int) true (runP body (t : Int) (f : Int) parts) = decide ((a : Int) = (t : Int))) := Lib.hid (by rw [HY.out]; rfl)
        by_cases hat2 : a = t
        · have ha1 : ((a : Int) == (t : Int)) = true := beq_iff_eq.2 (by omega)
          have HF2 := Lib.hid (HF.out.trans (decide_eq_true (by omega)))
          clear hat2 HF
          go_wp2_with fail
          rw [HF2.out]
          go_ret
          exact ⟨rfl, HBW0.out⟩
        · have ha1 : ((a : Int) == (t : Int)) = false := beq_eq_false_iff_ne.2 (by omega)
          have ha2 : (a == t) = false := beq_eq_false_iff_ne.2 hat2
          have HF2 := Lib.hid (HF.out.trans (decide_eq_false (by omega)))
          clear HF
          go_wp2_with fail
          rw [HF2.out]
          go_ret
          exact ⟨rfl, HBW0.out⟩
end Hy
end Go.Proofs.YtjijijjkkhpjnaaGreatDoor
end

section
namespace Go.Proofs.YtjijijjkkhpjnaaGreatDoor
open Go.RowKit Pl Ad
attribute [local go_sem] ba_get ba_append ba_extract conv_one
set_option maxRecDepth 100000
set_option maxHeartbeats 4000000
set_option linter.unusedVariables false
set_option linter.unusedSimpArgs false
namespace Hy
open A1 Kr
theorem mixed_no {h : HisM} {s : SrvM} {i : Nat} (hi : i ∈ versM h.pubs s.addr s.tag) (hl : fitI h s i = true) : mixedB h s = false := by
  unfold mixedB
  rw [Bool.eq_false_iff]
  intro h2
  have := List.all_eq_true.1 h2 i hi
  rw [hl] at this; cases this
theorem mixed_end {h : HisM} {s : SrvM} (ha : ∀ (k i : Nat), (versM h.pubs s.addr s.tag)[k]? = some i → fitI h s i = false) : mixedB h s = true := by
  unfold mixedB
  refine List.all_eq_true.2 fun i hi => ?_
  obtain ⟨k, hk, rfl⟩ := List.getElem_of_mem hi
  rw [ha k _ (List.getElem?_eq_getElem hk)]; rfl
theorem mixed_any (ps : List PubM) (gs : List PrgM) (ss : List SrvM) (fs : List FetM) (ds : List DroM) (va vb vc vd ve : Value) (bound fin : Int) (edge sadr stag : Bs) (ten ask at_ frm til : Int) (ta : Option Addr) (tn tc : Nat) (qa : Option Addr) (qn qc : Nat) (ended : Bool) (tags : List Bs) (parts : List PartM) (B : Nat) (w : World) (hp : RowsV pubR 5 w va ps) (hn : ps.length ≤ 1000000) (hpa : ∀ p ∈ ps, PubAt w B p) (hq : RowsV partR 3 w (.slice qa qn qc) parts) (hql : parts.length ≤ B) (hpt : ∀ x ∈ parts, PartAt w B x) (hB : B ≤ 1000000000) :
    Calls Tryz.prog 59 #[.agg #[va, vb, vc, vd, ve, .int .i64 bound, .int .i64 fin], .agg #[.string ⟨edge.toArray⟩, .string ⟨sadr.toArray⟩, .string ⟨stag.toArray⟩, .int .i64 ten, .int .i64 ask, .int .i64 at_, .int .i64 frm, .int .i64 til, .slice ta tn tc, .slice qa qn qc, .bool ended]] w fun e w' => e = .returned (.bool (mixedB ⟨ps, gs, ss, fs, ds, bound, fin⟩ ⟨edge, sadr, stag, ten, ask, at_, frm, til, .slice ta tn tc, tags, .slice qa qn qc, parts, ended⟩)) ∧ Below w.heap.size w w' := by
  obtain ⟨pa, pc, rfl, _⟩ := hp.form
  obtain ⟨h, hh⟩ : ∃ h : HisM, (⟨ps, gs, ss, fs, ds, bound, fin⟩ : HisM) = h := ⟨_, rfl⟩
  obtain ⟨s, hs⟩ : ∃ s : SrvM, (⟨edge, sadr, stag, ten, ask, at_, frm, til, .slice ta tn tc, tags, .slice qa qn qc, parts, ended⟩ : SrvM) = s := ⟨_, rfl⟩
  rw [hh, hs]
  have HV0 : Hid (versM h.pubs s.addr s.tag = versM ps sadr stag) := Lib.hid (by rw [← hh, ← hs])
  have HFI : Hid (∀ (i : Nat) (p : PubM), ps[i]? = some p → fitI h s i = fitsB p.body ⟨edge, sadr, stag, ten, ask, at_, frm, til, .slice ta tn tc, tags, .slice qa qn qc, parts, ended⟩) := Lib.hid (fun i p hp => by rw [hs, ← hh]; unfold fitI; simp only [hp])
  have HNO := Lib.hid (fun (i : Nat) (hi : i ∈ versM ps sadr stag) hl => mixed_no (h := h) (s := s) (by rw [HV0.out]; exact hi) hl)
  have HEND := Lib.hid (fun (ha : ∀ (k i : Nat), (versM ps sadr stag)[k]? = some i → fitI h s i = false) => (mixed_end (h := h) (s := s) (by rw [HV0.out]; exact ha)))
  have HB0 := Lib.hid (((Below.refl w.heap.size w).alloc (Nat.le_refl _) (.cells #[.slice pa ps.length pc, vb, vc, vd, ve, .int .i64 bound, .int .i64 fin] 69)).alloc (by simp) (.cells #[.string ⟨edge.toArray⟩, .string ⟨sadr.toArray⟩, .string ⟨stag.toArray⟩, .int .i64 ten, .int .i64 ask, .int .i64 at_, .int .i64 frm, .int .i64 til, .slice ta tn tc, .slice qa qn qc, .bool ended] 82))
  have HXH := Lib.hid ((Bx.new w 69 #[.slice pa ps.length pc, vb, vc, vd, ve, .int .i64 bound, .int .i64 fin]).older ((Below.refl _ _).alloc (Nat.le_refl _) (.cells #[.string ⟨edge.toArray⟩, .string ⟨sadr.toArray⟩, .string ⟨stag.toArray⟩, .int .i64 ten, .int .i64 ask, .int .i64 at_, .int .i64 frm, .int .i64 til, .slice ta tn tc, .slice qa qn qc, .bool ended] 82)))
  have HXS := Lib.hid (show Bx ((w.alloc (.cells #[.slice pa ps.length pc, vb, vc, vd, ve, .int .i64 bound, .int .i64 fin] 69)).alloc (.cells #[.string ⟨edge.toArray⟩, .string ⟨sadr.toArray⟩, .string ⟨stag.toArray⟩, .int .i64 ten, .int .i64 ask, .int .i64 at_, .int .i64 frm, .int .i64 til, .slice ta tn tc, .slice qa qn qc, .bool ended] 82)) (w.heap.size + 1) 82 #[.string ⟨edge.toArray⟩, .string ⟨sadr.toArray⟩, .string ⟨stag.toArray⟩, .int .i64 ten, .int .i64 ask, .int .i64 at_, .int .i64 frm, .int .i64 til, .slice ta tn tc, .slice qa qn qc, .bool ended] by have := Bx.new (w.alloc (.cells #[.slice pa ps.length pc, vb, vc, vd, ve, .int .i64 bound, .int .i64 fin] 69)) 82 #[.string ⟨edge.toArray⟩, .string ⟨sadr.toArray⟩, .string ⟨stag.toArray⟩, .int .i64 ten, .int .i64 ask, .int .i64 at_, .int .i64 frm, .int .i64 til, .slice ta tn tc, .slice qa qn qc, .bool ended]; simpa using this)
  have HP := Lib.hid hp
  have HPA := Lib.hid hpa
  have HN := Lib.hid hn
  have HQ0 := Lib.hid hq
  have HPT0 := Lib.hid hpt
  have HBB := Lib.hid hB
  have HQL := Lib.hid (Nat.le_trans hql hB)
  clear hp hpa hn hh hs HV0 hq hpt hql hB
  go_enter Tryz.func59, Tryz.ntmps59
  go_wp2_with fail
  obtain ⟨w1, hw1⟩ : ∃ z, ((w.alloc (.cells #[.slice pa ps.length pc, vb, vc, vd, ve, .int .i64 bound, .int .i64 fin] 69)).alloc (.cells #[.string ⟨edge.toArray⟩, .string ⟨sadr.toArray⟩, .string ⟨stag.toArray⟩, .int .i64 ten, .int .i64 ask, .int .i64 at_, .int .i64 frm, .int .i64 til, .slice ta tn tc, .slice qa qn qc, .bool ended] 82)) = z := ⟨_, rfl⟩
  obtain ⟨b0, hb0⟩ : ∃ z, w.heap.size = z := ⟨_, rfl⟩
  obtain ⟨b1, hb1⟩ : ∃ z, w.heap.size + 1 = z := ⟨_, rfl⟩
  rw [hw1] at HB0 HXH HXS ⊢
  rw [hb1] at HXS ⊢
  rw [hb0] at HXH ⊢
  have HB1 : Hid (Below w.heap.size w w1) := HB0
  clear hw1 HB0 hb1
  refine (versions_any ps (.slice pa ps.length pc) vb vc vd ve bound fin sadr stag B _ (HP.out.below HB1.out) HN.out (fun p hp => by have := HPA.out p hp; exact ⟨this.1, this.2.1, this.2.2.1.older HB1.out, this.2.2.2.1, this.2.2.2.2.below HB1.out⟩)).mono ?_
  rintro e w2 ⟨oa, oc, rfl, ho2, hb2⟩
  obtain ⟨vs, hvs⟩ : ∃ vs, versM ps sadr stag = vs := ⟨_, rfl⟩
  rw [hvs] at HNO HEND ho2 ⊢
  have HMEM := Lib.hid (fun (i : Nat) (hi : i ∈ vs) => versM_mem.1 (hvs ▸ hi))
  have HB2 := Lib.hid (HB1.out.trans (hb2.mono HB1.out.size))
  have HXH2 := Lib.hid (HXH.out.older hb2)
  have HXS2 := Lib.hid (HXS.out.older hb2)
  have HO2 := Lib.hid ho2
  have hvl : vs.length ≤ 1000000 := by rw [← hvs]; exact Nat.le_trans (versM_len _ _ _) HN.out
  clear ho2 hb2 HXH HXS HB1 hvs
  go_wp2_with fail
  go_loopg [14] vs.length (fun gq iv wr => ∃ k : Nat, iv = .int .i64 k ∧ k ≤ vs.length ∧ Hid (vs.length ≤ gq + k) ∧ Hid (∀ (j i : Nat), j < k → vs[j]? = some i → fitI h s i = false) ∧ Hid (Below w2.heap.size w2 wr))
  case atStart => exact ⟨0, rfl, Nat.zero_le _, Lib.hid (by omega), Lib.hid (fun j i hj => by omega), Lib.hid (Below.refl _ _)⟩
  case round =>
    obtain ⟨k, rfl, hk, HQ, HNF, HBW⟩ := hrel
    by_cases hlt : k < vs.length
    · have HLT := Lib.hid hlt
      obtain ⟨i, hik⟩ : ∃ i, vs[k]? = some i := ⟨_, List.getElem?_eq_getElem hlt⟩
      obtain ⟨p, hpi, _⟩ := HMEM.out i (List.mem_of_getElem? hik)
      have HIK := Lib.hid hik
      have hil := (List.getElem?_eq_some_iff.1 hpi).1
      have hfi := HFI.out i p hpi
      have hpp := HPA.out p (List.mem_of_getElem? hpi)
      obtain ⟨og, oo, oc', e9, _, _, _, _, hcell⟩ := HO2.out.cells (by omega)
      cases e9
      have o0 := keepH HBW.out (hcell k (.int .i64 (i : Int)) (by unfold ivals; rw [List.getElem?_map, hik]; rfl))
      obtain ⟨pb, po, rfl, _, _, hprow⟩ := row_at HP.out hpi
      obtain ⟨pat, plim, padr, ptag, pbv, pbody⟩ := p
      obtain ⟨ba, bc, hbv⟩ := Sg.src_form hpp.2.2.1
      simp only at hbv
      subst hbv
      have hbw := HB2.out.trans (HBW.out.mono HB2.out.size)
      have HBD := Lib.hid (hpp.2.2.2.2.below hbw)
      have HBL := Lib.hid (Nat.le_trans hpp.2.2.2.1 HBB.out)
      have HQS := Lib.hid (HQ0.out.below hbw)
      have HPT := Lib.hid (fun x (hx : x ∈ parts) => And.intro ((HPT0.out x hx).1.older hbw) (Nat.le_trans (HPT0.out x hx).2 HBB.out))
      have y4 := keepH HBW.out (keepH HB2.out (hprow 4 _ rfl))
      have s0 := (HXS2.out.older HBW.out).cell (i := 0) rfl
      have s1 := (HXS2.out.older HBW.out).cell (i := 1) rfl
      have s2 := (HXS2.out.older HBW.out).cell (i := 2) rfl
      have s3 := (HXS2.out.older HBW.out).cell (i := 3) rfl
      have s4 := (HXS2.out.older HBW.out).cell (i := 4) rfl
      have s5 := (HXS2.out.older HBW.out).cell (i := 5) rfl
      have s6 := (HXS2.out.older HBW.out).cell (i := 6) rfl
      have s7 := (HXS2.out.older HBW.out).cell (i := 7) rfl
      have s8 := (HXS2.out.older HBW.out).cell (i := 8) rfl
      have s9 := (HXS2.out.older HBW.out).cell (i := 9) rfl
      have s10 := (HXS2.out.older HBW.out).cell (i := 10) rfl
      have h0 := (HXH2.out.older HBW.out).cell (i := 0) rfl
      clear hpp hcell hprow hik hbw hpi
      cases hf : fitsB pbody ⟨edge, sadr, stag, ten, ask, at_, frm, til, .slice ta tn tc, tags, .slice qa qn qc, parts, ended⟩ with
      | true =>
        have HD := Lib.hid (HNO.out i (List.mem_of_getElem? HIK.out) (hfi.trans hf))
        have HEQ := Lib.hid hf
        clear hf hfi
        go_wp2_with fail
        refine wp_region_held_drew (S := (fun w' => w'.cell? ⟨b1, 0, none⟩ = some (.string ⟨edge.toArray⟩) ∧ w'.cell? ⟨b1, 1, none⟩ = some (.string ⟨sadr.toArray⟩) ∧ w'.cell? ⟨b1, 2, none⟩ = some (.string ⟨stag.toArray⟩) ∧ w'.cell? ⟨b1, 3, none⟩ = some (.int .i64 ten) ∧ w'.cell? ⟨b1, 4, none⟩ = some (.int .i64 ask) ∧ w'.cell? ⟨b1, 5, none⟩ = some (.int .i64 at_) ∧ w'.cell? ⟨b1, 6, none⟩ = some (.int .i64 frm) ∧ w'.cell? ⟨b1, 7, none⟩ = some (.int .i64 til) ∧ w'.cell? ⟨b1, 8, none⟩ = some (.slice ta tn tc) ∧ w'.cell? ⟨b1, 9, none⟩ = some (.slice qa qn qc) ∧ w'.cell? ⟨b1, 10, none⟩ = some (.bool ended) ∧ w'.cell? ⟨b0, 0, none⟩ = some (.slice (some ⟨pb, po, none⟩) ps.length pc) ∧ w'.cell? ⟨pb, po + i * 5 + 4, none⟩ = some (.slice ba pbody.length bc))) (by kernel_rfl) (by exact ⟨s0, s1, s2, s3, s4, s5, s6, s7, s8, s9, s10, h0, y4⟩) (fun hHeld => ?_)
        refine Hd.tk 0 ?_
        try simp only [Act.put, List.setIfInBounds_toArray, List.set_cons_zero, List.set_cons_succ]
        refine Hd.tk 1 ?_
        try simp only [Act.put, List.setIfInBounds_toArray, List.set_cons_zero, List.set_cons_succ]
        refine Hd.tk 2 ?_
        try simp only [Act.put, List.setIfInBounds_toArray, List.set_cons_zero, List.set_cons_succ]
        refine Hd.tk 3 ?_
        try simp only [Act.put, List.setIfInBounds_toArray, List.set_cons_zero, List.set_cons_succ]
        refine Hd.tk 4 ?_
        try simp only [Act.put, List.setIfInBounds_toArray, List.set_cons_zero, List.set_cons_succ]
        refine Hd.tk 5 ?_
        try simp only [Act.put, List.setIfInBounds_toArray, List.set_cons_zero, List.set_cons_succ]
        refine Hd.tk 6 ?_
        try simp only [Act.put, List.setIfInBounds_toArray, List.set_cons_zero, List.set_cons_succ]
        refine wpAnyH_ready (rs := [7]) (by kernel_rfl) (by simp) (AllReadyH.cons (by simp only [List.getElem?_toArray, List.getElem?_cons_succ, List.getElem?_cons_zero]; rfl) (fun K hK => ?_) AllReadyH.nil)
        go_simp
        go_at_call 81
        refine (fits_any pbody ba bc edge sadr stag ten ask at_ frm til ta tn tc qa qn qc ended tags parts _ (HBD.out.below (Below.refl _ _).drew) HBL.out (HQS.out.below (Below.refl _ _).drew) HQL.out (fun x hx => ⟨(HPT.out x hx).1.older (Below.refl _ _).drew, (HPT.out x hx).2⟩)).mono ?_
        rw [HEQ.out]
        rintro e wq1 ⟨rfl, hq1⟩
        have hqw1 : Below wr.heap.size wr wq1 := ((Below.refl _ _).drew).trans hq1
        go_wp2_with fail
        refine hK.out _ _ (by exact ⟨keepH hqw1 s0, keepH hqw1 s1, keepH hqw1 s2, keepH hqw1 s3, keepH hqw1 s4, keepH hqw1 s5, keepH hqw1 s6, keepH hqw1 s7, keepH hqw1 s8, keepH hqw1 s9, keepH hqw1 s10, keepH hqw1 h0, keepH hqw1 y4⟩) (fun hHe1 => ?_)
        clear hK K
        try simp only [Act.put, List.setIfInBounds_toArray, List.set_cons_zero, List.set_cons_succ]
        refine wpAnyH_done (by kernel_rfl) ?_ _
        go_wp2_with fail
        rw [HD.out]
        go_ret
        exact ⟨rfl, HB2.out.trans ((HBW.out.trans (hqw1.mono HBW.out.size)).mono HB2.out.size)⟩
      | false =>
        have HD := Lib.hid (hfi.trans hf)
        have HEQ := Lib.hid hf
        clear hf hfi
        go_wp2_with fail
        refine wp_region_held_drew (S := (fun w' => w'.cell? ⟨b1, 0, none⟩ = some (.string ⟨edge.toArray⟩) ∧ w'.cell? ⟨b1, 1, none⟩ = some (.string ⟨sadr.toArray⟩) ∧ w'.cell? ⟨b1, 2, none⟩ = some (.string ⟨stag.toArray⟩) ∧ w'.cell? ⟨b1, 3, none⟩ = some (.int .i64 ten) ∧ w'.cell? ⟨b1, 4, none⟩ = some (.int .i64 ask) ∧ w'.cell? ⟨b1, 5, none⟩ = some (.int .i64 at_) ∧ w'.cell? ⟨b1, 6, none⟩ = some (.int .i64 frm) ∧ w'.cell? ⟨b1, 7, none⟩ = some (.int .i64 til) ∧ w'.cell? ⟨b1, 8, none⟩ = some (.slice ta tn tc) ∧ w'.cell? ⟨b1, 9, none⟩ = some (.slice qa qn qc) ∧ w'.cell? ⟨b1, 10, none⟩ = some (.bool ended) ∧ w'.cell? ⟨b0, 0, none⟩ = some (.slice (some ⟨pb, po, none⟩) ps.length pc) ∧ w'.cell? ⟨pb, po + i * 5 + 4, none⟩ = some (.slice ba pbody.length bc))) (by kernel_rfl) (by exact ⟨s0, s1, s2, s3, s4, s5, s6, s7, s8, s9, s10, h0, y4⟩) (fun hHeld => ?_)
        refine Hd.tk 0 ?_
        try simp only [Act.put, List.setIfInBounds_toArray, List.set_cons_zero, List.set_cons_succ]
        refine Hd.tk 1 ?_
        try simp only [Act.put, List.setIfInBounds_toArray, List.set_cons_zero, List.set_cons_succ]
        refine Hd.tk 2 ?_
        try simp only [Act.put, List.setIfInBounds_toArray, List.set_cons_zero, List.set_cons_succ]
        refine Hd.tk 3 ?_
        try simp only [Act.put, List.setIfInBounds_toArray, List.set_cons_zero, List.set_cons_succ]
        refine Hd.tk 4 ?_
        try simp only [Act.put, List.setIfInBounds_toArray, List.set_cons_zero, List.set_cons_succ]
        refine Hd.tk 5 ?_
        try simp only [Act.put, List.setIfInBounds_toArray, List.set_cons_zero, List.set_cons_succ]
        refine Hd.tk 6 ?_
        try simp only [Act.put, List.setIfInBounds_toArray, List.set_cons_zero, List.set_cons_succ]
        refine wpAnyH_ready (rs := [7]) (by kernel_rfl) (by simp) (AllReadyH.cons (by simp only [List.getElem?_toArray, List.getElem?_cons_succ, List.getElem?_cons_zero]; rfl) (fun K hK => ?_) AllReadyH.nil)
        go_simp
        go_at_call 81
        refine (fits_any pbody ba bc edge sadr stag ten ask at_ frm til ta tn tc qa qn qc ended tags parts _ (HBD.out.below (Below.refl _ _).drew) HBL.out (HQS.out.below (Below.refl _ _).drew) HQL.out (fun x hx => ⟨(HPT.out x hx).1.older (Below.refl _ _).drew, (HPT.out x hx).2⟩)).mono ?_
        rw [HEQ.out]
        rintro e wq1 ⟨rfl, hq1⟩
        have hqw1 : Below wr.heap.size wr wq1 := ((Below.refl _ _).drew).trans hq1
        go_wp2_with fail
        refine hK.out _ _ (by exact ⟨keepH hqw1 s0, keepH hqw1 s1, keepH hqw1 s2, keepH hqw1 s3, keepH hqw1 s4, keepH hqw1 s5, keepH hqw1 s6, keepH hqw1 s7, keepH hqw1 s8, keepH hqw1 s9, keepH hqw1 s10, keepH hqw1 h0, keepH hqw1 y4⟩) (fun hHe1 => ?_)
        clear hK K
        try simp only [Act.put, List.setIfInBounds_toArray, List.set_cons_zero, List.set_cons_succ]
        refine wpAnyH_done (by kernel_rfl) ?_ _
        go_wp2_with fail
        go_roundg (gk - 1)
        case rel => exact ⟨k + 1, by go_num, by have := HLT.out; omega, Lib.hid (by have := HQ.out; omega), Lib.hid (fun j i2 hj hi2 => by
          rcases Nat.lt_succ_iff_lt_or_eq.1 hj with h9 | rfl
          · exact HNF.out j i2 h9 hi2
          · rw [HIK.out] at hi2; cases hi2; exact HD.out), Lib.hid (HBW.out.trans (hqw1.mono HBW.out.size))⟩
        case measure => have := HQ.out; have := HLT.out; omega
    · obtain rfl : k = vs.length := by omega
      have HD := Lib.hid (HEND.out (fun j i hi => HNF.out j i (List.getElem?_eq_some_iff.1 hi).1 hi))
      go_wp2_with fail
      rw [HD.out]
      go_ret
      exact ⟨rfl, HB2.out.trans (HBW.out.mono HB2.out.size)⟩
end Hy
end Go.Proofs.YtjijijjkkhpjnaaGreatDoor
end

