/- Contracts and plain facts that the statement's proof leans on (texts joined). No condition beyond those that each names. -/
import Derived.Test.YtjijijjkkhpjnaaGreatDoorQgH
import Derived.Test.YtjijijjkkhpjnaaGreatDoorQgJ
section
namespace Go.Proofs.YtjijijjkkhpjnaaGreatDoor
open Go.RowKit Pl Ad
attribute [local go_sem] ba_get ba_append ba_extract conv_one
set_option maxRecDepth 100000
set_option maxHeartbeats 4000000
set_option linter.unusedVariables false
set_option linter.unusedSimpArgs false
namespace Hy
open A1 Kr
theorem conv_srcN {w : World} {a : Option Addr} {c n : Nat} {l : Bs} (h : SrcAt w (.slice a n c) n (bvals l)) (hn : n = l.length) : (convert 84 9 (.slice a n c)).run Tryz.prog w = .ok (.string ⟨l.toArray⟩) w := by
  subst hn; exact conv_srcH h
theorem rfits_any (body : Bs) (ba : Option Addr) (bc : Nat) (edge sadr stag : Bs) (ten ask at_ frm til : Int) (ta : Option Addr) (tn tc : Nat) (qa : Option Addr) (qn qc : Nat) (ended : Bool) (tags : List Bs) (parts : List PartM) (w : World) (hb : RowsV Sg.byteC 1 w (.slice ba body.length bc) body) (hbl : body.length ≤ 1000000000) (hq : RowsV partR 3 w (.slice qa qn qc) parts) (hql : parts.length ≤ 1000000000) (hpa : ∀ x ∈ parts, SrcAt w x.dV x.data.length (bvals x.data) ∧ x.data.length ≤ 1000000000) :
    Calls Tryz.prog 87 #[.agg #[.string ⟨edge.toArray⟩, .string ⟨sadr.toArray⟩, .string ⟨stag.toArray⟩, .int .i64 ten, .int .i64 ask, .int .i64 at_, .int .i64 frm, .int .i64 til, .slice ta tn tc, .slice qa qn qc, .bool ended], .slice ba body.length bc] w fun e w' => e = .returned (.bool (fitsB body ⟨edge, sadr, stag, ten, ask, at_, frm, til, .slice ta tn tc, tags, .slice qa qn qc, parts, ended⟩)) ∧ Below w.heap.size w w' := by
  have HB0 := Lib.hid ((Below.refl w.heap.size w).alloc (Nat.le_refl _) (.cells #[.string ⟨edge.toArray⟩, .string ⟨sadr.toArray⟩, .string ⟨stag.toArray⟩, .int .i64 ten, .int .i64 ask, .int .i64 at_, .int .i64 frm, .int .i64 til, .slice ta tn tc, .slice qa qn qc, .bool ended] 82))
  by_cases n0 : frm < 0
  · have HE := Lib.hid (show fitsB body ⟨edge, sadr, stag, ten, ask, at_, frm, til, .slice ta tn tc, tags, .slice qa qn qc, parts, ended⟩ = false by unfold fitsB; rw [decide_eq_false (show ¬ 0 ≤ frm by omega)]; rfl)
    clear hb hq hpa hbl hql
    go_enter Tryz.func87, Tryz.ntmps87
    go_wp2_with fail
    rw [HE.out]
    go_ret
    exact ⟨rfl, HB0.out⟩
  have n0f : decide (frm < 0) = false := decide_eq_false n0
  by_cases n1 : til < frm
  · have HE := Lib.hid (show fitsB body ⟨edge, sadr, stag, ten, ask, at_, frm, til, .slice ta tn tc, tags, .slice qa qn qc, parts, ended⟩ = false by unfold fitsB; rw [decide_eq_false (show ¬ frm ≤ til by omega)]; simp)
    clear hb hq hpa hbl hql
    go_enter Tryz.func87, Tryz.ntmps87
    go_wp2_with fail
    rw [HE.out]
    go_ret
    exact ⟨rfl, HB0.out⟩
  have n1f : decide (til < frm) = false := decide_eq_false n1
  by_cases n2 : (body.length : Int) < til
  · have HE := Lib.hid (show fitsB body ⟨edge, sadr, stag, ten, ask, at_, frm, til, .slice ta tn tc, tags, .slice qa qn qc, parts, ended⟩ = false by unfold fitsB; rw [decide_eq_false (show ¬ til ≤ (body.length : Int) by omega)]; simp)
    clear hb hq hpa hbl hql
    go_enter Tryz.func87, Tryz.ntmps87
    go_wp2_with fail
    rw [HE.out]
    go_ret
    exact ⟨rfl, HB0.out⟩
  have n2f : decide ((body.length : Int) < til) = false := decide_eq_false n2
  obtain ⟨f, rfl⟩ : ∃ f : Nat, frm = (f : Int) := ⟨frm.toNat, by omega⟩
  obtain ⟨t, rfl⟩ : ∃ t : Nat, til = (t : Int) := ⟨til.toNat, by omega⟩
  have hft : f ≤ t := by omega
  have htb : t ≤ body.length := by omega
  have HE := Lib.hid (show fitsB body ⟨edge, sadr, stag, ten, ask, at_, (f : Int), (t : Int), .slice ta tn tc, tags, .slice qa qn qc, parts, ended⟩ = fitsE (t : Int) ended (runP body (t : Int) (f : Int) parts) by unfold fitsB fitsE; rw [decide_eq_true (show (0 : Int) ≤ (f : Int) by omega), decide_eq_true (show (f : Int) ≤ (t : Int) by omega), decide_eq_true (show (t : Int) ≤ (body.length : Int) by omega)]; rfl)
  rw [HE.out]
  obtain ⟨_, hqn⟩ : True ∧ qn = parts.length := by
    refine ⟨trivial, ?_⟩
    obtain ⟨a, c, e, _⟩ := hq.form
    exact (Value.slice.inj e).2.1
  subst hqn
  have HXS := Lib.hid (Bx.new w 82 #[.string ⟨edge.toArray⟩, .string ⟨sadr.toArray⟩, .string ⟨stag.toArray⟩, .int .i64 ten, .int .i64 ask, .int .i64 at_, .int .i64 (f : Int), .int .i64 (t : Int), .slice ta tn tc, .slice qa parts.length qc, .bool ended])
  have HQ0 := Lib.hid hq
  have HBD := Lib.hid hb
  have HPA := Lib.hid hpa
  have hbc : body.length ≤ bc := by
    obtain ⟨a, c, e, h⟩ := hb.form
    have := (Value.slice.inj e).2.2
    omega
  have hn0 : ¬ ((f : Int) < 0) := by omega
  have hn1 : ¬ ((t : Int) < (f : Int)) := by omega
  have hn2 : ¬ ((body.length : Int) < (t : Int)) := by omega
  clear hq hb hpa HE n0 n1 n2
  go_enter Tryz.func87, Tryz.ntmps87
  go_wp2_with fail
  obtain ⟨w1, hw1⟩ : ∃ z, w.alloc (.cells #[.string ⟨edge.toArray⟩, .string ⟨sadr.toArray⟩, .string ⟨stag.toArray⟩, .int .i64 ten, .int .i64 ask, .int .i64 at_, .int .i64 (f : Int), .int .i64 (t : Int), .slice ta tn tc, .slice qa parts.length qc, .bool ended] 82) = z := ⟨_, rfl⟩
  obtain ⟨b0, hb0⟩ : ∃ z, w.heap.size = z := ⟨_, rfl⟩
  rw [hw1] at HB0 HXS ⊢
  rw [hb0] at HXS ⊢
  clear hw1 hb0 n0f n1f n2f hn0 hn1 hn2
  go_loopg [30, 5] parts.length (fun gq iv av wr => ∃ (k a : Nat), iv = .int .i64 k ∧ av = .int .i64 a ∧ k ≤ parts.length ∧ a ≤ t ∧ Hid (parts.length ≤ gq + k) ∧ Hid (runP body (t : Int) (f : Int) parts = runP body (t : Int) (a : Int) (parts.drop k)) ∧ Hid (Below w1.heap.size w1 wr))
  case atStart => exact ⟨0, f, rfl, rfl, Nat.zero_le _, hft, Lib.hid (by omega), Lib.hid rfl, Lib.hid (Below.refl _ _)⟩
  case round =>
    obtain ⟨k, a, rfl, rfl, hk, hat, HQ, HR, HBW⟩ := hrel
    have hbw0 := HB0.out.trans (HBW.out.mono HB0.out.size)
    have HBW0 := Lib.hid hbw0
    clear hbw0
    by_cases hlt : k < parts.length
    · have HLT := Lib.hid hlt
      have hkb : k < 1000000000 := by omega
      obtain ⟨x, hxk⟩ : ∃ x, parts[k]? = some x := ⟨_, List.getElem?_eq_getElem hlt⟩
      obtain ⟨b1, o1, rfl, _, _, hrow⟩ := row_at HQ0.out hxk
      have hxp := HPA.out x (List.mem_of_getElem? hxk)
      have hdr : parts.drop k = x :: parts.drop (k + 1) := by
        obtain ⟨hq9, e9⟩ := List.getElem?_eq_some_iff.1 hxk
        rw [List.drop_eq_getElem_cons hq9, e9]
      have HDR := Lib.hid hdr
      obtain ⟨xat, off, xdv, data⟩ := x
      simp only at hxp
      obtain ⟨hsd, hdl⟩ := hxp
      obtain ⟨da, dc, rfl⟩ := Sg.src_form hsd
      have d0 := keepH HBW0.out (hrow 0 _ rfl)
      have d1 := keepH HBW0.out (hrow 1 _ rfl)
      have d2 := keepH HBW0.out (hrow 2 _ rfl)
      rw [Nat.add_zero] at d0
      have hbz : b1 < wr.heap.size := World.block_lt_of_cell? wr _ d0
      have HB3 := Lib.hid (HBW.out.alloc HBW.out.size (.cells #[.int .i64 xat, .int .i64 off, .slice da data.length dc] 88))
      have HBS := Lib.hid (HBW0.out.alloc HBW0.out.size (.cells #[.int .i64 xat, .int .i64 off, .slice da data.length dc] 88))
      have HD3 := Lib.hid (hsd.older HBS.out)
      have HX3 := Lib.hid (Bx.new wr 88 #[.int .i64 xat, .int .i64 off, .slice da data.length dc])
      have HBQ := Lib.hid (HBD.out.below HBS.out)
      have hw1 : IntKind.i64.wrap ((t : Int) - (a : Int)) = (t : Int) - (a : Int) := IntWalk.i64_in _ (by omega)
      clear hsd hrow hdr hxk
      go_wp2_with fail
      obtain ⟨w3, hw3⟩ : ∃ z, wr.alloc (.cells #[.int .i64 xat, .int .i64 off, .slice da data.length dc] 88) = z := ⟨_, rfl⟩
      obtain ⟨pk, hpk⟩ : ∃ z, wr.heap.size = z := ⟨_, rfl⟩
      rw [hw3] at HB3 HBS HD3 HX3 HBQ ⊢
      rw [hpk] at HX3 ⊢
      clear hw3 hpk d0 d1 d2 hbz
      have p1 := HX3.out.cell (i := 1) rfl
      have p2 := HX3.out.cell (i := 2) rfl
      have s7 := ((HXS.out.older HB3.out).cell (i := 7) rfl)
      by_cases hoff : off = (a : Int)
      · subst hoff
        by_cases hle : (t : Int) - (a : Int) < (data.length : Int)
        · have HN := Lib.hid (show fitsE (t : Int) ended (runP body (t : Int) (f : Int) parts) = false by rw [HR.out, HDR.out, runP_no (by simp only; omega)]; rfl)
          refine wp_region_held_drew (S := (fun w' => w'.cell? ⟨pk, 1, none⟩ = some (.int .i64 (a : Int)) ∧ w'.cell? ⟨pk, 2, none⟩ = some (.slice da data.length dc) ∧ w'.cell? ⟨b0, 7, none⟩ = some (.int .i64 (t : Int)))) (by kernel_rfl) (by exact ⟨p1, p2, s7⟩) (fun hHeld => ?_)
          refine Hd.tk 0 ?_
          try simp only [Act.put, List.setIfInBounds_toArray, List.set_cons_zero, List.set_cons_succ]
          refine Hd.tk 1 ?_
          try simp only [Act.put, List.setIfInBounds_toArray, List.set_cons_zero, List.set_cons_succ]
          refine Hd.tk 2 ?_
          try simp only [Act.put, List.setIfInBounds_toArray, List.set_cons_zero, List.set_cons_succ]
          refine Hd.tk 3 ?_
          try simp only [Act.put, List.setIfInBounds_toArray, List.set_cons_zero, List.set_cons_succ]
          refine Hd.tk 4 ?_
          try simp only [Act.put, List.setIfInBounds_toArray, List.set_cons_zero, List.set_cons_succ]
          refine Hd.tk 5 ?_
          try simp only [Act.put, List.setIfInBounds_toArray, List.set_cons_zero, List.set_cons_succ]
          refine Hd.tk 6 ?_
          try simp only [Act.put, List.setIfInBounds_toArray, List.set_cons_zero, List.set_cons_succ]
          refine Hd.tk 7 ?_
          try simp only [Act.put, List.setIfInBounds_toArray, List.set_cons_zero, List.set_cons_succ]
          refine Hd.tk 8 ?_
          try simp only [Act.put, List.setIfInBounds_toArray, List.set_cons_zero, List.set_cons_succ]
          refine Hd.tk 9 ?_
          try simp only [Act.put, List.setIfInBounds_toArray, List.set_cons_zero, List.set_cons_succ]
          refine Hd.tk 10 ?_
          try simp only [Act.put, List.setIfInBounds_toArray, List.set_cons_zero, List.set_cons_succ]
          refine Hd.tk 11 ?_
          try simp only [Act.put, List.setIfInBounds_toArray, List.set_cons_zero, List.set_cons_succ]
          refine Hd.tk 12 ?_
          try simp only [Act.put, List.setIfInBounds_toArray, List.set_cons_zero, List.set_cons_succ]
          refine Hd.tk 13 ?_
          try simp only [Act.put, List.setIfInBounds_toArray, List.set_cons_zero, List.set_cons_succ]
          refine Hd.tk 14 ?_
          try simp only [Act.put, List.setIfInBounds_toArray, List.set_cons_zero, List.set_cons_succ]
          refine Hd.sk 15 ?_
          try simp only [Act.put, List.setIfInBounds_toArray, List.set_cons_zero, List.set_cons_succ]
          refine Hd.sk 16 ?_
          try simp only [Act.put, List.setIfInBounds_toArray, List.set_cons_zero, List.set_cons_succ]
          refine Hd.sk 17 ?_
          try simp only [Act.put, List.setIfInBounds_toArray, List.set_cons_zero, List.set_cons_succ]
          refine Hd.sk 18 ?_
          try simp only [Act.put, List.setIfInBounds_toArray, List.set_cons_zero, List.set_cons_succ]
          refine Hd.sk 19 ?_
          try simp only [Act.put, List.setIfInBounds_toArray, List.set_cons_zero, List.set_cons_succ]
          refine Hd.sk 20 ?_
          try simp only [Act.put, List.setIfInBounds_toArray, List.set_cons_zero, List.set_cons_succ]
          refine Hd.sk 21 ?_
          try simp only [Act.put, List.setIfInBounds_toArray, List.set_cons_zero, List.set_cons_succ]
          refine Hd.sk 22 ?_
          try simp only [Act.put, List.setIfInBounds_toArray, List.set_cons_zero, List.set_cons_succ]
          refine Hd.sk 23 ?_
          try simp only [Act.put, List.setIfInBounds_toArray, List.set_cons_zero, List.set_cons_succ]
          refine Hd.sk 24 ?_
          try simp only [Act.put, List.setIfInBounds_toArray, List.set_cons_zero, List.set_cons_succ]
          refine Hd.sk 25 ?_
          try simp only [Act.put, List.setIfInBounds_toArray, List.set_cons_zero, List.set_cons_succ]
          refine Hd.sk 26 ?_
          try simp only [Act.put, List.setIfInBounds_toArray, List.set_cons_zero, List.set_cons_succ]
          refine Hd.sk 27 ?_
          try simp only [Act.put, List.setIfInBounds_toArray, List.set_cons_zero, List.set_cons_succ]
          refine Hd.tk 28 ?_
          try simp only [Act.put, List.setIfInBounds_toArray, List.set_cons_zero, List.set_cons_succ]
          refine wpAnyH_done (by kernel_rfl) ?_ _
          go_wp2_with fail
          rw [HN.out]
          go_ret
          exact ⟨rfl, (HB0.out.trans (HB3.out.mono HB0.out.size)).drew⟩
        · have hlf : decide ((t : Int) - (a : Int) < (data.length : Int)) = false := decide_eq_false hle
          have hadl : a + data.length ≤ body.length := by omega
          have HTL := Lib.hid (show ((body.drop a).take data.length).length = data.length by rw [List.length_take, List.length_drop]; omega)
          have HSA := Lib.hid (cut_src HBQ.out hadl)
          have hsr := fun wx => cut_run (ba := ba) (bc := bc) (m := body.length) (lo := a) (hi := a + data.length) (by omega) (by omega) wx
          rw [show ((a + data.length : Nat) : Int) = (a : Int) + (data.length : Int) by omega] at hsr
          obtain ⟨sa, hsa⟩ : ∃ z, cutA ba bc a = z := ⟨_, rfl⟩
          rw [hsa] at HSA
          simp only [hsa] at hsr
          have hw2 : IntKind.i64.wrap ((a : Int) + (data.length : Int)) = (a : Int) + (data.length : Int) := IntWalk.i64_in _ (by omega)
          clear hsa
          cases heq : (data == (body.drop a).take data.length) with
          | false =>
            have HN := Lib.hid (show fitsE (t : Int) ended (runP body (t : Int) (f : Int) parts) = false by
              rw [HR.out, HDR.out, runP_no (by
                rintro ⟨_, _, h9⟩
                simp only [Int.toNat_natCast] at h9
                rw [beq_eq_false_iff_ne] at heq
                exact heq h9)]; rfl)
            have hS1 := HD3.out.older (Below.refl _ _).drew
            have hS2 := HSA.out.older (Below.refl _ _).drew
            rw [HTL.out] at hS2
            refine wp_region_held_drew (S := (fun w' => w'.cell? ⟨pk, 1, none⟩ = some (.int .i64 (a : Int)) ∧ w'.cell? ⟨pk, 2, none⟩ = some (.slice da data.length dc) ∧ w'.cell? ⟨b0, 7, none⟩ = some (.int .i64 (t : Int)) ∧ SrcAt w' (.slice da data.length dc) data.length (bvals data) ∧ SrcAt w' (.slice sa data.length (bc - a)) data.length (bvals ((body.drop a).take data.length)))) (by kernel_rfl) (by exact ⟨p1, p2, s7, hS1, hS2⟩) (fun hHeld => ?_)
            refine Hd.tk 0 ?_
            try simp only [Act.put, List.setIfInBounds_toArray, List.set_cons_zero, List.set_cons_succ]
            refine Hd.tk 1 ?_
            try simp only [Act.put, List.setIfInBounds_toArray, List.set_cons_zero, List.set_cons_succ]
            refine Hd.tk 2 ?_
            try simp only [Act.put, List.setIfInBounds_toArray, List.set_cons_zero, List.set_cons_succ]
            refine Hd.tk 3 ?_
            try simp only [Act.put, List.setIfInBounds_toArray, List.set_cons_zero, List.set_cons_succ]
            refine Hd.tk 4 ?_
            try simp only [Act.put, List.setIfInBounds_toArray, List.set_cons_zero, List.set_cons_succ]
            refine Hd.tk 5 ?_
            try simp only [Act.put, List.setIfInBounds_toArray, List.set_cons_zero, List.set_cons_succ]
            refine Hd.tk 6 ?_
            try simp only [Act.put, List.setIfInBounds_toArray, List.set_cons_zero, List.set_cons_succ]
            refine Hd.tk 7 ?_
            try simp only [Act.put, List.setIfInBounds_toArray, List.set_cons_zero, List.set_cons_succ]
            refine Hd.tk 8 ?_
            try simp only [Act.put, List.setIfInBounds_toArray, List.set_cons_zero, List.set_cons_succ]
            refine Hd.tk 9 ?_
            try simp only [Act.put, List.setIfInBounds_toArray, List.set_cons_zero, List.set_cons_succ]
            refine Hd.tk 10 ?_
            try simp only [Act.put, List.setIfInBounds_toArray, List.set_cons_zero, List.set_cons_succ]
            refine Hd.tk 11 ?_
            try simp only [Act.put, List.setIfInBounds_toArray, List.set_cons_zero, List.set_cons_succ]
            refine Hd.tk 12 ?_
            try simp only [Act.put, List.setIfInBounds_toArray, List.set_cons_zero, List.set_cons_succ]
            refine Hd.tk 13 ?_
            try simp only [Act.put, List.setIfInBounds_toArray, List.set_cons_zero, List.set_cons_succ]
            refine Hd.tk 14 ?_
            try simp only [Act.put, List.setIfInBounds_toArray, List.set_cons_zero, List.set_cons_succ]
            refine Hd.tk 15 ?_
            try simp only [Act.put, List.setIfInBounds_toArray, List.set_cons_zero, List.set_cons_succ]
            refine Hd.tk 16 ?_
            try simp only [Act.put, List.setIfInBounds_toArray, List.set_cons_zero, List.set_cons_succ]
            refine Hd.tk 17 ?_ (hv := by intro wT hT; (try dsimp only at hT); (have hS := hT.2.2.2.1; go_simp; simp only [conv_srcH hS, Result.andThen_ok]); try with_reducible rfl)
            try simp only [Act.put, List.setIfInBounds_toArray, List.set_cons_zero, List.set_cons_succ]
            refine Hd.tk 18 ?_
            try simp only [Act.put, List.setIfInBounds_toArray, List.set_cons_zero, List.set_cons_succ]
            refine Hd.tk 19 ?_
            try simp only [Act.put, List.setIfInBounds_toArray, List.set_cons_zero, List.set_cons_succ]
            refine Hd.tk 20 ?_
            try simp only [Act.put, List.setIfInBounds_toArray, List.set_cons_zero, List.set_cons_succ]
            refine Hd.tk 21 ?_
            try simp only [Act.put, List.setIfInBounds_toArray, List.set_cons_zero, List.set_cons_succ]
            refine Hd.tk 22 ?_
            try simp only [Act.put, List.setIfInBounds_toArray, List.set_cons_zero, List.set_cons_succ]
            refine Hd.tk 23 ?_
            try simp only [Act.put, List.setIfInBounds_toArray, List.set_cons_zero, List.set_cons_succ]
            refine Hd.tk 24 ?_
            try simp only [Act.put, List.setIfInBounds_toArray, List.set_cons_zero, List.set_cons_succ]
            refine Hd.tk 25 ?_
            try simp only [Act.put, List.setIfInBounds_toArray, List.set_cons_zero, List.set_cons_succ]
            refine Hd.tk 26 ?_ (hv := by intro wT hT; (try dsimp only at hT); (have hS := hT.2.2.2.2; go_simp; simp only [conv_srcN hS HTL.out.symm, Result.andThen_ok]); try with_reducible rfl)
            try simp only [Act.put, List.setIfInBounds_toArray, List.set_cons_zero, List.set_cons_succ]
            refine Hd.tk 27 ?_
            try simp only [Act.put, List.setIfInBounds_toArray, List.set_cons_zero, List.set_cons_succ]
            refine Hd.tk 28 ?_
            try simp only [Act.put, List.setIfInBounds_toArray, List.set_cons_zero, List.set_cons_succ]
            refine wpAnyH_done (by kernel_rfl) ?_ _
            go_wp2_with fail
            rw [HN.out]
            go_ret
            exact ⟨rfl, (HB0.out.trans (HB3.out.mono HB0.out.size)).drew⟩
          | true =>
            have HY := Lib.hid (show runP body (t : Int) (f : Int) parts = runP body (t : Int) ((a + data.length : Nat) : Int) (parts.drop (k + 1)) by
              rw [HR.out, HDR.out, runP_yes (x := ⟨xat, (a : Int), .slice da data.length dc, data⟩) (a := (a : Int)) ⟨rfl, by simp only; omega, by simp only [Int.toNat_natCast]; exact eq_of_beq heq⟩]
              simp)
            have hS1 := HD3.out.older (Below.refl _ _).drew
            have hS2 := HSA.out.older (Below.refl _ _).drew
            rw [HTL.out] at hS2
            refine wp_region_held_drew (S := (fun w' => w'.cell? ⟨pk, 1, none⟩ = some (.int .i64 (a : Int)) ∧ w'.cell? ⟨pk, 2, none⟩ = some (.slice da data.length dc) ∧ w'.cell? ⟨b0, 7, none⟩ = some (.int .i64 (t : Int)) ∧ SrcAt w' (.slice da data.length dc) data.length (bvals data) ∧ SrcAt w' (.slice sa data.length (bc - a)) data.length (bvals ((body.drop a).take data.length)))) (by kernel_rfl) (by exact ⟨p1, p2, s7, hS1, hS2⟩) (fun hHeld => ?_)
            refine Hd.tk 0 ?_
            try simp only [Act.put, List.setIfInBounds_toArray, List.set_cons_zero, List.set_cons_succ]
            refine Hd.tk 1 ?_
            try simp only [Act.put, List.setIfInBounds_toArray, List.set_cons_zero, List.set_cons_succ]
            refine Hd.tk 2 ?_
            try simp only [Act.put, List.setIfInBounds_toArray, List.set_cons_zero, List.set_cons_succ]
            refine Hd.tk 3 ?_
            try simp only [Act.put, List.setIfInBounds_toArray, List.set_cons_zero, List.set_cons_succ]
            refine Hd.tk 4 ?_
            try simp only [Act.put, List.setIfInBounds_toArray, List.set_cons_zero, List.set_cons_succ]
            refine Hd.tk 5 ?_
            try simp only [Act.put, List.setIfInBounds_toArray, List.set_cons_zero, List.set_cons_succ]
            refine Hd.tk 6 ?_
            try simp only [Act.put, List.setIfInBounds_toArray, List.set_cons_zero, List.set_cons_succ]
            refine Hd.tk 7 ?_
            try simp only [Act.put, List.setIfInBounds_toArray, List.set_cons_zero, List.set_cons_succ]
            refine Hd.tk 8 ?_
            try simp only [Act.put, List.setIfInBounds_toArray, List.set_cons_zero, List.set_cons_succ]
            refine Hd.tk 9 ?_
            try simp only [Act.put, List.setIfInBounds_toArray, List.set_cons_zero, List.set_cons_succ]
            refine Hd.tk 10 ?_
            try simp only [Act.put, List.setIfInBounds_toArray, List.set_cons_zero, List.set_cons_succ]
            refine Hd.tk 11 ?_
            try simp only [Act.put, List.setIfInBounds_toArray, List.set_cons_zero, List.set_cons_succ]
            refine Hd.tk 12 ?_
            try simp only [Act.put, List.setIfInBounds_toArray, List.set_cons_zero, List.set_cons_succ]
            refine Hd.tk 13 ?_
            try simp only [Act.put, List.setIfInBounds_toArray, List.set_cons_zero, List.set_cons_succ]
            refine Hd.tk 14 ?_
            try simp only [Act.put, List.setIfInBounds_toArray, List.set_cons_zero, List.set_cons_succ]
            refine Hd.tk 15 ?_
            try simp only [Act.put, List.setIfInBounds_toArray, List.set_cons_zero, List.set_cons_succ]
            refine Hd.tk 16 ?_
            try simp only [Act.put, List.setIfInBounds_toArray, List.set_cons_zero, List.set_cons_succ]
            refine Hd.tk 17 ?_ (hv := by intro wT hT; (try dsimp only at hT); (have hS := hT.2.2.2.1; go_simp; simp only [conv_srcH hS, Result.andThen_ok]); try with_reducible rfl)
            try simp only [Act.put, List.setIfInBounds_toArray, List.set_cons_zero, List.set_cons_succ]
            refine Hd.tk 18 ?_
            try simp only [Act.put, List.setIfInBounds_toArray, List.set_cons_zero, List.set_cons_succ]
            refine Hd.tk 19 ?_
            try simp only [Act.put, List.setIfInBounds_toArray, List.set_cons_zero, List.set_cons_succ]
            refine Hd.tk 20 ?_
            try simp only [Act.put, List.setIfInBounds_toArray, List.set_cons_zero, List.set_cons_succ]
            refine Hd.tk 21 ?_
            try simp only [Act.put, List.setIfInBounds_toArray, List.set_cons_zero, List.set_cons_succ]
            refine Hd.tk 22 ?_
            try simp only [Act.put, List.setIfInBounds_toArray, List.set_cons_zero, List.set_cons_succ]
            refine Hd.tk 23 ?_
            try simp only [Act.put, List.setIfInBounds_toArray, List.set_cons_zero, List.set_cons_succ]
            refine Hd.tk 24 ?_
            try simp only [Act.put, List.setIfInBounds_toArray, List.set_cons_zero, List.set_cons_succ]
            refine Hd.tk 25 ?_
            try simp only [Act.put, List.setIfInBounds_toArray, List.set_cons_zero, List.set_cons_succ]
            refine Hd.tk 26 ?_ (hv := by intro wT hT; (try dsimp only at hT); (have hS := hT.2.2.2.2; go_simp; simp only [conv_srcN hS HTL.out.symm, Result.andThen_ok]); try with_reducible rfl)
            try simp only [Act.put, List.setIfInBounds_toArray, List.set_cons_zero, List.set_cons_succ]
            refine Hd.tk 27 ?_
            try simp only [Act.put, List.setIfInBounds_toArray, List.set_cons_zero, List.set_cons_succ]
            refine Hd.tk 28 ?_
            try simp only [Act.put, List.setIfInBounds_toArray, List.set_cons_zero, List.set_cons_succ]
            refine wpAnyH_done (by kernel_rfl) ?_ _
            go_wp2_with fail
            go_roundg (gk - 1)
            case rel => exact ⟨k + 1, a + data.length, by go_num, by simp, by have := HLT.out; omega, by omega, Lib.hid (by have := HQ.out; omega), HY, Lib.hid HB3.out.drew⟩
            case measure => have := HQ.out; have := HLT.out; omega
      · have ho1 : (off == (a : Int)) = false := beq_eq_false_iff_ne.2 hoff
        have ho2 : (off != (a : Int)) = true := by rw [bne, ho1]; rfl
        have HN := Lib.hid (show fitsE (t : Int) ended (runP body (t : Int) (f : Int) parts) = false by rw [HR.out, HDR.out, runP_no (fun h => hoff h.1)]; rfl)
        clear hoff
        refine wp_region_held_drew (S := (fun w' => w'.cell? ⟨pk, 1, none⟩ = some (.int .i64 off) ∧ w'.cell? ⟨pk, 2, none⟩ = some (.slice da data.length dc) ∧ w'.cell? ⟨b0, 7, none⟩ = some (.int .i64 (t : Int)))) (by kernel_rfl) (by exact ⟨p1, p2, s7⟩) (fun hHeld => ?_)
        refine Hd.tk 0 ?_
        try simp only [Act.put, List.setIfInBounds_toArray, List.set_cons_zero, List.set_cons_succ]
        refine Hd.tk 1 ?_
        try simp only [Act.put, List.setIfInBounds_toArray, List.set_cons_zero, List.set_cons_succ]
        refine Hd.tk 2 ?_
        try simp only [Act.put, List.setIfInBounds_toArray, List.set_cons_zero, List.set_cons_succ]
        refine Hd.tk 3 ?_
        try simp only [Act.put, List.setIfInBounds_toArray, List.set_cons_zero, List.set_cons_succ]
        refine Hd.tk 4 ?_
        try simp only [Act.put, List.setIfInBounds_toArray, List.set_cons_zero, List.set_cons_succ]
        refine Hd.sk 5 ?_
        try simp only [Act.put, List.setIfInBounds_toArray, List.set_cons_zero, List.set_cons_succ]
        refine Hd.sk 6 ?_
        try simp only [Act.put, List.setIfInBounds_toArray, List.set_cons_zero, List.set_cons_succ]
        refine Hd.sk 7 ?_
        try simp only [Act.put, List.setIfInBounds_toArray, List.set_cons_zero, List.set_cons_succ]
        refine Hd.sk 8 ?_
        try simp only [Act.put, List.setIfInBounds_toArray, List.set_cons_zero, List.set_cons_succ]
        refine Hd.sk 9 ?_
        try simp only [Act.put, List.setIfInBounds_toArray, List.set_cons_zero, List.set_cons_succ]
        refine Hd.sk 10 ?_
        try simp only [Act.put, List.setIfInBounds_toArray, List.set_cons_zero, List.set_cons_succ]
        refine Hd.sk 11 ?_
        try simp only [Act.put, List.setIfInBounds_toArray, List.set_cons_zero, List.set_cons_succ]
        refine Hd.sk 12 ?_
        try simp only [Act.put, List.setIfInBounds_toArray, List.set_cons_zero, List.set_cons_succ]
        refine Hd.tk 13 ?_
        try simp only [Act.put, List.setIfInBounds_toArray, List.set_cons_zero, List.set_cons_succ]
        refine Hd.tk 14 ?_
        try simp only [Act.put, List.setIfInBounds_toArray, List.set_cons_zero, List.set_cons_succ]
        refine Hd.sk 15 ?_
        try simp only [Act.put, List.setIfInBounds_toArray, List.set_cons_zero, List.set_cons_succ]
        refine Hd.sk 16 ?_
        try simp only [Act.put, List.setIfInBounds_toArray, List.set_cons_zero, List.set_cons_succ]
        refine Hd.sk 17 ?_
        try simp only [Act.put, List.setIfInBounds_toArray, List.set_cons_zero, List.set_cons_succ]
        refine Hd.sk 18 ?_
        try simp only [Act.put, List.setIfInBounds_toArray, List.set_cons_zero, List.set_cons_succ]
        refine Hd.sk 19 ?_
        try simp only [Act.put, List.setIfInBounds_toArray, List.set_cons_zero, List.set_cons_succ]
        refine Hd.sk 20 ?_
        try simp only [Act.put, List.setIfInBounds_toArray, List.set_cons_zero, List.set_cons_succ]
        refine Hd.sk 21 ?_
        try simp only [Act.put, List.setIfInBounds_toArray, List.set_cons_zero, List.set_cons_succ]
        refine Hd.sk 22 ?_
        try simp only [Act.put, List.setIfInBounds_toArray, List.set_cons_zero, List.set_cons_succ]
        refine Hd.sk 23 ?_
        try simp only [Act.put, List.setIfInBounds_toArray, List.set_cons_zero, List.set_cons_succ]
        refine Hd.sk 24 ?_
        try simp only [Act.put, List.setIfInBounds_toArray, List.set_cons_zero, List.set_cons_succ]
        refine Hd.sk 25 ?_
        try simp only [Act.put, List.setIfInBounds_toArray, List.set_cons_zero, List.set_cons_succ]
        refine Hd.sk 26 ?_
        try simp only [Act.put, List.setIfInBounds_toArray, List.set_cons_zero, List.set_cons_succ]
        refine Hd.sk 27 ?_
        try simp only [Act.put, List.setIfInBounds_toArray, List.set_cons_zero, List.set_cons_succ]
        refine Hd.tk 28 ?_
        try simp only [Act.put, List.setIfInBounds_toArray, List.set_cons_zero, List.set_cons_succ]
        refine wpAnyH_done (by kernel_rfl) ?_ _
        go_wp2_with fail
        rw [HN.out]
        go_ret
        exact ⟨rfl, (HB0.out.trans (HB3.out.mono HB0.out.size)).drew⟩
    · have HY := Lib.hid (show runP body (t : Int) (f : Int) parts = some (a : Int) by rw [HR.out, List.drop_eq_nil_of_le (by omega)]; rfl)
      have s10 := (HXS.out.older HBW.out).cell (i := 10) rfl
      have s7 := (HXS.out.older HBW.out).cell (i := 7) rfl
      cases ended with
      | false =>
        have HF2 : Hid (fitsE (t : Int) false (runP body (t : Int) (f : Int) parts) = true) := Lib.hid (by rw [HY.out]; rfl)
        go_wp2_with fail
        rw [HF2.out]
        go_ret
        exact ⟨rfl, HBW0.out⟩
      | true =>
        have HF : Hid (fitsE (t : Int) true (runP body (t : Int) (f : Int) parts) = decide ((a : Int) = (t : Int))) := Lib.hid (by rw [HY.out]; rfl)
        by_cases hat2 : a = t
        · have ha1 : ((a : Int) == (t : Int)) = true := beq_iff_eq.2 (by omega)
          have HF2 := Lib.hid (HF.out.trans (decide_eq_true (by omega)))
          clear hat2 HF
          go_wp2_with fail
          rw [HF2.out]
          go_ret
          exact ⟨rfl, HBW0.out⟩
        · have ha1 : ((a : Int) == (t : Int)) = false := beq_eq_false_iff_ne.2 (by omega)
          have ha2 : (a == t) = false := beq_eq_false_iff_ne.2 hat2
          have HF2 := Lib.hid (HF.out.trans (decide_eq_false (by omega)))
          clear HF
          go_wp2_with fail
          rw [HF2.out]
          go_ret
          exact ⟨rfl, HBW0.out⟩
end Hy
end Go.Proofs.YtjijijjkkhpjnaaGreatDoor
end

