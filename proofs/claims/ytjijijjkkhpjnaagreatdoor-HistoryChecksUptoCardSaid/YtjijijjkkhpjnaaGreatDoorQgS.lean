/- Contracts and plain facts that the statement's proof leans on (texts joined). No condition beyond those that each names. -/
import Derived.Test.YtjijijjkkhpjnaaGreatDoorQgH
import Derived.Test.YtjijijjkkhpjnaaGreatDoorQgK
import Derived.Test.YtjijijjkkhpjnaaGreatDoorQgL
import Derived.Test.YtjijijjkkhpjnaaGreatDoorQgN
import Derived.Test.YtjijijjkkhpjnaaGreatDoorQgP
import Derived.Test.YtjijijjkkhpjnaaGreatDoorQgR
section
namespace Go.Proofs.YtjijijjkkhpjnaaGreatDoor
open Go.RowKit Pl Ad
attribute [local go_sem] ba_get ba_append ba_extract conv_one
set_option maxRecDepth 100000
set_option maxHeartbeats 4000000
set_option linter.unusedVariables false
set_option linter.unusedSimpArgs false
namespace Hy
open A1 Kr
theorem ragain_any (ps : List PubM) (gs : List PrgM) (ss : List SrvM) (fs : List FetM) (ds : List DroM) (va vb vc vd ve : Value) (bound fin : Int) (i : Nat) (w : World) (hf : RowsV fetR 6 w vd fs) (hd : RowsV droR 3 w ve ds) (hfl : fs.length ≤ 1000000) (hdl : ds.length ≤ 1000000) (hi : i < fs.length) :
    Calls Tryz.prog 65 #[.agg #[va, vb, vc, vd, ve, .int .i64 bound, .int .i64 fin], .int .i64 (i : Int)] w fun e w' => e = .returned (.bool (againB ⟨ps, gs, ss, fs, ds, bound, fin⟩ i)) ∧ Below w.heap.size w w' := by
  obtain ⟨fa, fc, rfl, _⟩ := hf.form
  obtain ⟨ga, gc, rfl, _⟩ := hd.form
  obtain ⟨h, hh⟩ : ∃ h : HisM, (⟨ps, gs, ss, fs, ds, bound, fin⟩ : HisM) = h := ⟨_, rfl⟩
  rw [hh]
  obtain ⟨f, hfi⟩ : ∃ f, fs[i]? = some f := ⟨_, List.getElem?_eq_getElem hi⟩
  have HAG : Hid (againB h i = (!f.failed && agF h f i)) := Lib.hid (by rw [← hh]; unfold againB; simp only [hfi])
  have HSU : Hid (∀ (k : Nat) (x : FetM), fs[k]? = some x → agF h f (k + 1) = if sameF f x then !dropB ds f x else agF h f k) := Lib.hid (fun k x hx => by rw [← hh]; exact agF_succ hx)
  have HZ : Hid (agF h f 0 = false) := Lib.hid rfl
  have HF := Lib.hid hf
  have HD := Lib.hid hd
  have HDL := Lib.hid hdl
  obtain ⟨b3, o3, rfl, _, hbz, hfrow⟩ := row_at hf hfi
  have HB0 := Lib.hid ((Below.refl w.heap.size w).alloc (Nat.le_refl _) (.cells #[va, vb, vc, .slice (some ⟨b3, o3, none⟩) fs.length fc, .slice ga ds.length gc, .int .i64 bound, .int .i64 fin] 69))
  have HXH := Lib.hid (Bx.new w 69 #[va, vb, vc, .slice (some ⟨b3, o3, none⟩) fs.length fc, .slice ga ds.length gc, .int .i64 bound, .int .i64 fin])
  obtain ⟨fn, fk, ft, faa, fp, ff⟩ := f
  have d0 := hfrow 0 _ rfl
  have d1 := hfrow 1 _ rfl
  have d2 := hfrow 2 _ rfl
  have d3 := hfrow 3 _ rfl
  have d4 := hfrow 4 _ rfl
  have d5 := hfrow 5 _ rfl
  rw [Nat.add_zero] at d0
  have hib : i < 1000000 := by omega
  clear hf hd hh hfi hfrow hdl
  cases ff with
  | true =>
    have HE := Lib.hid (show againB h i = false by rw [HAG.out]; rfl)
    have HB4 := Lib.hid (HB0.out.alloc HB0.out.size (.cells #[.string ⟨fn.toArray⟩, .string ⟨fk.toArray⟩, .string ⟨ft.toArray⟩, .int .i64 faa, .int .i64 fp, .bool true] 102))
    go_enter Tryz.func65, Tryz.ntmps65
    go_wp2_with fail
    rw [HE.out]
    go_ret
    exact ⟨rfl, HB4.out⟩
  | false =>
    have HE := Lib.hid (show againB h i = agF h ⟨fn, fk, ft, faa, fp, false⟩ i by rw [HAG.out]; rfl)
    have HB4 := Lib.hid (HB0.out.alloc HB0.out.size (.cells #[.string ⟨fn.toArray⟩, .string ⟨fk.toArray⟩, .string ⟨ft.toArray⟩, .int .i64 faa, .int .i64 fp, .bool false] 102))
    have HXH4 := Lib.hid (HXH.out.older ((Below.refl _ _).alloc (Nat.le_refl _) (.cells #[.string ⟨fn.toArray⟩, .string ⟨fk.toArray⟩, .string ⟨ft.toArray⟩, .int .i64 faa, .int .i64 fp, .bool false] 102)))
    have HXF4 := Lib.hid (show Bx ((w.alloc (.cells #[va, vb, vc, .slice (some ⟨b3, o3, none⟩) fs.length fc, .slice ga ds.length gc, .int .i64 bound, .int .i64 fin] 69)).alloc (.cells #[.string ⟨fn.toArray⟩, .string ⟨fk.toArray⟩, .string ⟨ft.toArray⟩, .int .i64 faa, .int .i64 fp, .bool false] 102)) (w.heap.size + 1) 102 #[.string ⟨fn.toArray⟩, .string ⟨fk.toArray⟩, .string ⟨ft.toArray⟩, .int .i64 faa, .int .i64 fp, .bool false] by have := Bx.new (w.alloc (.cells #[va, vb, vc, .slice (some ⟨b3, o3, none⟩) fs.length fc, .slice ga ds.length gc, .int .i64 bound, .int .i64 fin] 69)) 102 #[.string ⟨fn.toArray⟩, .string ⟨fk.toArray⟩, .string ⟨ft.toArray⟩, .int .i64 faa, .int .i64 fp, .bool false]; simpa using this)
    go_enter Tryz.func65, Tryz.ntmps65
    go_wp2_with fail
    obtain ⟨w1, hw1⟩ : ∃ z, (w.alloc (.cells #[va, vb, vc, .slice (some ⟨b3, o3, none⟩) fs.length fc, .slice ga ds.length gc, .int .i64 bound, .int .i64 fin] 69)).alloc (.cells #[.string ⟨fn.toArray⟩, .string ⟨fk.toArray⟩, .string ⟨ft.toArray⟩, .int .i64 faa, .int .i64 fp, .bool false] 102) = z := ⟨_, rfl⟩
    obtain ⟨b0, hb0⟩ : ∃ z, w.heap.size = z := ⟨_, rfl⟩
    obtain ⟨b1, hb1⟩ : ∃ z, w.heap.size + 1 = z := ⟨_, rfl⟩
    rw [hw1] at HB4 HXH4 HXF4 ⊢
    rw [hb1] at HXF4 ⊢
    rw [hb0] at HXH4 ⊢
    clear hw1 hb1 hb0 HB0 HXH HAG d0 d1 d2 d3 d4 d5 hbz
    go_loopg [6] i (fun gq iv wr => ∃ k : Nat, iv = .int .i64 ((k : Int) - 1) ∧ k ≤ i ∧ Hid (k ≤ gq) ∧ Hid (againB h i = agF h ⟨fn, fk, ft, faa, fp, false⟩ k) ∧ Hid (Below w1.heap.size w1 wr))
    case atStart => exact ⟨i, by go_num, Nat.le_refl _, Lib.hid (Nat.le_refl _), Lib.hid HE.out, Lib.hid (Below.refl _ _)⟩
    case round =>
      obtain ⟨k, rfl, hk, HQ, HA, HBW⟩ := hrel
      have h3 := (HXH4.out.older HBW.out).cell (i := 3) rfl
      have h4 := (HXH4.out.older HBW.out).cell (i := 4) rfl
      have f0 := (HXF4.out.older HBW.out).cell (i := 0) rfl
      have f1 := (HXF4.out.older HBW.out).cell (i := 1) rfl
      have f2 := (HXF4.out.older HBW.out).cell (i := 2) rfl
      have f3 := (HXF4.out.older HBW.out).cell (i := 3) rfl
      have f4 := (HXF4.out.older HBW.out).cell (i := 4) rfl
      have hz3 := (HXH4.out.older HBW.out).lt
      have hz4 := (HXF4.out.older HBW.out).lt
      by_cases hk0 : k = 0
      · subst hk0
        have HR := Lib.hid (HA.out.trans HZ.out)
        clear hk
        go_wp2_with fail
        rw [HR.out]
        go_ret
        exact ⟨rfl, HB4.out.trans (HBW.out.mono HB4.out.size)⟩
      · obtain ⟨k, rfl⟩ : ∃ j, k = j + 1 := ⟨k - 1, by omega⟩
        have e1 : (((k + 1 : Nat)) : Int) - 1 = (k : Int) := by omega
        rw [e1]
        have HLT := Lib.hid hk
        have hkf : k < fs.length := by omega
        have hw : IntKind.i64.wrap ((k : Int) - 1) = (k : Int) - 1 := IntWalk.i64_in _ (by omega)
        have hkn : ¬ ((k : Int) < 0) := by omega
        obtain ⟨x, hxk⟩ : ∃ x, fs[k]? = some x := ⟨_, List.getElem?_eq_getElem hkf⟩
        have HSTEP := Lib.hid (HSU.out k x hxk)
        obtain ⟨b5, o5, e5, _, _, hxrow⟩ := row_at HF.out hxk
        cases e5
        have hbw := HB4.out.trans (HBW.out.mono HB4.out.size)
        obtain ⟨xn, xk, xt, xa, xp, xf⟩ := x
        have d0 := keepH hbw (hxrow 0 _ rfl)
        have d1 := keepH hbw (hxrow 1 _ rfl)
        have d2 := keepH hbw (hxrow 2 _ rfl)
        have d3 := keepH hbw (hxrow 3 _ rfl)
        have d4 := keepH hbw (hxrow 4 _ rfl)
        have d5 := keepH hbw (hxrow 5 _ rfl)
        rw [Nat.add_zero] at d0
        have hb5 : b3 < wr.heap.size := World.block_lt_of_cell? wr _ d0
        have HB3 := Lib.hid (HBW.out.alloc HBW.out.size (.cells #[.string ⟨xn.toArray⟩, .string ⟨xk.toArray⟩, .string ⟨xt.toArray⟩, .int .i64 xa, .int .i64 xp, .bool xf] 102))
        clear hxrow hxk hbw
        cases xf with
        | true =>
          go_wp2_with fail
          go_roundg (gk - 1)
          case rel => exact ⟨k, by go_num, by have := HLT.out; omega, Lib.hid (by have := HQ.out; omega), Lib.hid (by rw [HA.out, HSTEP.out, if_neg (by unfold sameF; simp only; simp)]), Lib.hid HB3.out⟩
          case measure => have := HQ.out; omega
        | false =>
          cases n1 : (xn == fn) with
          | false =>
            go_wp2_with fail
            go_roundg (gk - 1)
            case rel => exact ⟨k, by go_num, by have := HLT.out; omega, Lib.hid (by have := HQ.out; omega), Lib.hid (by rw [HA.out, HSTEP.out, if_neg (by unfold sameF; simp only; rw [n1]; simp)]), Lib.hid HB3.out⟩
            case measure => have := HQ.out; omega
          | true =>
            cases n2 : (xk == fk) with
            | false =>
              go_wp2_with fail
              go_roundg (gk - 1)
              case rel => exact ⟨k, by go_num, by have := HLT.out; omega, Lib.hid (by have := HQ.out; omega), Lib.hid (by rw [HA.out, HSTEP.out, if_neg (by unfold sameF; simp only; rw [n2]; simp)]), Lib.hid HB3.out⟩
              case measure => have := HQ.out; omega
            | true =>
              cases n3 : (xt == ft) with
              | false =>
                go_wp2_with fail
                go_roundg (gk - 1)
                case rel => exact ⟨k, by go_num, by have := HLT.out; omega, Lib.hid (by have := HQ.out; omega), Lib.hid (by rw [HA.out, HSTEP.out, if_neg (by unfold sameF; simp only; rw [n3]; simp)]), Lib.hid HB3.out⟩
                case measure => have := HQ.out; omega
              | true =>
                by_cases n4 : xp = fp
                · have m1 : (xp == fp) = true := beq_iff_eq.2 n4
                  have m2 : (xp != fp) = false := by rw [bne, m1]; rfl
                  have HS4 := Lib.hid (show sameF ⟨fn, fk, ft, faa, fp, false⟩ ⟨xn, xk, xt, xa, xp, false⟩ = true by unfold sameF; simp only; rw [n1, n2, n3, decide_eq_true n4]; rfl)
                  have HR := Lib.hid (show againB h i = !dropB ds ⟨fn, fk, ft, faa, fp, false⟩ ⟨xn, xk, xt, xa, xp, false⟩ by rw [HA.out, HSTEP.out, if_pos HS4.out])
                  clear n4 hk
                  have HXX := Lib.hid (Bx.new wr 102 #[.string ⟨xn.toArray⟩, .string ⟨xk.toArray⟩, .string ⟨xt.toArray⟩, .int .i64 xa, .int .i64 xp, .bool false])
                  have HXF5 := Lib.hid ((HXF4.out.older HBW.out).older ((Below.refl _ _).alloc (Nat.le_refl _) (.cells #[.string ⟨xn.toArray⟩, .string ⟨xk.toArray⟩, .string ⟨xt.toArray⟩, .int .i64 xa, .int .i64 xp, .bool false] 102)))
                  go_wp2_with fail
                  obtain ⟨w3, hw3⟩ : ∃ z, wr.alloc (.cells #[.string ⟨xn.toArray⟩, .string ⟨xk.toArray⟩, .string ⟨xt.toArray⟩, .int .i64 xa, .int .i64 xp, .bool false] 102) = z := ⟨_, rfl⟩
                  obtain ⟨bx, hbx⟩ : ∃ z, wr.heap.size = z := ⟨_, rfl⟩
                  rw [hw3] at HB3 HXX HXF5 ⊢
                  rw [hbx] at HXX ⊢
                  clear hw3 hbx d0 d1 d2 d3 d4 d5 hb5 h3 h4 f0 f1 f2 f3 f4 hz3 hz4 n1 n2 n3 m1 m2 hw
                  have HBB := Lib.hid (HB4.out.trans (HB3.out.mono HB4.out.size))
                  go_loopg [61] ds.length (fun gq jv wq => ∃ j : Nat, jv = .int .i64 j ∧ j ≤ ds.length ∧ Hid (ds.length ≤ gq + j) ∧ Hid (dropB ds ⟨fn, fk, ft, faa, fp, false⟩ ⟨xn, xk, xt, xa, xp, false⟩ = dropB (ds.drop j) ⟨fn, fk, ft, faa, fp, false⟩ ⟨xn, xk, xt, xa, xp, false⟩) ∧ Hid (Below w3.heap.size w3 wq))
                  case atStart => exact ⟨0, rfl, Nat.zero_le _, Lib.hid (by omega), Lib.hid rfl, Lib.hid (Below.refl _ _)⟩
                  case round =>
                    obtain ⟨j, rfl, hj, HQ2, HDB, HBV⟩ := hrel
                    by_cases hjl : j < ds.length
                    · have HJL := Lib.hid hjl
                      have hjb : j < 1000000 := by have := HDL.out; omega
                      obtain ⟨d, hdj⟩ : ∃ d, ds[j]? = some d := ⟨_, List.getElem?_eq_getElem hjl⟩
                      obtain ⟨b7, o7, rfl, _, _, hdrow⟩ := row_at HD.out hdj
                      have hdr : ds.drop j = d :: ds.drop (j + 1) := by
                        obtain ⟨hq9, e9⟩ := List.getElem?_eq_some_iff.1 hdj
                        rw [List.drop_eq_getElem_cons hq9, e9]
                      obtain ⟨dn, dk, da⟩ := d
                      have HDS := Lib.hid (show dropB ds ⟨fn, fk, ft, faa, fp, false⟩ ⟨xn, xk, xt, xa, xp, false⟩ = ((dn == fn && dk == fk && decide (xa ≤ da) && decide (da ≤ faa)) || dropB (ds.drop (j + 1)) ⟨fn, fk, ft, faa, fp, false⟩ ⟨xn, xk, xt, xa, xp, false⟩) by rw [HDB.out, hdr]; rfl)
                      have hbv := HBB.out.trans (HBV.out.mono HBB.out.size)
                      have g0 := keepH hbv (hdrow 0 _ rfl)
                      have g1 := keepH hbv (hdrow 1 _ rfl)
                      have g2 := keepH hbv (hdrow 2 _ rfl)
                      rw [Nat.add_zero] at g0
                      have hb7 := World.block_lt_of_cell? _ _ g0
                      simp only at hb7
                      have f0 := (HXF5.out.older HBV.out).cell (i := 0) rfl
                      have f1 := (HXF5.out.older HBV.out).cell (i := 1) rfl
                      have f3 := (HXF5.out.older HBV.out).cell (i := 3) rfl
                      have x3 := (HXX.out.older HBV.out).cell (i := 3) rfl
                      have hzf := (HXF5.out.older HBV.out).lt
                      have hzx := (HXX.out.older HBV.out).lt
                      have HB8 := Lib.hid (HBV.out.alloc HBV.out.size (.cells #[.string ⟨dn.toArray⟩, .string ⟨dk.toArray⟩, .int .i64 da] 104))
                      clear hdrow hdr hdj hbv hj
                      cases q1 : (dn == fn) with
                      | false =>
                        go_wp2_with fail
                        go_roundg (gk - 1)
                        case rel => exact ⟨j + 1, by go_num, by have := HJL.out; omega, Lib.hid (by have := HQ2.out; omega), Lib.hid (by rw [HDS.out, q1]; simp), Lib.hid HB8.out⟩
                        case measure => have := HQ2.out; have := HJL.out; omega
                      | true =>
                        cases q2 : (dk == fk) with
                        | false =>
                          go_wp2_with fail
                          go_roundg (gk - 1)
                          case rel => exact ⟨j + 1, by go_num, by have := HJL.out; omega, Lib.hid (by have := HQ2.out; omega), Lib.hid (by rw [HDS.out, q2]; simp), Lib.hid HB8.out⟩
                          case measure => have := HQ2.out; have := HJL.out; omega
                        | true =>
                          by_cases q3 : xa ≤ da
                          · by_cases q4 : da ≤ faa
                            · have HY := Lib.hid (show againB h i = false by rw [HR.out, HDS.out, q1, q2, decide_eq_true q3, decide_eq_true q4]; rfl)
                              go_wp2_with fail
                              rw [HY.out]
                              go_ret
                              exact ⟨rfl, HBB.out.trans (HB8.out.mono HBB.out.size)⟩
                            · have q4f : decide (da ≤ faa) = false := decide_eq_false q4
                              clear q4
                              go_wp2_with fail
                              go_roundg (gk - 1)
                              case rel => exact ⟨j + 1, by go_num, by have := HJL.out; omega, Lib.hid (by have := HQ2.out; omega), Lib.hid (by rw [HDS.out, q4f]; simp), Lib.hid HB8.out⟩
                              case measure => have := HQ2.out; have := HJL.out; omega
                          · have q3f : decide (xa ≤ da) = false := decide_eq_false q3
                            clear q3
                            go_wp2_with fail
                            go_roundg (gk - 1)
                            case rel => exact ⟨j + 1, by go_num, by have := HJL.out; omega, Lib.hid (by have := HQ2.out; omega), Lib.hid (by rw [HDS.out, q3f]; simp), Lib.hid HB8.out⟩
                            case measure => have := HQ2.out; have := HJL.out; omega
                    · have HY := Lib.hid (show againB h i = true by rw [HR.out, HDB.out, List.drop_eq_nil_of_le (by omega)]; rfl)
                      go_wp2_with fail
                      rw [HY.out]
                      go_ret
                      exact ⟨rfl, HBB.out.trans (HBV.out.mono HBB.out.size)⟩
                · have m1 : (xp == fp) = false := beq_eq_false_iff_ne.2 n4
                  have m2 : (xp != fp) = true := by rw [bne, m1]; rfl
                  have HN4 := Lib.hid (decide_eq_false n4)
                  clear n4
                  go_wp2_with fail
                  go_roundg (gk - 1)
                  case rel => exact ⟨k, by go_num, by have := HLT.out; omega, Lib.hid (by have := HQ.out; omega), Lib.hid (by rw [HA.out, HSTEP.out, if_neg (by unfold sameF; simp only; rw [HN4.out]; simp)]), Lib.hid HB3.out⟩
                  case measure => have := HQ.out; omega
end Hy
end Go.Proofs.YtjijijjkkhpjnaaGreatDoor
end

section
namespace Go.Proofs.YtjijijjkkhpjnaaGreatDoor
open Go.RowKit Pl Ad
set_option maxRecDepth 100000
set_option maxHeartbeats 1000000
set_option linter.unusedVariables false
namespace Hy
open A1 Kr
theorem anyF_any {α : Type} {c : α → Bool} : ∀ {l : List α} {k : Nat}, anyF (fun _ x => c x) l k = l.any c
  | [], _ => rfl
  | x :: r, k => by unfold anyF; rw [anyF_any (l := r), List.any_cons]
theorem since_fine {h : HisM} {s : SrvM} {g : PrgM} (hs : h.Small) (hg : inB g.ord) : sinceB h.pubs s.addr s.tag g.ord = fineB h s g := by
  rw [Bool.eq_iff_iff]
  unfold sinceB fineB
  rw [anyF_iff, List.any_eq_true]
  constructor
  · rintro ⟨j, p, h1, h2⟩
    rw [Nat.zero_add, Bool.and_eq_true, decide_eq_true_eq] at h2
    refine ⟨j, versM_mem.2 ⟨p, h1, h2.1⟩, ?_⟩
    rw [spanI_at h1]
    unfold afterM
    have h3 := h2.2
    unfold endN at h3
    cases he : endO h.pubs j with
    | none => simp
    | some t => rw [he] at h3; simp at h3 ⊢; omega
  · rintro ⟨j, hj, h2⟩
    obtain ⟨p, h1, h3⟩ := versM_mem.1 hj
    refine ⟨j, p, h1, ?_⟩
    rw [Nat.zero_add, Bool.and_eq_true, decide_eq_true_eq]
    refine ⟨h3, ?_⟩
    rw [spanI_at h1] at h2
    unfold afterM at h2
    unfold endN
    have hp := (hs.pubs p (List.mem_of_getElem? h1)).1
    unfold inB at hp hg
    cases he : endO h.pubs j with
    | none => simp; omega
    | some t => rw [he] at h2; simp at h2 ⊢; omega
theorem taken_eq {h : HisM} {s : SrvM} (hs : h.Small) : (knownB h.pubs s.addr s.tag && anyF (fun _ g => cutB h.pubs s g) h.prgs 0) = purgedB h s := by
  unfold purgedB
  rw [known_vers, anyF_any]
  congr 1
  rw [Bool.eq_iff_iff, List.any_eq_true, List.any_eq_true]
  refine exists_congr fun g => and_congr_right fun hg => ?_
  unfold cutB
  rw [anyF_any, since_fine hs (hs.prgs g hg).1]
  unfold lateP
  generalize fineB h s g = f
  generalize decide (0 ≤ g.stl) = a
  generalize hitB g s = b
  cases a <;> cases b <;> cases f <;> simp
theorem fresh_eq {h : HisM} {s : SrvM} (hs : h.Small) (hss : inB s.at_) : (!(!(knownB h.pubs s.addr s.tag) || anyF (fun j p => isV p s.addr s.tag && (decide (p.at_ ≤ min s.at_ (endN h.pubs j - 1)) && decide (s.ask - min s.at_ (endN h.pubs j - 1) ≤ p.lim))) h.pubs 0)) = oldB h s := by
  have e : anyF (fun j p => isV p s.addr s.tag && (decide (p.at_ ≤ min s.at_ (endN h.pubs j - 1)) && decide (s.ask - min s.at_ (endN h.pubs j - 1) ≤ p.lim))) h.pubs 0 = (versM h.pubs s.addr s.tag).any fun i => inLimB h s i := by
    rw [Bool.eq_iff_iff, anyF_iff, List.any_eq_true]
    have key : ∀ (j : Nat) (p : PubM), h.pubs[j]? = some p → ((decide (p.at_ ≤ min s.at_ (endN h.pubs j - 1)) && decide (s.ask - min s.at_ (endN h.pubs j - 1) ≤ p.lim)) = true ↔ inLimB h s j = true) := fun j p hp => by
      unfold inLimB
      simp only [hp]
      rw [spanI_at hp]
      unfold lastM endN inB at *
      have hpb := (hs.pubs p (List.mem_of_getElem? hp)).1
      unfold inB at hpb
      cases he : endO h.pubs j with
      | none =>
        simp only [Option.isSome_none, Bool.false_eq_true, false_and, if_false, Option.getD_none]
        simp only [Bool.and_eq_true, decide_eq_true_eq]; omega
      | some t =>
        simp only [Option.isSome_some, true_and, Option.getD_some]
        by_cases h1 : t ≤ s.at_
        · have em : min s.at_ (t - 1) = t - 1 := by omega
          rw [if_pos h1]
          simp only [em]
          by_cases h2 : t ≤ p.at_
          · have e9 : decide (p.at_ ≤ t - 1) = false := decide_eq_false (by omega)
            rw [if_pos h2, e9]; simp
          · rw [if_neg h2]
        · rw [if_neg h1]; simp only [Bool.and_eq_true, decide_eq_true_eq]; omega
    constructor
    · rintro ⟨j, p, h1, h2⟩
      rw [Nat.zero_add, Bool.and_eq_true] at h2
      exact ⟨j, versM_mem.2 ⟨p, h1, h2.1⟩, (key j p h1).1 h2.2⟩
    · rintro ⟨j, hj, h2⟩
      obtain ⟨p, h1, h3⟩ := versM_mem.1 hj
      exact ⟨j, p, h1, by rw [Nat.zero_add, Bool.and_eq_true]; exact ⟨h3, (key j p h1).2 h2⟩⟩
  rw [e, known_vers]
  unfold oldB
  rw [Bool.not_or, Bool.not_not, List.not_any_eq_all_not]
theorem whole_eq {h : HisM} {s : SrvM} : (!(anyF (fun _ p => isV p s.addr s.tag && fitsB p.body s) h.pubs 0)) = mixedB h s := by
  have e : anyF (fun _ p => isV p s.addr s.tag && fitsB p.body s) h.pubs 0 = (versM h.pubs s.addr s.tag).any fun i => fitI h s i := by
    rw [Bool.eq_iff_iff, anyF_iff, List.any_eq_true]
    constructor
    · rintro ⟨j, p, h1, h2⟩
      rw [Bool.and_eq_true] at h2
      exact ⟨j, versM_mem.2 ⟨p, h1, h2.1⟩, by unfold fitI; rw [h1]; exact h2.2⟩
    · rintro ⟨j, hj, h2⟩
      obtain ⟨p, h1, h3⟩ := versM_mem.1 hj
      unfold fitI at h2
      rw [h1] at h2
      exact ⟨j, p, h1, by rw [Bool.and_eq_true]; exact ⟨h3, h2⟩⟩
  rw [e]
  unfold mixedB
  rw [List.not_any_eq_all_not]
end Hy
end Go.Proofs.YtjijijjkkhpjnaaGreatDoor
end

section
namespace Go.Proofs.YtjijijjkkhpjnaaGreatDoor
open Go.RowKit Pl Ad
attribute [local go_sem] ba_get ba_append ba_extract conv_one
set_option maxRecDepth 100000
set_option maxHeartbeats 4000000
set_option linter.unusedVariables false
set_option linter.unusedSimpArgs false
theorem A1.guardB_viS : Tryz.prog.eqGuardType Tryz.prog.depth 90 = false := by decide +kernel
theorem A1.guard_viS (op : BinOp) (x y : Operand) (xs ys : Array Value) (w : World) : (eqGuard op 90 x y (.agg xs) (.agg ys)).run Tryz.prog w = .ok () w := run_eqGuard_agg w op 90 x y xs ys A1.guardB_viS
theorem A1.neq_vi (k t k' t' : Int) (v v' : Bs) (w : World) : (binOp .neq 90 (.agg #[.int .i64 k, .int .i64 t, .string ⟨v.toArray⟩]) (.agg #[.int .i64 k', .int .i64 t', .string ⟨v'.toArray⟩])).run Tryz.prog w = .ok (.bool (!(k == k' && (t == t' && v == v')))) w := by
  have hgd := @A1.guard_viS
  have h := A1.eql_vi k t k' t' v v' w
  rw [run_eql_struct] at h
  rw [run_neq_struct]
  cases hx : (Op.equalIn 10000 90 (.agg #[.int .i64 k, .int .i64 t, .string ⟨v.toArray⟩]) (.agg #[.int .i64 k', .int .i64 t', .string ⟨v'.toArray⟩])).run Tryz.prog w with
  | ok b w' =>
    rw [hx] at h
    have h' : (Result.ok (Value.bool b) w' : Result Value) = Result.ok (Value.bool (k == k' && (t == t' && v == v'))) w := h
    injection h' with h1 h2
    subst h2
    injection h1 with h1
    subst h1
    rfl
  | halt x w' => rw [hx] at h; cases h
attribute [local go_sem] A1.guard_viS
attribute [-go_sem] run_eql_struct run_neq_struct run_eqGuard_agg
namespace Hy
open A1 Kr
theorem same_any (l : List VioM) (va vb : Value) (w : World) (h1 : RowsV vioR 3 w va l) (h2 : RowsV vioR 3 w vb l) (hl : l.length ≤ 100000) :
    Calls Tryz.prog 30 #[va, vb] w fun e w' => e = .returned (.bool true) ∧ Below w.heap.size w w' := by
  obtain ⟨a1, a2, rfl, ha⟩ := h1.form
  obtain ⟨b1, b2, rfl, hb⟩ := h2.form
  have H1 := Lib.hid h1
  have H2 := Lib.hid h2
  obtain ⟨n, hn⟩ : ∃ z, l.length = z := ⟨_, rfl⟩
  have HN := Lib.hid hn
  rw [hn] at H1 H2 ha hb hl ⊢
  clear h1 h2 hn
  go_enter Tryz.func30, Tryz.ntmps30
  go_wp2_with fail
  go_loopg [13] n (fun gq iv wr => ∃ k : Nat, iv = .int .i64 k ∧ k ≤ n ∧ Hid (n ≤ gq + k) ∧ Hid (Below w.heap.size w wr))
  case atStart => exact ⟨0, rfl, Nat.zero_le _, Lib.hid (by omega), Lib.hid (Below.refl _ _)⟩
  case round =>
    obtain ⟨k, rfl, hk, HQ, HB⟩ := hrel
    by_cases hlt : k < n
    · have HLT := Lib.hid hlt
      have q1 : (k : Int) < (n : Int) := by omega
      have q2 : (0 : Int) ≤ (k : Int) := by omega
      obtain ⟨x, hxk⟩ : ∃ x, l[k]? = some x := ⟨_, List.getElem?_eq_getElem (by rw [HN.out]; exact hlt)⟩
      obtain ⟨g1, o1, e1, _, hz1, row1⟩ := row_at (H1.out.below HB.out) hxk
      cases e1
      obtain ⟨g2, o2, e2, _, hz2, row2⟩ := row_at (H2.out.below HB.out) hxk
      cases e2
      obtain ⟨vr, vi, vt⟩ := x
      have d0 := row1 0 _ rfl
      have c0 := row2 0 _ rfl
      have d1 := row1 1 _ rfl
      have c1 := row2 1 _ rfl
      have d2 := row1 2 _ rfl
      have c2 := row2 2 _ rfl
      rw [Nat.add_zero] at d0 c0
      have hne : ∀ w, (binOp .neq 90 (.agg #[.int .i64 vr, .int .i64 vi, .string ⟨vt.toArray⟩]) (.agg #[.int .i64 vr, .int .i64 vi, .string ⟨vt.toArray⟩])).run Tryz.prog w = .ok (.bool false) w := fun w => by rw [neq_vi]; simp
      clear row1 row2 hxk
      go_upto_region 6 with fail
      refine wp_region_held_drew (S := (fun w' => w'.cell? ⟨g1, o1 + k * 3, none⟩ = some (.int .i64 vr) ∧ w'.cell? ⟨g1, o1 + k * 3 + 1, none⟩ = some (.int .i64 vi) ∧ w'.cell? ⟨g1, o1 + k * 3 + 2, none⟩ = some (.string ⟨vt.toArray⟩) ∧ w'.cell? ⟨g2, o2 + k * 3, none⟩ = some (.int .i64 vr) ∧ w'.cell? ⟨g2, o2 + k * 3 + 1, none⟩ = some (.int .i64 vi) ∧ w'.cell? ⟨g2, o2 + k * 3 + 2, none⟩ = some (.string ⟨vt.toArray⟩))) (by kernel_rfl) (by exact ⟨d0, d1, d2, c0, c1, c2⟩) (fun hHeld => ?_)
      refine Hd.tk 0 ?_
      try simp only [Act.put, List.setIfInBounds_toArray, List.set_cons_zero, List.set_cons_succ]
      refine Hd.tk 1 ?_
      try simp only [Act.put, List.setIfInBounds_toArray, List.set_cons_zero, List.set_cons_succ]
      refine Hd.tk 2 ?_
      try simp only [Act.put, List.setIfInBounds_toArray, List.set_cons_zero, List.set_cons_succ]
      refine Hd.tk 3 ?_
      try simp only [Act.put, List.setIfInBounds_toArray, List.set_cons_zero, List.set_cons_succ]
      refine Hd.tk 4 ?_
      try simp only [Act.put, List.setIfInBounds_toArray, List.set_cons_zero, List.set_cons_succ]
      refine Hd.tk 5 ?_
      try simp only [Act.put, List.setIfInBounds_toArray, List.set_cons_zero, List.set_cons_succ]
      refine Hd.tk 6 ?_
      try simp only [Act.put, List.setIfInBounds_toArray, List.set_cons_zero, List.set_cons_succ]
      refine Hd.tk 7 ?_
      try simp only [Act.put, List.setIfInBounds_toArray, List.set_cons_zero, List.set_cons_succ]
      refine Hd.tk 8 ?_
      try simp only [Act.put, List.setIfInBounds_toArray, List.set_cons_zero, List.set_cons_succ]
      refine wpAnyH_done (by kernel_rfl) ?_ _
      go_wp2_with fail
      go_roundg (gk - 1)
      case rel => exact ⟨k + 1, by go_num, by have := HLT.out; omega, Lib.hid (by have := HQ.out; omega), Lib.hid HB.out.drew⟩
      case measure => have := HQ.out; have := HLT.out; omega
    · obtain rfl : n = k := by omega
      go_wp2_with fail
      go_ret
      exact ⟨rfl, HB.out⟩
theorem texts_any (r : Nat) (tx : Bs) (w : World) (h : (r = 1 ∧ tx = tx1) ∨ (r = 2 ∧ tx = tx2) ∨ (r = 3 ∧ tx = tx3) ∨ (r = 4 ∧ tx = tx4) ∨ (r = 5 ∧ tx = tx5)) :
    Calls Tryz.prog 66 #[.int .i64 (r : Int)] w fun e w' => e = .returned (.string ⟨tx.toArray⟩) ∧ Below w.heap.size w w' := by
  rcases h with ⟨rfl, rfl⟩ | ⟨rfl, rfl⟩ | ⟨rfl, rfl⟩ | ⟨rfl, rfl⟩ | ⟨rfl, rfl⟩
  · have HB := Lib.hid ((Below.refl w.heap.size w).alloc (Nat.le_refl _) (.cells #[.string ⟨#[]⟩, .string ⟨tx1.toArray⟩, .string ⟨tx2.toArray⟩, .string ⟨tx3.toArray⟩, .string ⟨tx4.toArray⟩, .string ⟨tx5.toArray⟩] 9))
    go_enter Tryz.func66, Tryz.ntmps66
    go_wp2_with fail
    go_ret
    exact ⟨rfl, HB.out⟩
  · have HB := Lib.hid ((Below.refl w.heap.size w).alloc (Nat.le_refl _) (.cells #[.string ⟨#[]⟩, .string ⟨tx1.toArray⟩, .string ⟨tx2.toArray⟩, .string ⟨tx3.toArray⟩, .string ⟨tx4.toArray⟩, .string ⟨tx5.toArray⟩] 9))
    go_enter Tryz.func66, Tryz.ntmps66
    go_wp2_with fail
    go_ret
    exact ⟨rfl, HB.out⟩
  · have HB := Lib.hid ((Below.refl w.heap.size w).alloc (Nat.le_refl _) (.cells #[.string ⟨#[]⟩, .string ⟨tx1.toArray⟩, .string ⟨tx2.toArray⟩, .string ⟨tx3.toArray⟩, .string ⟨tx4.toArray⟩, .string ⟨tx5.toArray⟩] 9))
    go_enter Tryz.func66, Tryz.ntmps66
    go_wp2_with fail
    go_ret
    exact ⟨rfl, HB.out⟩
  · have HB := Lib.hid ((Below.refl w.heap.size w).alloc (Nat.le_refl _) (.cells #[.string ⟨#[]⟩, .string ⟨tx1.toArray⟩, .string ⟨tx2.toArray⟩, .string ⟨tx3.toArray⟩, .string ⟨tx4.toArray⟩, .string ⟨tx5.toArray⟩] 9))
    go_enter Tryz.func66, Tryz.ntmps66
    go_wp2_with fail
    go_ret
    exact ⟨rfl, HB.out⟩
  · have HB := Lib.hid ((Below.refl w.heap.size w).alloc (Nat.le_refl _) (.cells #[.string ⟨#[]⟩, .string ⟨tx1.toArray⟩, .string ⟨tx2.toArray⟩, .string ⟨tx3.toArray⟩, .string ⟨tx4.toArray⟩, .string ⟨tx5.toArray⟩] 9))
    go_enter Tryz.func66, Tryz.ntmps66
    go_wp2_with fail
    go_ret
    exact ⟨rfl, HB.out⟩
end Hy
end Go.Proofs.YtjijijjkkhpjnaaGreatDoor
end

