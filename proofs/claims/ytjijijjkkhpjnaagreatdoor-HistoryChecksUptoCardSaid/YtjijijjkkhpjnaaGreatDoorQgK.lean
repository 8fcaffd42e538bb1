/- Contracts and plain facts that the statement's proof leans on (texts joined). No condition beyond those that each names. -/
import Derived.Test.YtjijijjkkhpjnaaGreatDoorQgG
import Derived.Test.YtjijijjkkhpjnaaGreatDoorQgJ
section
namespace Go.Proofs.YtjijijjkkhpjnaaGreatDoor
open Go.RowKit Pl Ad
attribute [local go_sem] ba_get ba_append ba_extract conv_one
set_option maxRecDepth 100000
set_option maxHeartbeats 4000000
set_option linter.unusedVariables false
set_option linter.unusedSimpArgs false
namespace Hy
open A1 Kr
theorem agF_succ {h : HisM} {f x : FetM} {k : Nat} (hx : h.fets[k]? = some x) : agF h f (k + 1) = if sameF f x then !dropB h.dros f x else agF h f k := by
  rw [agF]; simp only [hx]
theorem again_any (ps : List PubM) (gs : List PrgM) (ss : List SrvM) (fs : List FetM) (ds : List DroM) (va vb vc vd ve : Value) (bound fin : Int) (i : Nat) (w : World) (hf : RowsV fetR 6 w vd fs) (hd : RowsV droR 3 w ve ds) (hfl : fs.length ≤ 1000000) (hdl : ds.length ≤ 1000000) (hi : i < fs.length) :
    Calls Tryz.prog 60 #[.agg #[va, vb, vc, vd, ve, .int .i64 bound, .int .i64 fin], .int .i64 (i : Int)] w fun e w' => e = .returned (.bool (againB ⟨ps, gs, ss, fs, ds, bound, fin⟩ i)) ∧ Below w.heap.size w w' := by
  obtain ⟨fa, fc, rfl, _⟩ := hf.form
  obtain ⟨ga, gc, rfl, _⟩ := hd.form
  obtain ⟨h, hh⟩ : ∃ h : HisM, (⟨ps, gs, ss, fs, ds, bound, fin⟩ : HisM) = h := ⟨_, rfl⟩
  rw [hh]
  obtain ⟨f, hfi⟩ : ∃ f, fs[i]? = some f := ⟨_, List.getElem?_eq_getElem hi⟩
  have HAG : Hid (againB h i = (!f.failed && agF h f i)) := Lib.hid (by rw [← hh]; unfold againB; simp only [hfi])
  have HSU : Hid (∀ (k : Nat) (x : FetM), fs[k]? = some x → agF h f (k + 1) = if sameF f x then !dropB ds f x else agF h f k) := Lib.hid (fun k x hx => by rw [← hh]; exact agF_succ hx)
  have HZ : Hid (agF h f 0 = false) := Lib.hid rfl
  have HF := Lib.hid hf
  have HD := Lib.hid hd
  have HDL := Lib.hid hdl
  obtain ⟨b3, o3, rfl, _, hbz, hfrow⟩ := row_at hf hfi
  have HB0 := Lib.hid ((Below.refl w.heap.size w).alloc (Nat.le_refl _) (.cells #[va, vb, vc, .slice (some ⟨b3, o3, none⟩) fs.length fc, .slice ga ds.length gc, .int .i64 bound, .int .i64 fin] 69))
  have HXH := Lib.hid (Bx.new w 69 #[va, vb, vc, .slice (some ⟨b3, o3, none⟩) fs.length fc, .slice ga ds.length gc, .int .i64 bound, .int .i64 fin])
  obtain ⟨fn, fk, ft, faa, fp, ff⟩ := f
  have d0 := hfrow 0 _ rfl
  have d1 := hfrow 1 _ rfl
  have d2 := hfrow 2 _ rfl
  have d3 := hfrow 3 _ rfl
  have d4 := hfrow 4 _ rfl
  have d5 := hfrow 5 _ rfl
  rw [Nat.add_zero] at d0
  have hib : i < 1000000 := by omega
  clear hf hd hh hfi hfrow hdl
  cases ff with
  | true =>
    have HE := Lib.hid (show againB h i = false by rw [HAG.out]; rfl)
    have HB4 := Lib.hid (HB0.out.alloc HB0.out.size (.cells #[.string ⟨fn.toArray⟩, .string ⟨fk.toArray⟩, .string ⟨ft.toArray⟩, .int .i64 faa, .int .i64 fp, .bool true] 102))
    go_enter Tryz.func60, Tryz.ntmps60
    go_wp2_with fail
    rw [HE.out]
    go_ret
    exact ⟨rfl, HB4.out⟩
  | false =>
    have HE := Lib.hid (show againB h i = agF h ⟨fn, fk, ft, faa, fp, false⟩ i by rw [HAG.out]; rfl)
    have HB4 := Lib.hid (HB0.out.alloc HB0.out.size (.cells #[.string ⟨fn.toArray⟩, .string ⟨fk.toArray⟩, .string ⟨ft.toArray⟩, .int .i64 faa, .int .i64 fp, .bool false] 102))
    have HXH4 := Lib.hid (HXH.out.older ((Below.refl _ _).alloc (Nat.le_refl _) (.cells #[.string ⟨fn.toArray⟩, .string ⟨fk.toArray⟩, .string ⟨ft.toArray⟩, .int .i64 faa, .int .i64 fp, .bool false] 102)))
    have HXF4 := Lib.hid (show Bx ((w.alloc (.cells #[va, vb, vc, .slice (some ⟨b3, o3, none⟩) fs.length fc, .slice ga ds.length gc, .int .i64 bound, .int .i64 fin] 69)).alloc (.cells #[.string ⟨fn.toArray⟩, .string ⟨fk.toArray⟩, .string ⟨ft.toArray⟩, .int .i64 faa, .int .i64 fp, .bool false] 102)) (w.heap.size + 1) 102 #[.string ⟨fn.toArray⟩, .string ⟨fk.toArray⟩, .string ⟨ft.toArray⟩, .int .i64 faa, .int .i64 fp, .bool false] by have := Bx.new (w.alloc (.cells #[va, vb, vc, .slice (some ⟨b3, o3, none⟩) fs.length fc, .slice ga ds.length gc, .int .i64 bound, .int .i64 fin] 69)) 102 #[.string ⟨fn.toArray⟩, .string ⟨fk.toArray⟩, .string ⟨ft.toArray⟩, .int .i64 faa, .int .i64 fp, .bool false]; simpa using this)
    go_enter Tryz.func60, Tryz.ntmps60
    go_wp2_with fail
    obtain ⟨w1, hw1⟩ : ∃ z, (w.alloc (.cells #[va, vb, vc, .slice (some ⟨b3, o3, none⟩) fs.length fc, .slice ga ds.length gc, .int .i64 bound, .int .i64 fin] 69)).alloc (.cells #[.string ⟨fn.toArray⟩, .string ⟨fk.toArray⟩, .string ⟨ft.toArray⟩, .int .i64 faa, .int .i64 fp, .bool false] 102) = z := ⟨_, rfl⟩
    obtain ⟨b0, hb0⟩ : ∃ z, w.heap.size = z := ⟨_, rfl⟩
    obtain ⟨b1, hb1⟩ : ∃ z, w.heap.size + 1 = z := ⟨_, rfl⟩
    rw [hw1] at HB4 HXH4 HXF4 ⊢
    rw [hb1] at HXF4 ⊢
    rw [hb0] at HXH4 ⊢
    clear hw1 hb1 hb0 HB0 HXH HAG d0 d1 d2 d3 d4 d5 hbz
    go_loopg [6] i (fun gq iv wr => ∃ k : Nat, iv = .int .i64 ((k : Int) - 1) ∧ k ≤ i ∧ Hid (k ≤ gq) ∧ Hid (againB h i = agF h ⟨fn, fk, ft, faa, fp, false⟩ k) ∧ Hid (Below w1.heap.size w1 wr))
    case atStart => exact ⟨i, by go_num, Nat.le_refl _, Lib.hid (Nat.le_refl _), Lib.hid HE.out, Lib.hid (Below.refl _ _)⟩
    case round =>
      obtain ⟨k, rfl, hk, HQ, HA, HBW⟩ := hrel
      have h3 := (HXH4.out.older HBW.out).cell (i := 3) rfl
      have h4 := (HXH4.out.older HBW.out).cell (i := 4) rfl
      have f0 := (HXF4.out.older HBW.out).cell (i := 0) rfl
      have f1 := (HXF4.out.older HBW.out).cell (i := 1) rfl
      have f2 := (HXF4.out.older HBW.out).cell (i := 2) rfl
      have f3 := (HXF4.out.older HBW.out).cell (i := 3) rfl
      have f4 := (HXF4.out.older HBW.out).cell (i := 4) rfl
      have hz3 := (HXH4.out.older HBW.out).lt
      have hz4 := (HXF4.out.older HBW.out).lt
      by_cases hk0 : k = 0
      · subst hk0
        have HR := Lib.hid (HA.out.trans HZ.out)
        clear hk
        go_wp2_with fail
        rw [HR.out]
        go_ret
        exact ⟨rfl, HB4.out.trans (HBW.out.mono HB4.out.size)⟩
      · obtain ⟨k, rfl⟩ : ∃ j, k = j + 1 := ⟨k - 1, by omega⟩
        have e1 : (((k + 1 : Nat)) : Int) - 1 = (k : Int) := by omega
        rw [e1]
        have HLT := Lib.hid hk
        have hkf : k < fs.length := by omega
        have hw : IntKind.i64.wrap ((k : Int) - 1) = (k : Int) - 1 := IntWalk.i64_in _ (by omega)
        have hkn : ¬ ((k : Int) < 0) := by omega
        obtain ⟨x, hxk⟩ : ∃ x, fs[k]? = some x := ⟨_, List.getElem?_eq_getElem hkf⟩
        have HSTEP := Lib.hid (HSU.out k x hxk)
        obtain ⟨b5, o5, e5, _, _, hxrow⟩ := row_at HF.out hxk
        cases e5
        have hbw := HB4.out.trans (HBW.out.mono HB4.out.size)
        obtain ⟨xn, xk, xt, xa, xp, xf⟩ := x
        have d0 := keepH hbw (hxrow 0 _ rfl)
        have d1 := keepH hbw (hxrow 1 _ rfl)
        have d2 := keepH hbw (hxrow 2 _ rfl)
        have d3 := keepH hbw (hxrow 3 _ rfl)
        have d4 := keepH hbw (hxrow 4 _ rfl)
        have d5 := keepH hbw (hxrow 5 _ rfl)
        rw [Nat.add_zero] at d0
        have hb5 : b3 < wr.heap.size := World.block_lt_of_cell? wr _ d0
        have HB3 := Lib.hid (HBW.out.alloc HBW.out.size (.cells #[.string ⟨xn.toArray⟩, .string ⟨xk.toArray⟩, .string ⟨xt.toArray⟩, .int .i64 xa, .int .i64 xp, .bool xf] 102))
        clear hxrow hxk hbw
        cases xf with
        | true =>
          go_wp2_with fail
          go_roundg (gk - 1)
          case rel => exact ⟨k, by go_num, by have := HLT.out; omega, Lib.hid (by have := HQ.out; omega), Lib.hid (by rw [HA.out, HSTEP.out, if_neg (by unfold sameF; simp only; simp)]), Lib.hid HB3.out⟩
          case measure => have := HQ.out; omega
        | false =>
          cases n1 : (xn == fn) with
          | false =>
            go_wp2_with fail
            go_roundg (gk - 1)
            case rel => exact ⟨k, by go_num, by have := HLT.out; omega, Lib.hid (by have := HQ.out; omega), Lib.hid (by rw [HA.out, HSTEP.out, if_neg (by unfold sameF; simp only; rw [n1]; simp)]), Lib.hid HB3.out⟩
            case measure => have := HQ.out; omega
          | true =>
            cases n2 : (xk == fk) with
            | false =>
              go_wp2_with fail
              go_roundg (gk - 1)
              case rel => exact ⟨k, by go_num, by have := HLT.out; omega, Lib.hid (by have := HQ.out; omega), Lib.hid (by rw [HA.out, HSTEP.out, if_neg (by unfold sameF; simp only; rw [n2]; simp)]), Lib.hid HB3.out⟩
              case measure => have := HQ.out; omega
            | true =>
              cases n3 : (xt == ft) with
              | false =>
                go_wp2_with fail
                go_roundg (gk - 1)
                case rel => exact ⟨k, by go_num, by have := HLT.out; omega, Lib.hid (by have := HQ.out; omega), Lib.hid (by rw [HA.out, HSTEP.out, if_neg (by unfold sameF; simp only; rw [n3]; simp)]), Lib.hid HB3.out⟩
                case measure => have := HQ.out; omega
              | true =>
                by_cases n4 : xp = fp
                · have m1 : (xp == fp) = true := beq_iff_eq.2 n4
                  have m2 : (xp != fp) = false := by rw [bne, m1]; rfl
                  have HS4 := Lib.hid (show sameF ⟨fn, fk, ft, faa, fp, false⟩ ⟨xn, xk, xt, xa, xp, false⟩ = true by unfold sameF; simp only; rw [n1, n2, n3, decide_eq_true n4]; rfl)
                  have HR := Lib.hid (show againB h i = !dropB ds ⟨fn, fk, ft, faa, fp, false⟩ ⟨xn, xk, xt, xa, xp, false⟩ by rw [HA.out, HSTEP.out, if_pos HS4.out])
                  clear n4 hk
                  have HXX := Lib.hid (Bx.new wr 102 #[.string ⟨xn.toArray⟩, .string ⟨xk.toArray⟩, .string ⟨xt.toArray⟩, .int .i64 xa, .int .i64 xp, .bool false])
                  have HXF5 := Lib.hid ((HXF4.out.older HBW.out).older ((Below.refl _ _).alloc (Nat.le_refl _) (.cells #[.string ⟨xn.toArray⟩, .string ⟨xk.toArray⟩, .string ⟨xt.toArray⟩, .int .i64 xa, .int .i64 xp, .bool false] 102)))
                  go_wp2_with fail
                  obtain ⟨w3, hw3⟩ : ∃ z, wr.alloc (.cells #[.string ⟨xn.toArray⟩, .string ⟨xk.toArray⟩, .string ⟨xt.toArray⟩, .int .i64 xa, .int .i64 xp, .bool false] 102) = z := ⟨_, rfl⟩
                  obtain ⟨bx, hbx⟩ : ∃ z, wr.heap.size = z := ⟨_, rfl⟩
                  rw [hw3] at HB3 HXX HXF5 ⊢
                  rw [hbx] at HXX ⊢
                  clear hw3 hbx d0 d1 d2 d3 d4 d5 hb5 h3 h4 f0 f1 f2 f3 f4 hz3 hz4 n1 n2 n3 m1 m2 hw
                  have HBB := Lib.hid (HB4.out.trans (HB3.out.mono HB4.out.size))
                  go_loopg [61] ds.length (fun gq jv wq => ∃ j : Nat, jv = .int .i64 j ∧ j ≤ ds.length ∧ Hid (ds.length ≤ gq + j) ∧ Hid (dropB ds ⟨fn, fk, ft, faa, fp, false⟩ ⟨xn, xk, xt, xa, xp, false⟩ = dropB (ds.drop j) ⟨fn, fk, ft, faa, fp, false⟩ ⟨xn, xk, xt, xa, xp, false⟩) ∧ Hid (Below w3.heap.size w3 wq))
                  case atStart => exact ⟨0, rfl, Nat.zero_le _, Lib.hid (by omega), Lib.hid rfl, Lib.hid (Below.refl _ _)⟩
                  case round =>
                    obtain ⟨j, rfl, hj, HQ2, HDB, HBV⟩ := hrel
                    by_cases hjl : j < ds.length
                    · have HJL := Lib.hid hjl
                      have hjb : j < 1000000 := by have := HDL.out; omega
                      obtain ⟨d, hdj⟩ : ∃ d, ds[j]? = some d := ⟨_, List.getElem?_eq_getElem hjl⟩
                      obtain ⟨b7, o7, rfl, _, _, hdrow⟩ := row_at HD.out hdj
                      have hdr : ds.drop j = d :: ds.drop (j + 1) := by
                        obtain ⟨hq9, e9⟩ := List.getElem?_eq_some_iff.1 hdj
                        rw [List.drop_eq_getElem_cons hq9, e9]
                      obtain ⟨dn, dk, da⟩ := d
                      have HDS := Lib.hid (show dropB ds ⟨fn, fk, ft, faa, fp, false⟩ ⟨xn, xk, xt, xa, xp, false⟩ = ((dn == fn && dk == fk && decide (xa ≤ da) && decide (da ≤ faa)) || dropB (ds.drop (j + 1)) ⟨fn, fk, ft, faa, fp, false⟩ ⟨xn, xk, xt, xa, xp, false⟩) by rw [HDB.out, hdr]; rfl)
                      have hbv := HBB.out.trans (HBV.out.mono HBB.out.size)
                      have g0 := keepH hbv (hdrow 0 _ rfl)
                      have g1 := keepH hbv (hdrow 1 _ rfl)
                      have g2 := keepH hbv (hdrow 2 _ rfl)
                      rw [Nat.add_zero] at g0
                      have hb7 := World.block_lt_of_cell? _ _ g0
                      simp only at hb7
                      have f0 := (HXF5.out.older HBV.out).cell (i := 0) rfl
                      have f1 := (HXF5.out.older HBV.out).cell (i := 1) rfl
                      have f3 := (HXF5.out.older HBV.out).cell (i := 3) rfl
                      have x3 := (HXX.out.older HBV.out).cell (i := 3) rfl
                      have hzf := (HXF5.out.older HBV.out).lt
                      have hzx := (HXX.out.older HBV.out).lt
                      have HB8 := Lib.hid (HBV.out.alloc HBV.out.size (.cells #[.string ⟨dn.toArray⟩, .string ⟨dk.toArray⟩, .int .i64 da] 104))
                      clear hdrow hdr hdj hbv hj
                      cases q1 : (dn == fn) with
                      | false =>
                        go_wp2_with fail
                        go_roundg (gk - 1)
                        case rel => exact ⟨j + 1, by go_num, by have := HJL.out; omega, Lib.hid (by have := HQ2.out; omega), Lib.hid (by rw [HDS.out, q1]; simp), Lib.hid HB8.out⟩
                        case measure => have := HQ2.out; have := HJL.out; omega
                      | true =>
                        cases q2 : (dk == fk) with
                        | false =>
                          go_wp2_with fail
                          go_roundg (gk - 1)
                          case rel => exact ⟨j + 1, by go_num, by have := HJL.out; omega, Lib.hid (by have := HQ2.out; omega), Lib.hid (by rw [HDS.out, q2]; simp), Lib.hid HB8.out⟩
                          case measure => have := HQ2.out; have := HJL.out; omega
                        | true =>
                          by_cases q3 : xa ≤ da
                          · by_cases q4 : da ≤ faa
                            · have HY := Lib.hid (show againB h i = false by rw [HR.out, HDS.out, q1, q2, decide_eq_true q3, decide_eq_true q4]; rfl)
                              go_wp2_with fail
                              rw [HY.out]
                              go_ret
                              exact ⟨rfl, HBB.out.trans (HB8.out.mono HBB.out.size)⟩
                            · have q4f : decide (da ≤ faa) = false := decide_eq_false q4
                              clear q4
                              go_wp2_with fail
                              go_roundg (gk - 1)
                              case rel => exact ⟨j + 1, by go_num, by have := HJL.out; omega, Lib.hid (by have := HQ2.out; omega), Lib.hid (by rw [HDS.out, q4f]; simp), Lib.hid HB8.out⟩
                              case measure => have := HQ2.out; have := HJL.out; omega
                          · have q3f : decide (xa ≤ da) = false := decide_eq_false q3
                            clear q3
                            go_wp2_with fail
                            go_roundg (gk - 1)
                            case rel => exact ⟨j + 1, by go_num, by have := HJL.out; omega, Lib.hid (by have := HQ2.out; omega), Lib.hid (by rw [HDS.out, q3f]; simp), Lib.hid HB8.out⟩
                            case measure => have := HQ2.out; have := HJL.out; omega
                    · have HY := Lib.hid (show againB h i = true by rw [HR.out, HDB.out, List.drop_eq_nil_of_le (by omega)]; rfl)
                      go_wp2_with fail
                      rw [HY.out]
                      go_ret
                      exact ⟨rfl, HBB.out.trans (HBV.out.mono HBB.out.size)⟩
                · have m1 : (xp == fp) = false := beq_eq_false_iff_ne.2 n4
                  have m2 : (xp != fp) = true := by rw [bne, m1]; rfl
                  have HN4 := Lib.hid (decide_eq_false n4)
                  clear n4
                  go_wp2_with fail
                  go_roundg (gk - 1)
                  case rel => exact ⟨k, by go_num, by have := HLT.out; omega, Lib.hid (by have := HQ.out; omega), Lib.hid (by rw [HA.out, HSTEP.out, if_neg (by unfold sameF; simp only; rw [HN4.out]; simp)]), Lib.hid HB3.out⟩
                  case measure => have := HQ.out; omega
end Hy
end Go.Proofs.YtjijijjkkhpjnaaGreatDoor
end

section
namespace Go.Proofs.YtjijijjkkhpjnaaGreatDoor
open Go.RowKit Pl Ad
attribute [local go_sem] ba_get ba_append ba_extract conv_one
set_option maxRecDepth 100000
set_option maxHeartbeats 4000000
set_option linter.unusedVariables false
set_option linter.unusedSimpArgs false
namespace Hy
open A1 Kr
/-- Is a response handed over after a purge? -/
def badG (h : HisM) (s : SrvM) (g : PrgM) : Bool := decide (0 ≤ g.stl) && lateP g s && hitB g s && !fineB h s g
theorem purgedB_eq (h : HisM) (s : SrvM) : purgedB h s = (!(versM h.pubs s.addr s.tag).isEmpty && h.prgs.any (badG h s)) := rfl
theorem purged_none {h : HisM} {s : SrvM} (hv : versM h.pubs s.addr s.tag = []) : purgedB h s = false := by rw [purgedB_eq, hv]; rfl
theorem purged_yes {h : HisM} {s : SrvM} {g : PrgM} {k : Nat} (hv : 0 < (versM h.pubs s.addr s.tag).length) (hg : h.prgs[k]? = some g) (hb : badG h s g = true) : purgedB h s = true := by
  rw [purgedB_eq, Bool.and_eq_true]
  refine ⟨?_, List.any_eq_true.2 ⟨g, List.mem_of_getElem? hg, hb⟩⟩
  cases hx : versM h.pubs s.addr s.tag with
  | nil => rw [hx] at hv; simp at hv
  | cons a l => rfl
theorem purged_no {h : HisM} {s : SrvM} (ha : ∀ (j : Nat) g, h.prgs[j]? = some g → badG h s g = false) : purgedB h s = false := by
  have h1 : h.prgs.any (badG h s) = false := by
    rw [Bool.eq_false_iff]
    intro h2
    obtain ⟨g, hg, hb⟩ := List.any_eq_true.1 h2
    obtain ⟨j, hj, rfl⟩ := List.getElem_of_mem hg
    rw [ha j _ (List.getElem?_eq_getElem hj)] at hb; cases hb
  rw [purgedB_eq, h1, Bool.and_false]
theorem parseO_len {s : Bs} {p : Pg} (h : parseO s = some p) : p.value.length ≤ s.length := by
  have h1 := parseO_is s
  rw [h] at h1
  have h2 := congrArg List.length h1.2
  unfold fmtT at h2
  simp at h2
  omega
theorem parV_some (p : Pg) : parV (some p) = .tuple #[.agg #[.int .i64 p.kind, .int .i64 p.tenant, .string ⟨p.value.toArray⟩], .nilIface] := rfl
theorem parV_none : parV none = .tuple #[.agg #[.int .i64 0, .int .i64 0, .string ⟨#[]⟩], .iface 108 (.int .i64 2)] := rfl
theorem purged_any (ps : List PubM) (gs : List PrgM) (ss : List SrvM) (fs : List FetM) (ds : List DroM) (va vb vc vd ve : Value) (bound fin : Int) (allv : Value) (edge sadr stag : Bs) (ten ask at_ frm til : Int) (ta : Option Addr) (tn tc : Nat) (qa : Option Addr) (qn qc : Nat) (ended : Bool) (tags : List Bs) (parts : List PartM) (B : Nat) (w : World) (hr : Ready w) (hpw : ParseAt w) (hp : RowsV pubR 5 w va ps) (hn : ps.length ≤ 1000000) (hpa : ∀ p ∈ ps, PubAt w B p) (hall : RowsV spanR 3 w allv (spansM ps)) (hgs : RowsV prgR 3 w vb gs) (hgn : gs.length ≤ 1000000) (hga : ∀ g ∈ gs, PrgAt w B g) (htg : StrsV w (.slice ta tn tc) tags) (htl : tags.length ≤ B) (hsa : sadr.length ≤ B) (hq : RowsV partR 3 w (.slice qa qn qc) parts) (hql : parts.length ≤ B) (hpt : ∀ x ∈ parts, PartAt w B x) (hB : B ≤ 134217728) :
    Calls Tryz.prog 56 #[.agg #[va, vb, vc, vd, ve, .int .i64 bound, .int .i64 fin], allv, .agg #[.string ⟨edge.toArray⟩, .string ⟨sadr.toArray⟩, .string ⟨stag.toArray⟩, .int .i64 ten, .int .i64 ask, .int .i64 at_, .int .i64 frm, .int .i64 til, .slice ta tn tc, .slice qa qn qc, .bool ended]] w fun e w' => e = .returned (.bool (purgedB ⟨ps, gs, ss, fs, ds, bound, fin⟩ ⟨edge, sadr, stag, ten, ask, at_, frm, til, .slice ta tn tc, tags, .slice qa qn qc, parts, ended⟩)) ∧ Below w.heap.size w w' := by
  obtain ⟨pa, pc, rfl, _⟩ := hp.form
  obtain ⟨xa, xc, rfl, _⟩ := hall.form
  obtain ⟨ga, gc, rfl, _⟩ := hgs.form
  rw [spansM_len] at hall ⊢
  have htn : tn = tags.length := by
    obtain ⟨a, c, e⟩ := htg.form
    exact (Value.slice.inj e).2.1
  have hqn : qn = parts.length := by
    obtain ⟨a, c, e, _⟩ := hq.form
    exact (Value.slice.inj e).2.1
  subst htn hqn
  obtain ⟨h, hh⟩ : ∃ h : HisM, (⟨ps, gs, ss, fs, ds, bound, fin⟩ : HisM) = h := ⟨_, rfl⟩
  obtain ⟨s, hs⟩ : ∃ s : SrvM, (⟨edge, sadr, stag, ten, ask, at_, frm, til, .slice ta tags.length tc, tags, .slice qa parts.length qc, parts, ended⟩ : SrvM) = s := ⟨_, rfl⟩
  rw [hh, hs]
  have HV0 : Hid (versM h.pubs s.addr s.tag = versM ps sadr stag) := Lib.hid (by rw [← hh, ← hs])
  have HG0 : Hid (h.prgs = gs) := Lib.hid (by rw [← hh])
  have HNONE := Lib.hid (fun (hv : versM ps sadr stag = []) => purged_none (h := h) (s := s) (by rw [HV0.out]; exact hv))
  have HYES := Lib.hid (fun (k : Nat) (g : PrgM) (hv : 0 < (versM ps sadr stag).length) (hg : gs[k]? = some g) hb => purged_yes (h := h) (s := s) (by rw [HV0.out]; exact hv) (by rw [HG0.out]; exact hg) hb)
  have HEND := Lib.hid (fun (ha : ∀ (j : Nat) g, gs[j]? = some g → badG h s g = false) => purged_no (h := h) (s := s) (by rw [HG0.out]; exact ha))
  have HLP : Hid (∀ g, lateP g s = parts.any fun x => decide (g.stl < x.at_)) := Lib.hid (fun g => by rw [← hs]; rfl)
  have HHI : Hid (∀ g, hitB g s = match parseO g.text with | none => false | some p => matchB p ⟨ten, sadr, tags⟩) := Lib.hid (fun g => by rw [← hs]; rfl)
  have HFB : Hid (∀ g, fineB h s g = (versM ps sadr stag).any fun i => afterM (spanI ps i) g.ord) := Lib.hid (fun g => by rw [← hs, ← hh]; rfl)
  have HB0 := Lib.hid (((Below.refl w.heap.size w).alloc (Nat.le_refl _) (.cells #[.slice pa ps.length pc, .slice ga gs.length gc, vc, vd, ve, .int .i64 bound, .int .i64 fin] 69)).alloc (by simp) (.cells #[.string ⟨edge.toArray⟩, .string ⟨sadr.toArray⟩, .string ⟨stag.toArray⟩, .int .i64 ten, .int .i64 ask, .int .i64 at_, .int .i64 frm, .int .i64 til, .slice ta tags.length tc, .slice qa parts.length qc, .bool ended] 82))
  have HXH := Lib.hid ((Bx.new w 69 #[.slice pa ps.length pc, .slice ga gs.length gc, vc, vd, ve, .int .i64 bound, .int .i64 fin]).older ((Below.refl _ _).alloc (Nat.le_refl _) (.cells #[.string ⟨edge.toArray⟩, .string ⟨sadr.toArray⟩, .string ⟨stag.toArray⟩, .int .i64 ten, .int .i64 ask, .int .i64 at_, .int .i64 frm, .int .i64 til, .slice ta tags.length tc, .slice qa parts.length qc, .bool ended] 82)))
  have HXS := Lib.hid (show Bx ((w.alloc (.cells #[.slice pa ps.length pc, .slice ga gs.length gc, vc, vd, ve, .int .i64 bound, .int .i64 fin] 69)).alloc (.cells #[.string ⟨edge.toArray⟩, .string ⟨sadr.toArray⟩, .string ⟨stag.toArray⟩, .int .i64 ten, .int .i64 ask, .int .i64 at_, .int .i64 frm, .int .i64 til, .slice ta tags.length tc, .slice qa parts.length qc, .bool ended] 82)) (w.heap.size + 1) 82 #[.string ⟨edge.toArray⟩, .string ⟨sadr.toArray⟩, .string ⟨stag.toArray⟩, .int .i64 ten, .int .i64 ask, .int .i64 at_, .int .i64 frm, .int .i64 til, .slice ta tags.length tc, .slice qa parts.length qc, .bool ended] by have := Bx.new (w.alloc (.cells #[.slice pa ps.length pc, .slice ga gs.length gc, vc, vd, ve, .int .i64 bound, .int .i64 fin] 69)) 82 #[.string ⟨edge.toArray⟩, .string ⟨sadr.toArray⟩, .string ⟨stag.toArray⟩, .int .i64 ten, .int .i64 ask, .int .i64 at_, .int .i64 frm, .int .i64 til, .slice ta tags.length tc, .slice qa parts.length qc, .bool ended]; simpa using this)
  have HP := Lib.hid hp
  have HPA := Lib.hid hpa
  have HN := Lib.hid hn
  have HAL := Lib.hid hall
  have HGS := Lib.hid hgs
  have HGN := Lib.hid hgn
  have HGA := Lib.hid hga
  have HTG := Lib.hid htg
  have HTL := Lib.hid htl
  have HSA := Lib.hid hsa
  have HQ0 := Lib.hid hq
  have HQL := Lib.hid hql
  have HPT := Lib.hid hpt
  have HBB := Lib.hid hB
  have HRY := Lib.hid hr
  have HPW := Lib.hid hpw
  clear hr hpw hp hn hpa hall hgs hgn hga htg htl hsa hq hql hpt hB hh hs HV0 HG0
  go_enter Tryz.func56, Tryz.ntmps56
  go_wp2_with fail
  obtain ⟨w1, hw1⟩ : ∃ z, (w.alloc (.cells #[.slice pa ps.length pc, .slice ga gs.length gc, vc, vd, ve, .int .i64 bound, .int .i64 fin] 69)).alloc (.cells #[.string ⟨edge.toArray⟩, .string ⟨sadr.toArray⟩, .string ⟨stag.toArray⟩, .int .i64 ten, .int .i64 ask, .int .i64 at_, .int .i64 frm, .int .i64 til, .slice ta tags.length tc, .slice qa parts.length qc, .bool ended] 82) = z := ⟨_, rfl⟩
  obtain ⟨b0, hb0⟩ : ∃ z, w.heap.size = z := ⟨_, rfl⟩
  obtain ⟨b1, hb1⟩ : ∃ z, w.heap.size + 1 = z := ⟨_, rfl⟩
  rw [hw1] at HB0 HXH HXS ⊢
  rw [hb1] at HXS ⊢
  rw [hb0] at HXH ⊢
  have HB1 : Hid (Below w.heap.size w w1) := HB0
  clear hw1 HB0 hb1 hb0
  refine (versions_any ps (.slice pa ps.length pc) (.slice ga gs.length gc) vc vd ve bound fin sadr stag B _ (HP.out.below HB1.out) HN.out (fun p hp => by have := HPA.out p hp; exact ⟨this.1, this.2.1, this.2.2.1.older HB1.out, this.2.2.2.1, this.2.2.2.2.below HB1.out⟩)).mono ?_
  rintro e w2 ⟨oa, oc, rfl, ho2, hb2⟩
  obtain ⟨vs, hvs⟩ : ∃ vs, versM ps sadr stag = vs := ⟨_, rfl⟩
  rw [hvs] at HNONE HYES HFB ho2 ⊢
  have HMEM := Lib.hid (fun (i : Nat) (hi : i ∈ vs) => versM_mem.1 (hvs ▸ hi))
  have HB2 := Lib.hid (HB1.out.trans (hb2.mono HB1.out.size))
  have HXH2 := Lib.hid (HXH.out.older hb2)
  have HXS2 := Lib.hid (HXS.out.older hb2)
  have HO2 := Lib.hid ho2
  have hvl : vs.length ≤ 1000000 := by rw [← hvs]; exact Nat.le_trans (versM_len _ _ _) HN.out
  clear ho2 hb2 HXH HXS HB1 hvs
  by_cases hv0 : vs.length = 0
  · have hvn : vs = [] := List.eq_nil_of_length_eq_zero hv0
    have HE := Lib.hid (HNONE.out hvn)
    clear hvn
    go_wp2_with fail
    rw [HE.out]
    go_ret
    exact ⟨rfl, HB2.out⟩
  have hvp : 0 < vs.length := by omega
  have HVP := Lib.hid hvp
  have hv1 : ((vs.length : Int) == 0) = false := beq_eq_false_iff_ne.2 (by omega)
  have hv2 : (vs.length == 0) = false := beq_eq_false_iff_ne.2 (by omega)
  have s1 := HXS2.out.cell (i := 1) rfl
  have s3 := HXS2.out.cell (i := 3) rfl
  have s8 := HXS2.out.cell (i := 8) rfl
  have h1 := HXH2.out.cell (i := 1) rfl
  have hz1 := HXS2.out.lt
  have hz0 := HXH2.out.lt
  have HB3 := Lib.hid (HB2.out.alloc HB2.out.size (.cells #[.int .i64 ten, .string ⟨sadr.toArray⟩, .slice ta tags.length tc] 46))
  have HXH3 := Lib.hid (HXH2.out.older ((Below.refl _ _).alloc (Nat.le_refl _) (.cells #[.int .i64 ten, .string ⟨sadr.toArray⟩, .slice ta tags.length tc] 46)))
  have HXS3 := Lib.hid (HXS2.out.older ((Below.refl _ _).alloc (Nat.le_refl _) (.cells #[.int .i64 ten, .string ⟨sadr.toArray⟩, .slice ta tags.length tc] 46)))
  have HO3 := Lib.hid (HO2.out.older ((Below.refl _ _).alloc (Nat.le_refl _) (.cells #[.int .i64 ten, .string ⟨sadr.toArray⟩, .slice ta tags.length tc] 46)))
  have HXI3 := Lib.hid (Bx.new w2 46 #[.int .i64 ten, .string ⟨sadr.toArray⟩, .slice ta tags.length tc])
  go_wp2_with fail
  obtain ⟨w3, hw3⟩ : ∃ z, w2.alloc (.cells #[.int .i64 ten, .string ⟨sadr.toArray⟩, .slice ta tags.length tc] 46) = z := ⟨_, rfl⟩
  obtain ⟨bi, hbi⟩ : ∃ z, w2.heap.size = z := ⟨_, rfl⟩
  rw [hw3] at HB3 HXH3 HXS3 HO3 HXI3 ⊢
  rw [hbi] at HXI3 ⊢
  clear hw3 hbi s1 s3 s8 h1 hz1 hz0 HXH2 HXS2 HO2 hv0 hv1 hv2
  go_loopg [38, 11, 16] gs.length (fun gq iv l11 l16 wr => ∃ k : Nat, iv = .int .i64 k ∧ k ≤ gs.length ∧ Hid (gs.length ≤ gq + k) ∧ Hid (∀ (j : Nat) (g : PrgM), j < k → gs[j]? = some g → badG h s g = false) ∧ Hid (Below w3.heap.size w3 wr))
  case atStart => exact ⟨0, rfl, Nat.zero_le _, Lib.hid (by omega), Lib.hid (fun j g hj => by omega), Lib.hid (Below.refl _ _)⟩
  case round =>
    obtain ⟨k, rfl, hk, HQ, HNV, HBW⟩ := hrel
    obtain ⟨NQ, hNQ⟩ : ∃ z, gk = z := ⟨_, rfl⟩
    have HNQ := Lib.hid hNQ
    clear hNQ
    by_cases hlt : k < gs.length
    · have HLT := Lib.hid hlt
      have hkb : k < 1000000 := by have := HGN.out; omega
      obtain ⟨g, hgk⟩ : ∃ g, gs[k]? = some g := ⟨_, List.getElem?_eq_getElem hlt⟩
      have HGK := Lib.hid hgk
      have HGL := Lib.hid (HGA.out g (List.mem_of_getElem? hgk))
      obtain ⟨b4, o4, rfl, _, _, hgrow⟩ := row_at HGS.out hgk
      have HBD : Hid (badG h s g = (decide (0 ≤ g.stl) && (parts.any fun x => decide (g.stl < x.at_)) && hitB g s && !((vs.any fun i => afterM (spanI ps i) g.ord)))) := Lib.hid (by unfold badG; rw [HLP.out, HFB.out])
      have HHG := Lib.hid (HHI.out g)
      obtain ⟨gt, go, gs_⟩ := g
      simp only at HBD HHG HGL
      have hbw := HB3.out.trans (HBW.out.mono HB3.out.size)
      have d0 := keepH hbw (hgrow 0 _ rfl)
      have d1 := keepH hbw (hgrow 1 _ rfl)
      have d2 := keepH hbw (hgrow 2 _ rfl)
      rw [Nat.add_zero] at d0
      have hb4 := World.block_lt_of_cell? _ _ d0
      simp only at hb4
      have HB5 := Lib.hid (HBW.out.alloc HBW.out.size (.cells #[.string ⟨gt.toArray⟩, .int .i64 go, .int .i64 gs_] 97))
      have HXG5 := Lib.hid (Bx.new wr 97 #[.string ⟨gt.toArray⟩, .int .i64 go, .int .i64 gs_])
      have s9 := (HXS3.out.older HBW.out).cell (i := 9) rfl
      have hz1 := (HXS3.out.older HBW.out).lt
      clear hgrow hgk hbw
      by_cases hst : gs_ < 0
      · have HF := Lib.hid (show badG h s ⟨gt, go, gs_⟩ = false by rw [HBD.out, decide_eq_false (show ¬ 0 ≤ gs_ by omega)]; rfl)
        go_wp2_with fail
        go_roundg (NQ - 1)
        case rel => exact ⟨k + 1, by go_num, by have := HLT.out; omega, Lib.hid (by have := HQ.out; have := HNQ.out; omega), Lib.hid (fun j g hj hg => by
          rcases Nat.lt_succ_iff_lt_or_eq.1 hj with h9 | rfl
          · exact HNV.out j g h9 hg
          · rw [HGK.out] at hg; cases hg; exact HF.out), Lib.hid HB5.out⟩
        case measure => have := HQ.out; have := HNQ.out; have := HLT.out; omega
      · have hsf : decide (gs_ < 0) = false := decide_eq_false hst
        have HGE := Lib.hid (decide_eq_true (show 0 ≤ gs_ by omega))
        go_wp2_with fail
        obtain ⟨w5, hw5⟩ : ∃ z, wr.alloc (.cells #[.string ⟨gt.toArray⟩, .int .i64 go, .int .i64 gs_] 97) = z := ⟨_, rfl⟩
        obtain ⟨bg, hbg⟩ : ∃ z, wr.heap.size = z := ⟨_, rfl⟩
        rw [hw5] at HB5 HXG5 ⊢
        rw [hbg] at HXG5 ⊢
        clear hw5 hbg d0 d1 d2 hb4 s9 hz1 hst hsf
        have HBB5 := Lib.hid (HB3.out.trans (HB5.out.mono HB3.out.size))
        go_loopg [48, 11] parts.length (fun gq jv lv wq => ∃ (j : Nat) (l : Bool), jv = .int .i64 j ∧ lv = .bool l ∧ j ≤ parts.length ∧ Hid (parts.length ≤ gq + j) ∧ Hid ((parts.any fun x => decide (gs_ < x.at_)) = (l || (parts.drop j).any fun x => decide (gs_ < x.at_))) ∧ Hid (Below w5.heap.size w5 wq))
        case atStart => exact ⟨0, false, rfl, rfl, Nat.zero_le _, Lib.hid (by omega), Lib.hid (by simp), Lib.hid (Below.refl _ _)⟩
        case round =>
          obtain ⟨j, l, rfl, rfl, hj, HQ2, HLA, HBV⟩ := hrel
          have hbv := HBB5.out.trans (HBV.out.mono HBB5.out.size)
          have HBB6 := Lib.hid hbv
          by_cases hjl : j < parts.length
          · have HJL := Lib.hid hjl
            have hjb : j < 134217728 := by have := HQL.out; have := HBB.out; omega
            obtain ⟨x, hxj⟩ : ∃ x, parts[j]? = some x := ⟨_, List.getElem?_eq_getElem hjl⟩
            obtain ⟨b7, o7, rfl, _, _, hxrow⟩ := row_at HQ0.out hxj
            have hxp := HPT.out x (List.mem_of_getElem? hxj)
            have hdr : parts.drop j = x :: parts.drop (j + 1) := by
              obtain ⟨hq9, e9⟩ := List.getElem?_eq_some_iff.1 hxj
              rw [List.drop_eq_getElem_cons hq9, e9]
            have HST := Lib.hid (show (parts.any fun x => decide (gs_ < x.at_)) = ((l || decide (gs_ < x.at_)) || (parts.drop (j + 1)).any fun x => decide (gs_ < x.at_)) by rw [HLA.out, hdr, List.any_cons, Bool.or_assoc])
            obtain ⟨xat, off, xdv, data⟩ := x
            obtain ⟨da, dc, hdv⟩ := Sg.src_form hxp.1
            simp only at hdv HST
            subst hdv
            have d0 := keepH hbv (hxrow 0 _ rfl)
            have d1 := keepH hbv (hxrow 1 _ rfl)
            have d2 := keepH hbv (hxrow 2 _ rfl)
            rw [Nat.add_zero] at d0
            have hb7 := World.block_lt_of_cell? _ _ d0
            simp only at hb7
            have g2 := (HXG5.out.older HBV.out).cell (i := 2) rfl
            have hzg := (HXG5.out.older HBV.out).lt
            have HB8 := Lib.hid (HBV.out.alloc HBV.out.size (.cells #[.int .i64 xat, .int .i64 off, .slice da data.length dc] 88))
            clear hxrow hxp hdr hxj hbv
            cases l with
            | true =>
              go_wp2_with fail
              go_roundg (gk - 1)
              case rel => exact ⟨j + 1, true, by go_num, rfl, by have := HJL.out; omega, Lib.hid (by have := HQ2.out; omega), Lib.hid HST.out, HB8⟩
              case measure => have := HQ2.out; have := HJL.out; omega
            | false =>
              rw [Bool.false_or] at HST
              go_wp2_with fail
              go_roundg (gk - 1)
              case rel => exact ⟨j + 1, decide (gs_ < xat), by go_num, rfl, by have := HJL.out; omega, Lib.hid (by have := HQ2.out; omega), Lib.hid HST.out, HB8⟩
              case measure => have := HQ2.out; have := HJL.out; omega
          · have HL2 := Lib.hid (show (parts.any fun x => decide (gs_ < x.at_)) = l by rw [HLA.out, List.drop_eq_nil_of_le (by omega)]; simp)
            cases l with
            | false =>
              have HF := Lib.hid (show badG h s ⟨gt, go, gs_⟩ = false by rw [HBD.out, HL2.out]; simp)
              go_wp2_with fail
              go_roundg (NQ - 1)
              case rel => exact ⟨k + 1, by go_num, by have := HLT.out; omega, Lib.hid (by have := HQ.out; have := HNQ.out; omega), Lib.hid (fun j g hj hg => by
                rcases Nat.lt_succ_iff_lt_or_eq.1 hj with h9 | rfl
                · exact HNV.out j g h9 hg
                · rw [HGK.out] at hg; cases hg; exact HF.out), Lib.hid HB5.out.trans (HBV.out.mono HB5.out.size)⟩
              case measure => have := HQ.out; have := HNQ.out; have := HLT.out; omega
            | true =>
              have g0 := (HXG5.out.older HBV.out).cell (i := 0) rfl
              go_wp2_with fail
              refine (pparse_any gt _ (HRY.out.below HBB6.out) (HPW.out.below HBB6.out) (by have h91 := HGL.out; have h92 := HBB.out; simp only [PrgAt] at h91; omega)).mono ?_
              clear g0
              cases hpo : parseO gt with
              | none =>
                have HF := Lib.hid (show badG h s ⟨gt, go, gs_⟩ = false by rw [HBD.out, HHG.out, hpo]; simp)
                clear hpo
                rw [parV_none]
                rintro e w7 ⟨rfl, hb7⟩
                have HB9 := Lib.hid (HBV.out.trans (hb7.mono HBV.out.size))
                have HBZ := Lib.hid (HB9.out.alloc HB9.out.size (.cells #[.int .i64 0, .int .i64 0, .string ⟨#[]⟩] 40))
                clear hb7
                go_wp2_with fail
                go_roundg (NQ - 1)
                case rel => exact ⟨k + 1, by go_num, by have := HLT.out; omega, Lib.hid (by have := HQ.out; have := HNQ.out; omega), Lib.hid (fun j g hj hg => by
                  rcases Nat.lt_succ_iff_lt_or_eq.1 hj with h9 | rfl
                  · exact HNV.out j g h9 hg
                  · rw [HGK.out] at hg; cases hg; exact HF.out), Lib.hid HB5.out.trans (HBZ.out.mono HB5.out.size)⟩
                case measure => have := HQ.out; have := HNQ.out; have := HLT.out; omega
              | some q =>
                have HQN := Lib.hid (parseO_len hpo)
                obtain ⟨qk, qt, qv⟩ := q
                have HHM := Lib.hid (show hitB ⟨gt, go, gs_⟩ s = matchB ⟨qk, qt, qv⟩ ⟨ten, sadr, tags⟩ by rw [HHG.out, hpo])
                clear hpo
                rw [parV_some]
                simp only at HQN ⊢
                rintro e w7 ⟨rfl, hb7⟩
                have HB9 := Lib.hid (HBV.out.trans (hb7.mono HBV.out.size))
                have HBZ := Lib.hid (HB9.out.alloc HB9.out.size (.cells #[.int .i64 qk, .int .i64 qt, .string ⟨qv.toArray⟩] 40))
                have hbz0 := HB5.out.trans (HBZ.out.mono HB5.out.size)
                have HBB9 := Lib.hid (HBB5.out.trans (HBZ.out.mono HBB5.out.size))
                have HXI9 := Lib.hid (HXI3.out.older hbz0)
                have HXG9 := Lib.hid (HXG5.out.older HBZ.out)
                have i0 := (HXI3.out.older (HB5.out.trans (HB9.out.mono HB5.out.size))).cell (i := 0) rfl
                have i1 := (HXI3.out.older (HB5.out.trans (HB9.out.mono HB5.out.size))).cell (i := 1) rfl
                have i2 := (HXI3.out.older (HB5.out.trans (HB9.out.mono HB5.out.size))).cell (i := 2) rfl
                have hzi := (HXI3.out.older (HB5.out.trans (HB9.out.mono HB5.out.size))).lt
                clear hb7 hbz0
                cases hma : matchB ⟨qk, qt, qv⟩ ⟨ten, sadr, tags⟩ with
                | false =>
                  have HMA := Lib.hid hma
                  have HF := Lib.hid (show badG h s ⟨gt, go, gs_⟩ = false by rw [HBD.out, HHM.out, hma]; simp)
                  clear hma
                  go_wp2_with (go_at_call 48; refine (match_any ⟨qk, qt, qv⟩ ⟨ten, sadr, tags⟩ (.slice ta tags.length tc) _ (HRY.out.below HBB9.out) (by have h91 := HQN.out; have h92 := HGL.out; have h93 := HBB.out; simp only [PrgAt] at h92; simp only; omega) (by have := HSA.out; have := HBB.out; simp only; omega) (HTG.out.below HBB9.out) (by have := HTL.out; have := HBB.out; simp only; omega)).mono ?_; rw [HMA.out]; rintro e wm ⟨rfl, hbm⟩)
                  go_roundg (NQ - 1)
                  case rel => exact ⟨k + 1, by go_num, by have := HLT.out; omega, Lib.hid (by have := HQ.out; have := HNQ.out; omega), Lib.hid (fun j g hj hg => by
                    rcases Nat.lt_succ_iff_lt_or_eq.1 hj with h9 | rfl
                    · exact HNV.out j g h9 hg
                    · rw [HGK.out] at hg; cases hg; exact HF.out), Lib.hid HB5.out.trans ((HBZ.out.trans (hbm.mono HBZ.out.size)).mono HB5.out.size)⟩
                  case measure => have := HQ.out; have := HNQ.out; have := HLT.out; omega
                | true =>
                  have HMA := Lib.hid hma
                  have HF0 := Lib.hid (show badG h s ⟨gt, go, gs_⟩ = !(vs.any fun i => afterM (spanI ps i) go) by rw [HBD.out, HHM.out, hma, HL2.out, HGE.out]; rfl)
                  clear hma
                  go_wp2_with (go_at_call 48; refine (match_any ⟨qk, qt, qv⟩ ⟨ten, sadr, tags⟩ (.slice ta tags.length tc) _ (HRY.out.below HBB9.out) (by have h91 := HQN.out; have h92 := HGL.out; have h93 := HBB.out; simp only [PrgAt] at h92; simp only; omega) (by have := HSA.out; have := HBB.out; simp only; omega) (HTG.out.below HBB9.out) (by have := HTL.out; have := HBB.out; simp only; omega)).mono ?_; rw [HMA.out]; rintro e wm ⟨rfl, hbm⟩)
                  clear i0 i1 i2 hzi
                  have HBT := Lib.hid (HBZ.out.trans (hbm.mono HBZ.out.size))
                  have HXGT := Lib.hid (HXG9.out.older hbm)
                  have HOT := Lib.hid (HO3.out.older (HB5.out.trans (HBT.out.mono HB5.out.size)))
                  have HBBT := Lib.hid (HBB5.out.trans (HBT.out.mono HBB5.out.size))
                  clear hbm
                  go_loopg [79, 16] vs.length (fun gq jv fv wq => ∃ (j : Nat) (f : Bool), jv = .int .i64 j ∧ fv = .bool f ∧ j ≤ vs.length ∧ Hid (vs.length ≤ gq + j) ∧ Hid ((vs.any fun i => afterM (spanI ps i) go) = (f || (vs.drop j).any fun i => afterM (spanI ps i) go)) ∧ Hid (Below wm.heap.size wm wq))
                  case atStart => exact ⟨0, false, rfl, rfl, Nat.zero_le _, Lib.hid (by omega), Lib.hid (by simp), Lib.hid (Below.refl _ _)⟩
                  case round =>
                    obtain ⟨j, f, rfl, rfl, hj, HQ3, HFA, HBU⟩ := hrel
                    by_cases hjl : j < vs.length
                    · have HJL := Lib.hid hjl
                      have hjb : j < 1000000 := by omega
                      obtain ⟨i, hij⟩ : ∃ i, vs[j]? = some i := ⟨_, List.getElem?_eq_getElem hjl⟩
                      obtain ⟨p, hpi, _⟩ := HMEM.out i (List.mem_of_getElem? hij)
                      have hil := (List.getElem?_eq_some_iff.1 hpi).1
                      have hdr : vs.drop j = i :: vs.drop (j + 1) := by
                        obtain ⟨hq9, e9⟩ := List.getElem?_eq_some_iff.1 hij
                        rw [List.drop_eq_getElem_cons hq9, e9]
                      have HST := Lib.hid (show (vs.any fun i => afterM (spanI ps i) go) = ((f || afterM (spanI ps i) go) || (vs.drop (j + 1)).any fun i => afterM (spanI ps i) go) by rw [HFA.out, hdr, List.any_cons, Bool.or_assoc])
                      obtain ⟨og, oo, oc', e9, _, _, _, _, hcell⟩ := HOT.out.cells HVP.out
                      cases e9
                      have o0 := keepH HBU.out (hcell j (.int .i64 (i : Int)) (by unfold ivals; rw [List.getElem?_map, hij]; rfl))
                      have hbu := HBBT.out.trans (HBU.out.mono HBBT.out.size)
                      obtain ⟨xb, xo, e8, _, _, hxrow⟩ := row_at (HAL.out) (spansM_get hil)
                      cases e8
                      have x0 := keepH hbu (hxrow 0 _ rfl)
                      have x1 := keepH hbu (hxrow 1 _ rfl)
                      have x2 := keepH hbu (hxrow 2 _ rfl)
                      rw [Nat.add_zero] at x0
                      have g1 := (HXGT.out.older HBU.out).cell (i := 1) rfl
                      clear hcell hxrow hdr hpi hij hbu
                      cases f with
                      | true =>
                        clear x0 x1 x2 g1
                        go_wp2_with fail
                        refine wp_region_held_drew (S := (fun _ => True)) (by kernel_rfl) (by exact trivial) (fun hHeld => ?_)
                        refine Hd.tk 0 ?_
                        try simp only [Act.put, List.setIfInBounds_toArray, List.set_cons_zero, List.set_cons_succ]
                        refine Hd.tk 1 ?_
                        try simp only [Act.put, List.setIfInBounds_toArray, List.set_cons_zero, List.set_cons_succ]
                        refine Hd.sk 2 ?_
                        try simp only [Act.put, List.setIfInBounds_toArray, List.set_cons_zero, List.set_cons_succ]
                        refine Hd.sk 3 ?_
                        try simp only [Act.put, List.setIfInBounds_toArray, List.set_cons_zero, List.set_cons_succ]
                        refine Hd.sk 4 ?_
                        try simp only [Act.put, List.setIfInBounds_toArray, List.set_cons_zero, List.set_cons_succ]
                        refine Hd.sk 5 ?_
                        try simp only [Act.put, List.setIfInBounds_toArray, List.set_cons_zero, List.set_cons_succ]
                        refine Hd.sk 6 ?_
                        try simp only [Act.put, List.setIfInBounds_toArray, List.set_cons_zero, List.set_cons_succ]
                        refine Hd.sk 7 ?_
                        try simp only [Act.put, List.setIfInBounds_toArray, List.set_cons_zero, List.set_cons_succ]
                        refine Hd.sk 8 ?_
                        try simp only [Act.put, List.setIfInBounds_toArray, List.set_cons_zero, List.set_cons_succ]
                        refine Hd.tk 9 ?_
                        try simp only [Act.put, List.setIfInBounds_toArray, List.set_cons_zero, List.set_cons_succ]
                        refine Hd.tk 10 ?_
                        try simp only [Act.put, List.setIfInBounds_toArray, List.set_cons_zero, List.set_cons_succ]
                        refine wpAnyH_done (by kernel_rfl) ?_ _
                        go_wp2_with fail
                        go_roundg (gk - 1)
                        case rel => exact ⟨j + 1, true, by go_num, rfl, by have := HJL.out; omega, Lib.hid (by have := HQ3.out; omega), Lib.hid HST.out, Lib.hid HBU.out.drew⟩
                        case measure => have := HQ3.out; have := HJL.out; omega
                      | false =>
                        rw [Bool.false_or] at HST
                        obtain ⟨fb, hfb⟩ : ∃ z, afterM (spanI ps i) go = z := ⟨_, rfl⟩
                        have HEQ := Lib.hid hfb
                        rw [hfb] at HST
                        clear hfb
                        go_wp2_with fail
                        refine wp_region_held_drew (S := (fun w' => w'.cell? ⟨xb, xo + i * 3, none⟩ = some (.int .i64 (spanI ps i).frm) ∧ w'.cell? ⟨xb, xo + i * 3 + 1, none⟩ = some (.int .i64 (spanI ps i).til) ∧ w'.cell? ⟨xb, xo + i * 3 + 2, none⟩ = some (.bool (spanI ps i).ends) ∧ w'.cell? ⟨bg, 1, none⟩ = some (.int .i64 go))) (by kernel_rfl) (by exact ⟨x0, x1, x2, g1⟩) (fun hHeld => ?_)
                        refine Hd.tk 0 ?_
                        try simp only [Act.put, List.setIfInBounds_toArray, List.set_cons_zero, List.set_cons_succ]
                        refine Hd.tk 1 ?_
                        try simp only [Act.put, List.setIfInBounds_toArray, List.set_cons_zero, List.set_cons_succ]
                        refine Hd.tk 2 ?_
                        try simp only [Act.put, List.setIfInBounds_toArray, List.set_cons_zero, List.set_cons_succ]
                        refine Hd.tk 3 ?_
                        try simp only [Act.put, List.setIfInBounds_toArray, List.set_cons_zero, List.set_cons_succ]
                        refine Hd.tk 4 ?_
                        try simp only [Act.put, List.setIfInBounds_toArray, List.set_cons_zero, List.set_cons_succ]
                        refine Hd.tk 5 ?_
                        try simp only [Act.put, List.setIfInBounds_toArray, List.set_cons_zero, List.set_cons_succ]
                        refine Hd.tk 6 ?_
                        try simp only [Act.put, List.setIfInBounds_toArray, List.set_cons_zero, List.set_cons_succ]
                        refine Hd.tk 7 ?_
                        try simp only [Act.put, List.setIfInBounds_toArray, List.set_cons_zero, List.set_cons_succ]
                        refine wpAnyH_ready (rs := [8]) (by kernel_rfl) (by simp) (AllReadyH.cons (by simp only [List.getElem?_toArray, List.getElem?_cons_succ, List.getElem?_cons_zero]; rfl) (fun K hK => ?_) AllReadyH.nil)
                        go_simp
                        go_at_call 79
                        refine (after_any (spanI ps i) go _).mono ?_
                        rw [HEQ.out]
                        rintro e wq1 ⟨rfl, hq1⟩
                        have hqw1 : Below wr.heap.size wr wq1 := ((Below.refl _ _).drew).trans hq1
                        go_wp2_with fail
                        refine hK.out _ _ (by exact ⟨keepH hqw1 x0, keepH hqw1 x1, keepH hqw1 x2, keepH hqw1 g1⟩) (fun hHe1 => ?_)
                        clear hK K
                        try simp only [Act.put, List.setIfInBounds_toArray, List.set_cons_zero, List.set_cons_succ]
                        refine Hd.tk 9 ?_
                        try simp only [Act.put, List.setIfInBounds_toArray, List.set_cons_zero, List.set_cons_succ]
                        refine Hd.tk 10 ?_
                        try simp only [Act.put, List.setIfInBounds_toArray, List.set_cons_zero, List.set_cons_succ]
                        refine wpAnyH_done (by kernel_rfl) ?_ _
                        go_wp2_with fail
                        go_roundg (gk - 1)
                        case rel => exact ⟨j + 1, fb, by go_num, rfl, by have := HJL.out; omega, Lib.hid (by have := HQ3.out; omega), Lib.hid HST.out, Lib.hid (HBU.out.trans (hqw1.mono HBU.out.size))⟩
                        case measure => have := HQ3.out; have := HJL.out; omega
                    · have HL3 := Lib.hid (show (vs.any fun i => afterM (spanI ps i) go) = f by rw [HFA.out, List.drop_eq_nil_of_le (by omega)]; simp)
                      cases f with
                      | true =>
                        have HF := Lib.hid (show badG h s ⟨gt, go, gs_⟩ = false by rw [HF0.out, HL3.out]; rfl)
                        go_wp2_with fail
                        go_roundg (NQ - 1)
                        case rel => exact ⟨k + 1, by go_num, by have := HLT.out; omega, Lib.hid (by have := HQ.out; have := HNQ.out; omega), Lib.hid (fun j g hj hg => by
                          rcases Nat.lt_succ_iff_lt_or_eq.1 hj with h9 | rfl
                          · exact HNV.out j g h9 hg
                          · rw [HGK.out] at hg; cases hg; exact HF.out), Lib.hid HB5.out.trans ((HBT.out.trans (HBU.out.mono HBT.out.size)).mono HB5.out.size)⟩
                        case measure => have := HQ.out; have := HNQ.out; have := HLT.out; omega
                      | false =>
                        have HE := Lib.hid (HYES.out k ⟨gt, go, gs_⟩ HVP.out HGK.out (by rw [HF0.out, HL3.out]; rfl))
                        go_wp2_with fail
                        rw [HE.out]
                        go_ret
                        exact ⟨rfl, HBBT.out.trans (HBU.out.mono HBBT.out.size)⟩
    · have HE := Lib.hid (HEND.out (fun j g hg => HNV.out j g (by have := (List.getElem?_eq_some_iff.1 hg).1; omega) hg))
      go_wp2_with fail
      rw [HE.out]
      go_ret
      exact ⟨rfl, HB3.out.trans (HBW.out.mono HB3.out.size)⟩
end Hy
end Go.Proofs.YtjijijjkkhpjnaaGreatDoor
end

