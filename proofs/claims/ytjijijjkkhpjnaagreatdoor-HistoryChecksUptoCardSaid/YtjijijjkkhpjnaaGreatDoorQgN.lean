/- Contracts and plain facts that the statement's proof leans on (texts joined). No condition beyond those that each names. -/
import Derived.Lib.SmallJoins
import Derived.Laws.StructEq
import Derived.Test.YtjijijjkkhpjnaaGreatDoorQgG
import Derived.Test.YtjijijjkkhpjnaaGreatDoorQgM
section
namespace Go.Proofs.YtjijijjkkhpjnaaGreatDoor
open Go.RowKit Pl Ad
attribute [local go_sem] ba_get ba_append ba_extract conv_one
set_option maxRecDepth 100000
set_option maxHeartbeats 4000000
set_option linter.unusedVariables false
set_option linter.unusedSimpArgs false
namespace Hy
open A1 Kr
theorem bey (h : HisM) (va vb vc vd ve : Value) (bound fin : Int) (B : Nat) (w : World) (h1 : h.bound = bound) (h2 : h.fin = fin) (ha : HisAt w B va vb vc vd ve h) (hls : Lens h) (hB : B ≤ 134217728) :
    Calls Tryz.prog 53 #[.agg #[va, vb, vc, vd, ve, .int .i64 bound, .int .i64 fin]] w (SmallIf h w) := by
  subst h1 h2
  exact beyond_any h va vb vc vd ve B w ha hls hB
theorem large_any (h : HisM) (va vb vc vd ve : Value) (B : Nat) (w : World) (ha : HisAt w B va vb vc vd ve h) (hB : B ≤ 134217728) :
    Calls Tryz.prog 28 #[.agg #[va, vb, vc, vd, ve, .int .i64 h.bound, .int .i64 h.fin]] w (SmallIf h w) := by
  obtain ⟨ps, gs, ss, fs, ds, bound, fin⟩ := h
  obtain ⟨pa, pc, rfl, _⟩ := ha.pubs.form
  obtain ⟨ga, gc, rfl, _⟩ := ha.prgs.form
  obtain ⟨sa, sc, rfl, _⟩ := ha.srvs.form
  obtain ⟨fa, fc, rfl, _⟩ := ha.fets.form
  obtain ⟨da, dc, rfl, _⟩ := ha.dros.form
  simp only at ha ⊢
  have HPL := Lib.hid (Nat.le_trans ha.npub hB)
  have HSL := Lib.hid (Nat.le_trans ha.nsrv hB)
  simp only at HPL HSL
  obtain ⟨h, hh⟩ : ∃ h : HisM, (⟨ps, gs, ss, fs, ds, bound, fin⟩ : HisM) = h := ⟨_, rfl⟩
  have HH : Hid (h.pubs = ps ∧ h.prgs = gs ∧ h.srvs = ss ∧ h.fets = fs ∧ h.dros = ds ∧ h.bound = bound ∧ h.fin = fin) := Lib.hid (by rw [← hh]; exact ⟨rfl, rfl, rfl, rfl, rfl, rfl, rfl⟩)
  have HHE := Lib.hid hh
  rw [hh]
  have HA := Lib.hid ha
  have HBB := Lib.hid hB
  have HB0 := Lib.hid ((Below.refl w.heap.size w).alloc (Nat.le_refl _) (.cells #[.slice pa ps.length pc, .slice ga gs.length gc, .slice sa ss.length sc, .slice fa fs.length fc, .slice da ds.length dc, .int .i64 bound, .int .i64 fin] 69))
  have HXH := Lib.hid (Bx.new w 69 #[.slice pa ps.length pc, .slice ga gs.length gc, .slice sa ss.length sc, .slice fa fs.length fc, .slice da ds.length dc, .int .i64 bound, .int .i64 fin])
  clear ha hB hh
  go_enter Tryz.func28, Tryz.ntmps28
  go_wp2_with fail
  obtain ⟨w1, hw1⟩ : ∃ z, w.alloc (.cells #[.slice pa ps.length pc, .slice ga gs.length gc, .slice sa ss.length sc, .slice fa fs.length fc, .slice da ds.length dc, .int .i64 bound, .int .i64 fin] 69) = z := ⟨_, rfl⟩
  obtain ⟨b0, hb0⟩ : ∃ z, w.heap.size = z := ⟨_, rfl⟩
  rw [hw1] at HB0 HXH ⊢
  rw [hb0] at HXH ⊢
  clear hw1 hb0
  go_loopg [13, 3] ps.length (fun gq iv nv wr => ∃ (k : Nat) (n : Int), iv = .int .i64 k ∧ nv = .int .i64 n ∧ k ≤ ps.length ∧ Hid (ps.length ≤ gq + k) ∧ Hid (Below w1.heap.size w1 wr))
  case atStart => exact ⟨0, 0, rfl, rfl, Nat.zero_le _, Lib.hid (by omega), Lib.hid (Below.refl _ _)⟩
  case round =>
    obtain ⟨k, n, rfl, rfl, hk, HQ, HBW⟩ := hrel
    have h0 := (HXH.out.older HBW.out).cell (i := 0) rfl
    have h1 := (HXH.out.older HBW.out).cell (i := 1) rfl
    have h2 := (HXH.out.older HBW.out).cell (i := 2) rfl
    have h3 := (HXH.out.older HBW.out).cell (i := 3) rfl
    have h4 := (HXH.out.older HBW.out).cell (i := 4) rfl
    have h5 := (HXH.out.older HBW.out).cell (i := 5) rfl
    have h6 := (HXH.out.older HBW.out).cell (i := 6) rfl
    have hz0 := (HXH.out.older HBW.out).lt
    by_cases hlt : k < ps.length
    · have HLT := Lib.hid hlt
      have hkb : k < 134217728 := by have := HPL.out; omega
      obtain ⟨x, hxk⟩ : ∃ x, ps[k]? = some x := ⟨_, List.getElem?_eq_getElem hlt⟩
      have hxa := HA.out.pub x (List.mem_of_getElem? hxk)
      obtain ⟨b3, o3, e3, _, _, hrow⟩ := row_at (HA.out.below (HB0.out.trans (HBW.out.mono HB0.out.size))).pubs hxk
      cases e3
      obtain ⟨pat, plim, padr, ptag, pbv, pbody⟩ := x
      obtain ⟨ba, bc, hbv⟩ := Sg.src_form hxa.2.2.1
      simp only at hbv
      subst hbv
      have d0 := hrow 0 _ rfl
      have d1 := hrow 1 _ rfl
      have d2 := hrow 2 _ rfl
      have d3 := hrow 3 _ rfl
      have d4 := hrow 4 _ rfl
      rw [Nat.add_zero] at d0
      have hb3 := World.block_lt_of_cell? _ _ d0
      simp only at hb3
      have HBX := Lib.hid (HBW.out.alloc HBW.out.size (.cells #[.int .i64 pat, .int .i64 plim, .string ⟨padr.toArray⟩, .string ⟨ptag.toArray⟩, .slice ba pbody.length bc] 86))
      clear hxa hrow hxk
      go_wp2_with fail
      go_roundg (gk - 1)
      case rel => exact ⟨k + 1, _, by go_num, rfl, by have := HLT.out; omega, Lib.hid (by have := HQ.out; omega), HBX⟩
      case measure => have := HQ.out; have := HLT.out; omega
    · skip
      obtain rfl : k = ps.length := by omega
      go_wp2_with fail
      go_loopg [30, 3] ss.length (fun gq iv nv wr => ∃ (k : Nat) (n : Int), iv = .int .i64 k ∧ nv = .int .i64 n ∧ k ≤ ss.length ∧ Hid (ss.length ≤ gq + k) ∧ Hid (Below w1.heap.size w1 wr))
      case atStart => exact ⟨0, n, rfl, rfl, Nat.zero_le _, Lib.hid (by omega), HBW⟩
      case round =>
        clear HBW HQ n hk h0 h1 h2 h3 h4 h5 h6 hz0
        obtain ⟨k, n, rfl, rfl, hk, HQ, HBW⟩ := hrel
        obtain ⟨NQ, hNQ⟩ : ∃ z, gk = z := ⟨_, rfl⟩
        have HNQ := Lib.hid hNQ
        clear hNQ
        have h0 := (HXH.out.older HBW.out).cell (i := 0) rfl
        have h1 := (HXH.out.older HBW.out).cell (i := 1) rfl
        have h2 := (HXH.out.older HBW.out).cell (i := 2) rfl
        have h3 := (HXH.out.older HBW.out).cell (i := 3) rfl
        have h4 := (HXH.out.older HBW.out).cell (i := 4) rfl
        have h5 := (HXH.out.older HBW.out).cell (i := 5) rfl
        have h6 := (HXH.out.older HBW.out).cell (i := 6) rfl
        have hz0 := (HXH.out.older HBW.out).lt
        by_cases hlt : k < ss.length
        · have HLT := Lib.hid hlt
          have hkb : k < 134217728 := by have := HSL.out; omega
          obtain ⟨x, hxk⟩ : ∃ x, ss[k]? = some x := ⟨_, List.getElem?_eq_getElem hlt⟩
          have HAW := Lib.hid (HA.out.below (HB0.out.trans (HBW.out.mono HB0.out.size)))
          have hsr := HAW.out.srv x (List.mem_of_getElem? hxk)
          have HSR := Lib.hid hsr
          have hsr0 := HA.out.srv x (List.mem_of_getElem? hxk)
          obtain ⟨b3, o3, e3, _, _, hrow⟩ := row_at HAW.out.srvs hxk
          cases e3
          obtain ⟨edge, sadr, stag, ten, ask, at_, frm, til, tgv, tags, ptv, parts, ended⟩ := x
          obtain ⟨ta, tc, htv⟩ := hsr.2.2.2.1.form
          obtain ⟨qa, qc, hqv, _⟩ := hsr.2.2.2.2.2.2.1.form
          simp only at htv hqv
          subst htv hqv
          have d0 := hrow 0 _ rfl
          have d1 := hrow 1 _ rfl
          have d2 := hrow 2 _ rfl
          have d3 := hrow 3 _ rfl
          have d4 := hrow 4 _ rfl
          have d5 := hrow 5 _ rfl
          have d6 := hrow 6 _ rfl
          have d7 := hrow 7 _ rfl
          have d8 := hrow 8 _ rfl
          have d9 := hrow 9 _ rfl
          have d10 := hrow 10 _ rfl
          rw [Nat.add_zero] at d0
          have hb3 := World.block_lt_of_cell? _ _ d0
          simp only at hb3
          have HBX := Lib.hid (HBW.out.alloc HBW.out.size (.cells #[.string ⟨edge.toArray⟩, .string ⟨sadr.toArray⟩, .string ⟨stag.toArray⟩, .int .i64 ten, .int .i64 ask, .int .i64 at_, .int .i64 frm, .int .i64 til, .slice ta tags.length tc, .slice qa parts.length qc, .bool ended] 82))
          have HPQ := Lib.hid hsr0.2.2.2.2.2.2.1
          clear hsr hrow hxk hsr0
          go_wp2_with fail
          clear d0 d1 d2 d3 d4 d5 d6 d7 d8 d9 d10 hb3
          go_loopg [50, 3] parts.length (fun gq jv nv wr => ∃ (j : Nat) (m : Int), jv = .int .i64 j ∧ nv = .int .i64 m ∧ j ≤ parts.length ∧ Hid (parts.length ≤ gq + j) ∧ Hid (Below w1.heap.size w1 wr))
          case atStart => exact ⟨0, _, rfl, rfl, Nat.zero_le _, Lib.hid (by omega), HBX⟩
          case round =>
            obtain ⟨j, m, rfl, rfl, hj, HQ2, HBV⟩ := hrel
            by_cases hjl : j < parts.length
            · have HJL := Lib.hid hjl
              have hjb : j < 134217728 := by have h91 := HSR.out.2.2.2.2.2.2.2.1; have := HBB.out; simp only at h91; omega
              obtain ⟨x, hxj⟩ : ∃ x, parts[j]? = some x := ⟨_, List.getElem?_eq_getElem hjl⟩
              have hxa := HSR.out.2.2.2.2.2.2.2.2 x (List.mem_of_getElem? hxj)
              obtain ⟨b5, o5, e5, _, _, hrow⟩ := row_at (HPQ.out.below (HB0.out.trans (HBV.out.mono HB0.out.size))) hxj
              cases e5
              obtain ⟨xat, off, xdv, data⟩ := x
              obtain ⟨dda, ddc, hdv⟩ := Sg.src_form hxa.1
              simp only at hdv
              subst hdv
              have d0 := hrow 0 _ rfl
              have d1 := hrow 1 _ rfl
              have d2 := hrow 2 _ rfl
              rw [Nat.add_zero] at d0
              have hb5 := World.block_lt_of_cell? _ _ d0
              simp only at hb5
              have HBY := Lib.hid (HBV.out.alloc HBV.out.size (.cells #[.int .i64 xat, .int .i64 off, .slice dda data.length ddc] 88))
              clear hxa hrow hxj
              go_wp2_with fail
              go_roundg (gk - 1)
              case rel => exact ⟨j + 1, _, by go_num, rfl, by have := HJL.out; omega, Lib.hid (by have := HQ2.out; omega), HBY⟩
              case measure => have := HQ2.out; have := HJL.out; omega
            · clear h0 h1 h2 h3 h4 h5 h6 hz0
              go_wp2_with fail
              go_roundg (NQ - 1)
              case rel => exact ⟨k + 1, m, by go_num, rfl, by have := HLT.out; omega, Lib.hid (by have := HQ.out; have := HNQ.out; omega), HBV⟩
              case measure => have := HQ.out; have := HNQ.out; have := HLT.out; omega
        · clear hk
          by_cases q0 : (5000 : Int) < n
          · go_wp2_with fail
            go_ret
            exact ⟨true, rfl, fun h => (by cases h), HB0.out.trans (HBW.out.mono HB0.out.size)⟩
          · have q0f : decide ((5000 : Int) < n) = false := decide_eq_false q0
            by_cases q1 : 30 < ps.length
            · have q1i : (30 : Int) < (ps.length : Int) := by omega
              go_wp2_with fail
              go_ret
              exact ⟨true, rfl, fun h => (by cases h), HB0.out.trans (HBW.out.mono HB0.out.size)⟩
            · have q1f : decide ((30 : Int) < (ps.length : Int)) = false := decide_eq_false (by omega)
              have q1g : decide (30 < ps.length) = false := decide_eq_false q1
              by_cases q2 : 20 < gs.length
              · have q2i : (20 : Int) < (gs.length : Int) := by omega
                go_wp2_with fail
                go_ret
                exact ⟨true, rfl, fun h => (by cases h), HB0.out.trans (HBW.out.mono HB0.out.size)⟩
              · have q2f : decide ((20 : Int) < (gs.length : Int)) = false := decide_eq_false (by omega)
                have q2g : decide (20 < gs.length) = false := decide_eq_false q2
                by_cases q3 : 30 < ss.length
                · have q3i : (30 : Int) < (ss.length : Int) := by omega
                  go_wp2_with fail
                  go_ret
                  exact ⟨true, rfl, fun h => (by cases h), HB0.out.trans (HBW.out.mono HB0.out.size)⟩
                · have q3f : decide ((30 : Int) < (ss.length : Int)) = false := decide_eq_false (by omega)
                  have q3g : decide (30 < ss.length) = false := decide_eq_false q3
                  by_cases q4 : 60 < fs.length
                  · have q4i : (60 : Int) < (fs.length : Int) := by omega
                    go_wp2_with fail
                    go_ret
                    exact ⟨true, rfl, fun h => (by cases h), HB0.out.trans (HBW.out.mono HB0.out.size)⟩
                  · have q4f : decide ((60 : Int) < (fs.length : Int)) = false := decide_eq_false (by omega)
                    have q4g : decide (60 < fs.length) = false := decide_eq_false q4
                    by_cases q5 : 40 < ds.length
                    · have q5i : (40 : Int) < (ds.length : Int) := by omega
                      go_wp2_with fail
                      go_ret
                      exact ⟨true, rfl, fun h => (by cases h), HB0.out.trans (HBW.out.mono HB0.out.size)⟩
                    · have q5f : decide ((40 : Int) < (ds.length : Int)) = false := decide_eq_false (by omega)
                      have q5g : decide (40 < ds.length) = false := decide_eq_false q5
                      have HLS := Lib.hid (show Lens h by unfold Lens; rw [HH.out.1, HH.out.2.1, HH.out.2.2.1, HH.out.2.2.2.1, HH.out.2.2.2.2.1]; omega)
                      go_wp2_with (go_at_call 53; refine (bey h _ _ _ _ _ _ _ B _ HH.out.2.2.2.2.2.1 HH.out.2.2.2.2.2.2 (by rw [← HHE.out]; exact HA.out.below (HB0.out.trans (HBW.out.mono HB0.out.size))) HLS.out HBB.out).mono ?_; rintro e w9 ⟨b, rfl, hsm, hb9⟩; have HS9 := Lib.hid hsm; have HB9 := Lib.hid hb9; clear hsm hb9)
                      go_ret
                      exact ⟨b, rfl, HS9.out, HB0.out.trans ((HBW.out.trans (HB9.out.mono HBW.out.size)).mono HB0.out.size)⟩
end Hy
end Go.Proofs.YtjijijjkkhpjnaaGreatDoor
end

section
namespace Go.Proofs.YtjijijjkkhpjnaaGreatDoor
open Go.RowKit Pl Ad
attribute [local go_sem] ba_get ba_append ba_extract conv_one
set_option maxRecDepth 100000
set_option maxHeartbeats 4000000
set_option linter.unusedVariables false
set_option linter.unusedSimpArgs false
namespace Hy
open A1 Kr
theorem flat_get {α : Type} {F : α → List Value} {k : Nat} (hF : ∀ x, (F x).length = k) (hk : 0 < k) : ∀ (xs : List α) (j : Nat), (xs.flatMap F)[j]? = (xs[j / k]?).bind fun x => (F x)[j % k]?
  | [], j => by simp
  | x :: r, j => by
    rw [List.flatMap_cons]
    by_cases h : j < k
    · rw [List.getElem?_append_left (by rw [hF]; exact h), Nat.div_eq_of_lt h, Nat.mod_eq_of_lt h]; rfl
    · obtain ⟨m, rfl⟩ : ∃ m, j = m + k := ⟨j - k, by omega⟩
      rw [List.getElem?_append_right (by rw [hF]; omega), hF, Nat.add_sub_cancel, flat_get hF hk r m, Nat.add_div_right m hk, Nat.add_mod_right]
      rfl
theorem flat_at {α : Type} {F : α → List Value} {k : Nat} (hF : ∀ x, (F x).length = k) {xs : List α} {i j : Nat} {x : α} {u : Value} (hx : xs[i]? = some x) (hu : (F x)[j]? = some u) : (xs.flatMap F)[i * k + j]? = some u := by
  have hj : j < k := by rw [← hF x]; exact (List.getElem?_eq_some_iff.1 hu).1
  rw [flat_get hF (by omega), show i * k + j = j + k * i by rw [Nat.mul_comm]; omega, Nat.add_mul_div_left _ _ (by omega), Nat.div_eq_of_lt hj, Nat.add_mul_mod_self_left, Nat.mod_eq_of_lt hj, Nat.zero_add, hx]
  exact hu
section
variable {α : Type} {F : α → List Value} {k : Nat} {w w' : World} {v : Value} {xs : List α}
theorem rows_src (h : RowsV F k w v xs) (hF : ∀ x, (F x).length = k) (hk : 0 < k) : SrcAt w v xs.length (xs.flatMap F) := by
  rcases h with ⟨rfl, h1 | ⟨a, c, h1⟩⟩ | ⟨b, o, c, h1, _, _, h4⟩
  · exact .inl ⟨h1, rfl, rfl⟩
  · exact .inr ⟨a, c, h1, fun j x hx => by simp at hx⟩
  · refine .inr ⟨⟨b, o, none⟩, c, h1, fun j u hu => ?_⟩
    rw [flat_get hF hk] at hu
    obtain ⟨x, hx, hxu⟩ := Option.bind_eq_some_iff.1 hu
    have := h4 _ x hx _ u hxu
    rw [Nat.div_add_mod'] at this
    rw [Addr.add_lit]
    exact this
theorem rows_ownF {B : Nat} {e : TypeId} (h : OwnWin w B e k v xs.length (xs.flatMap F)) (hF : ∀ x, (F x).length = k) : RowsV F k w v xs := by
  rcases Nat.eq_zero_or_pos xs.length with h0 | h0
  · obtain rfl := List.eq_nil_of_length_eq_zero h0
    rcases h.2 with ⟨h1, _⟩ | ⟨g, o, cap, cur, h1, _⟩
    · exact .inl ⟨rfl, .inl h1⟩
    · exact .inl ⟨rfl, .inr ⟨_, _, h1⟩⟩
  · obtain ⟨g, o, c, e1, h1, _, _, h2, h3⟩ := h.cells h0
    exact .inr ⟨g, o, c, e1, h1, h2, fun i x hx j u hu => h3 _ u (flat_at hF hx hu)⟩
/-- Rows that are a block. -/
theorem rows_bx {b T c : Nat} {C : Array Value} {fr : Nat × Nat} (h : w.heap[b]? = some (.cells C T fr)) (hC : C.toList = xs.flatMap F) (hF : ∀ x, (F x).length = k) (hc : xs.length ≤ c) {n : Nat} (hn : n = xs.length) : RowsV F k w (.slice (some ⟨b, 0, none⟩) n c) xs := by
  subst hn
  refine .inr ⟨b, 0, c, rfl, hc, (Array.getElem?_eq_some_iff.1 h).1, fun i x hx j u hu => ?_⟩
  have h1 := flat_at hF hx hu
  rw [← hC] at h1
  rw [Nat.zero_add, cell_of_row w b _ C T fr h]
  simpa using h1
end
theorem pubR_len (p : PubM) : (pubR p).length = 5 := rfl
theorem prgR_len (p : PrgM) : (prgR p).length = 3 := rfl
theorem partR_len (p : PartM) : (partR p).length = 3 := rfl
theorem srvR_len (p : SrvM) : (srvR p).length = 11 := rfl
theorem byteC_len (b : UInt8) : (Sg.byteC b).length = 1 := rfl
theorem bytes_flat (l : Bs) : l.flatMap Sg.byteC = bvals l := by
  induction l with
  | nil => rfl
  | cons b r ih => rw [List.flatMap_cons, ih]; rfl
theorem bytes_bx {w : World} {b T c n : Nat} {C : Array Value} {fr : Nat × Nat} (l : Bs) (h : w.heap[b]? = some (.cells C T fr)) (hC : C.toList = bvals l) (hc : l.length ≤ c) (hn : n = l.length) : RowsV Sg.byteC 1 w (.slice (some ⟨b, 0, none⟩) n c) l := rows_bx h (by rw [bytes_flat]; exact hC) byteC_len hc hn
theorem bx_newH {w : World} {n T : Nat} {cs : Array Value} (h : w.heap.size = n) : Bx (w.alloc (.cells cs T)) n T cs := h ▸ Bx.new w T cs
theorem bx_allocH {w : World} {R T : Nat} {cs : Array Value} (h : Bx w R T cs) (o : Obj) : Bx (w.alloc o) R T cs := h.older ((Below.refl _ _).alloc (Nat.le_refl _) o)
def exX : Bs := [97, 46, 101, 120, 97, 109, 112, 108, 101, 47, 120]
def exT : Bs := [101, 120, 97, 99, 116, 32, 48, 32, 97, 46, 101, 120, 97, 109, 112, 108, 101, 47, 120]
/-- The document's example, with a response at a time and a purge that was ordered at a time. -/
def exM (v1 v2 v3 v4 : Value) (a o : Int) : HisM := ⟨[⟨10, 100, exX, [49], v1, [97, 98]⟩, ⟨50, 100, exX, [50], v2, [99, 100]⟩], [⟨exT, o, 70⟩], [⟨[101, 49], exX, [49], 0, a, a, 0, 2, .slice none 0 0, [], v4, [⟨a, 0, v3, [97, 98]⟩], true⟩], [], [], 100, 200⟩
theorem ex_one (v1 v2 v3 v4 : Value) : checkL (exM v1 v2 v3 v4 149 60) = [⟨1, 0, tx1⟩] := by kernel_rfl
theorem ex_two (v1 v2 v3 v4 : Value) : checkL (exM v1 v2 v3 v4 149 49) = [] := by kernel_rfl
theorem ex_three (v1 v2 v3 v4 : Value) : (checkL (exM v1 v2 v3 v4 150 49)).length = 1 := by kernel_rfl
theorem ex_small (v1 v2 v3 v4 : Value) {a o : Int} (ha : 0 ≤ a ∧ a ≤ 1000) (ho : 0 ≤ o ∧ o ≤ 1000) : (exM v1 v2 v3 v4 a o).Small := by
  refine ⟨fun p hp => ?_, fun p hp => ?_, fun p hp => ?_, fun p hp => ?_, fun p hp => ?_, ?_, ?_, ?_, ?_, ?_, ?_, ?_⟩
  all_goals simp [exM, inB] at *
  · rcases hp with rfl | rfl <;> simp
  · subst hp; simp; omega
  · subst hp; simp; omega
theorem hb_new {w : World} {n : Nat} {o : Obj} (h : w.heap.size = n) : (w.alloc o).heap[n]? = some o := h ▸ heap_alloc_new w o
theorem hb_alloc {w : World} {n : Nat} {o : Obj} (h : w.heap[n]? = some o) (q : Obj) : (w.alloc q).heap[n]? = some o :=
  (Below.heap_alloc w q n (Array.getElem?_eq_some_iff.1 h).1).trans h
theorem conv_at (w : World) (C : Array Value) (n c g : Nat) (hg : g = w.heap.size) : (convert 84 84 (.slice (some ⟨g, 0, none⟩) n c)).run Tryz.prog (w.alloc (.cells C 5)) = .ok (.slice (some ⟨g, 0, none⟩) n c) (w.alloc (.cells C 5 (C.size, C.size + 1))) :=
  Joins.run_convert_bytes_const_at w 84 5 C n c g hg Tryz.underlying84 Tryz.underlying5
attribute [local go_sem] conv_at
theorem example_any (a o : Int) (w : World) : Calls Tryz.prog 54 #[.int .i64 a, .int .i64 o] w fun e w' => ∃ va vb vc vd ve v1 v2 v3 v4, e = .returned (.agg #[va, vb, vc, vd, ve, .int .i64 100, .int .i64 200]) ∧ HisAt w' 20 va vb vc vd ve (exM v1 v2 v3 v4 a o) ∧ Below w.heap.size w w' := by
  go_enter Tryz.func54, Tryz.ntmps54
  go_wp2_with fail
  obtain ⟨n0, hn0⟩ : ∃ z, w.heap.size = z := ⟨_, rfl⟩
  have h0 : ((((((((w.alloc (.cells #[.slice (some ⟨w.heap.size + 1 + 1 + 1, 0, none⟩) 2 2, .slice (some ⟨w.heap.size + 1 + 1 + 1 + 1, 0, none⟩) 1 1, .slice (some ⟨w.heap.size + 1 + 1 + 1 + 1 + 1 + 1 + 1, 0, none⟩) 1 1, .slice none 0 0, .slice none 0 0, .int .i64 100, .int .i64 200] 69 )).alloc (.cells #[.int .u8 97, .int .u8 98] 5 (2, 3))).alloc (.cells #[.int .u8 99, .int .u8 100] 5 (2, 3))).alloc (.cells #[.int .i64 10, .int .i64 100, .string ⟨#[97, 46, 101, 120, 97, 109, 112, 108, 101, 47, 120]⟩, .string ⟨#[49]⟩, .slice (some ⟨w.heap.size + 1, 0, none⟩) 2 2, .int .i64 50, .int .i64 100, .string ⟨#[97, 46, 101, 120, 97, 109, 112, 108, 101, 47, 120]⟩, .string ⟨#[50]⟩, .slice (some ⟨w.heap.size + 1 + 1, 0, none⟩) 2 2] 86 )).alloc (.cells #[.string ⟨#[101, 120, 97, 99, 116, 32, 48, 32, 97, 46, 101, 120, 97, 109, 112, 108, 101, 47, 120]⟩, .int .i64 o, .int .i64 70] 97 )).alloc (.cells #[.int .u8 97, .int .u8 98] 5 (2, 3))).alloc (.cells #[.int .i64 a, .int .i64 0, .slice (some ⟨w.heap.size + 1 + 1 + 1 + 1 + 1, 0, none⟩) 2 2] 88 )).alloc (.cells #[.string ⟨#[101, 49]⟩, .string ⟨#[97, 46, 101, 120, 97, 109, 112, 108, 101, 47, 120]⟩, .string ⟨#[49]⟩, .int .i64 0, .int .i64 a, .int .i64 a, .int .i64 0, .int .i64 2, .slice none 0 0, .slice (some ⟨w.heap.size + 1 + 1 + 1 + 1 + 1 + 1, 0, none⟩) 1 1, .bool true] 82 )).heap[w.heap.size]? = some (.cells #[.slice (some ⟨w.heap.size + 1 + 1 + 1, 0, none⟩) 2 2, .slice (some ⟨w.heap.size + 1 + 1 + 1 + 1, 0, none⟩) 1 1, .slice (some ⟨w.heap.size + 1 + 1 + 1 + 1 + 1 + 1 + 1, 0, none⟩) 1 1, .slice none 0 0, .slice none 0 0, .int .i64 100, .int .i64 200] 69 (0, 0)) := (hb_alloc (hb_alloc (hb_alloc (hb_alloc (hb_alloc (hb_alloc (hb_alloc (hb_new (by simp)) _) _) _) _) _) _) _)
  have h1 : ((((((((w.alloc (.cells #[.slice (some ⟨w.heap.size + 1 + 1 + 1, 0, none⟩) 2 2, .slice (some ⟨w.heap.size + 1 + 1 + 1 + 1, 0, none⟩) 1 1, .slice (some ⟨w.heap.size + 1 + 1 + 1 + 1 + 1 + 1 + 1, 0, none⟩) 1 1, .slice none 0 0, .slice none 0 0, .int .i64 100, .int .i64 200] 69 )).alloc (.cells #[.int .u8 97, .int .u8 98] 5 (2, 3))).alloc (.cells #[.int .u8 99, .int .u8 100] 5 (2, 3))).alloc (.cells #[.int .i64 10, .int .i64 100, .string ⟨#[97, 46, 101, 120, 97, 109, 112, 108, 101, 47, 120]⟩, .string ⟨#[49]⟩, .slice (some ⟨w.heap.size + 1, 0, none⟩) 2 2, .int .i64 50, .int .i64 100, .string ⟨#[97, 46, 101, 120, 97, 109, 112, 108, 101, 47, 120]⟩, .string ⟨#[50]⟩, .slice (some ⟨w.heap.size + 1 + 1, 0, none⟩) 2 2] 86 )).alloc (.cells #[.string ⟨#[101, 120, 97, 99, 116, 32, 48, 32, 97, 46, 101, 120, 97, 109, 112, 108, 101, 47, 120]⟩, .int .i64 o, .int .i64 70] 97 )).alloc (.cells #[.int .u8 97, .int .u8 98] 5 (2, 3))).alloc (.cells #[.int .i64 a, .int .i64 0, .slice (some ⟨w.heap.size + 1 + 1 + 1 + 1 + 1, 0, none⟩) 2 2] 88 )).alloc (.cells #[.string ⟨#[101, 49]⟩, .string ⟨#[97, 46, 101, 120, 97, 109, 112, 108, 101, 47, 120]⟩, .string ⟨#[49]⟩, .int .i64 0, .int .i64 a, .int .i64 a, .int .i64 0, .int .i64 2, .slice none 0 0, .slice (some ⟨w.heap.size + 1 + 1 + 1 + 1 + 1 + 1, 0, none⟩) 1 1, .bool true] 82 )).heap[w.heap.size + 1]? = some (.cells #[.int .u8 97, .int .u8 98] 5 (2, 3)) := (hb_alloc (hb_alloc (hb_alloc (hb_alloc (hb_alloc (hb_alloc (hb_new (by simp)) _) _) _) _) _) _)
  have h2 : ((((((((w.alloc (.cells #[.slice (some ⟨w.heap.size + 1 + 1 + 1, 0, none⟩) 2 2, .slice (some ⟨w.heap.size + 1 + 1 + 1 + 1, 0, none⟩) 1 1, .slice (some ⟨w.heap.size + 1 + 1 + 1 + 1 + 1 + 1 + 1, 0, none⟩) 1 1, .slice none 0 0, .slice none 0 0, .int .i64 100, .int .i64 200] 69 )).alloc (.cells #[.int .u8 97, .int .u8 98] 5 (2, 3))).alloc (.cells #[.int .u8 99, .int .u8 100] 5 (2, 3))).alloc (.cells #[.int .i64 10, .int .i64 100, .string ⟨#[97, 46, 101, 120, 97, 109, 112, 108, 101, 47, 120]⟩, .string ⟨#[49]⟩, .slice (some ⟨w.heap.size + 1, 0, none⟩) 2 2, .int .i64 50, .int .i64 100, .string ⟨#[97, 46, 101, 120, 97, 109, 112, 108, 101, 47, 120]⟩, .string ⟨#[50]⟩, .slice (some ⟨w.heap.size + 1 + 1, 0, none⟩) 2 2] 86 )).alloc (.cells #[.string ⟨#[101, 120, 97, 99, 116, 32, 48, 32, 97, 46, 101, 120, 97, 109, 112, 108, 101, 47, 120]⟩, .int .i64 o, .int .i64 70] 97 )).alloc (.cells #[.int .u8 97, .int .u8 98] 5 (2, 3))).alloc (.cells #[.int .i64 a, .int .i64 0, .slice (some ⟨w.heap.size + 1 + 1 + 1 + 1 + 1, 0, none⟩) 2 2] 88 )).alloc (.cells #[.string ⟨#[101, 49]⟩, .string ⟨#[97, 46, 101, 120, 97, 109, 112, 108, 101, 47, 120]⟩, .string ⟨#[49]⟩, .int .i64 0, .int .i64 a, .int .i64 a, .int .i64 0, .int .i64 2, .slice none 0 0, .slice (some ⟨w.heap.size + 1 + 1 + 1 + 1 + 1 + 1, 0, none⟩) 1 1, .bool true] 82 )).heap[w.heap.size + 1 + 1]? = some (.cells #[.int .u8 99, .int .u8 100] 5 (2, 3)) := (hb_alloc (hb_alloc (hb_alloc (hb_alloc (hb_alloc (hb_new (by simp)) _) _) _) _) _)
  have h3 : ((((((((w.alloc (.cells #[.slice (some ⟨w.heap.size + 1 + 1 + 1, 0, none⟩) 2 2, .slice (some ⟨w.heap.size + 1 + 1 + 1 + 1, 0, none⟩) 1 1, .slice (some ⟨w.heap.size + 1 + 1 + 1 + 1 + 1 + 1 + 1, 0, none⟩) 1 1, .slice none 0 0, .slice none 0 0, .int .i64 100, .int .i64 200] 69 )).alloc (.cells #[.int .u8 97, .int .u8 98] 5 (2, 3))).alloc (.cells #[.int .u8 99, .int .u8 100] 5 (2, 3))).alloc (.cells #[.int .i64 10, .int .i64 100, .string ⟨#[97, 46, 101, 120, 97, 109, 112, 108, 101, 47, 120]⟩, .string ⟨#[49]⟩, .slice (some ⟨w.heap.size + 1, 0, none⟩) 2 2, .int .i64 50, .int .i64 100, .string ⟨#[97, 46, 101, 120, 97, 109, 112, 108, 101, 47, 120]⟩, .string ⟨#[50]⟩, .slice (some ⟨w.heap.size + 1 + 1, 0, none⟩) 2 2] 86 )).alloc (.cells #[.string ⟨#[101, 120, 97, 99, 116, 32, 48, 32, 97, 46, 101, 120, 97, 109, 112, 108, 101, 47, 120]⟩, .int .i64 o, .int .i64 70] 97 )).alloc (.cells #[.int .u8 97, .int .u8 98] 5 (2, 3))).alloc (.cells #[.int .i64 a, .int .i64 0, .slice (some ⟨w.heap.size + 1 + 1 + 1 + 1 + 1, 0, none⟩) 2 2] 88 )).alloc (.cells #[.string ⟨#[101, 49]⟩, .string ⟨#[97, 46, 101, 120, 97, 109, 112, 108, 101, 47, 120]⟩, .string ⟨#[49]⟩, .int .i64 0, .int .i64 a, .int .i64 a, .int .i64 0, .int .i64 2, .slice none 0 0, .slice (some ⟨w.heap.size + 1 + 1 + 1 + 1 + 1 + 1, 0, none⟩) 1 1, .bool true] 82 )).heap[w.heap.size + 1 + 1 + 1]? = some (.cells #[.int .i64 10, .int .i64 100, .string ⟨#[97, 46, 101, 120, 97, 109, 112, 108, 101, 47, 120]⟩, .string ⟨#[49]⟩, .slice (some ⟨w.heap.size + 1, 0, none⟩) 2 2, .int .i64 50, .int .i64 100, .string ⟨#[97, 46, 101, 120, 97, 109, 112, 108, 101, 47, 120]⟩, .string ⟨#[50]⟩, .slice (some ⟨w.heap.size + 1 + 1, 0, none⟩) 2 2] 86 (0, 0)) := (hb_alloc (hb_alloc (hb_alloc (hb_alloc (hb_new (by simp)) _) _) _) _)
  have h4 : ((((((((w.alloc (.cells #[.slice (some ⟨w.heap.size + 1 + 1 + 1, 0, none⟩) 2 2, .slice (some ⟨w.heap.size + 1 + 1 + 1 + 1, 0, none⟩) 1 1, .slice (some ⟨w.heap.size + 1 + 1 + 1 + 1 + 1 + 1 + 1, 0, none⟩) 1 1, .slice none 0 0, .slice none 0 0, .int .i64 100, .int .i64 200] 69 )).alloc (.cells #[.int .u8 97, .int .u8 98] 5 (2, 3))).alloc (.cells #[.int .u8 99, .int .u8 100] 5 (2, 3))).alloc (.cells #[.int .i64 10, .int .i64 100, .string ⟨#[97, 46, 101, 120, 97, 109, 112, 108, 101, 47, 120]⟩, .string ⟨#[49]⟩, .slice (some ⟨w.heap.size + 1, 0, none⟩) 2 2, .int .i64 50, .int .i64 100, .string ⟨#[97, 46, 101, 120, 97, 109, 112, 108, 101, 47, 120]⟩, .string ⟨#[50]⟩, .slice (some ⟨w.heap.size + 1 + 1, 0, none⟩) 2 2] 86 )).alloc (.cells #[.string ⟨#[101, 120, 97, 99, 116, 32, 48, 32, 97, 46, 101, 120, 97, 109, 112, 108, 101, 47, 120]⟩, .int .i64 o, .int .i64 70] 97 )).alloc (.cells #[.int .u8 97, .int .u8 98] 5 (2, 3))).alloc (.cells #[.int .i64 a, .int .i64 0, .slice (some ⟨w.heap.size + 1 + 1 + 1 + 1 + 1, 0, none⟩) 2 2] 88 )).alloc (.cells #[.string ⟨#[101, 49]⟩, .string ⟨#[97, 46, 101, 120, 97, 109, 112, 108, 101, 47, 120]⟩, .string ⟨#[49]⟩, .int .i64 0, .int .i64 a, .int .i64 a, .int .i64 0, .int .i64 2, .slice none 0 0, .slice (some ⟨w.heap.size + 1 + 1 + 1 + 1 + 1 + 1, 0, none⟩) 1 1, .bool true] 82 )).heap[w.heap.size + 1 + 1 + 1 + 1]? = some (.cells #[.string ⟨#[101, 120, 97, 99, 116, 32, 48, 32, 97, 46, 101, 120, 97, 109, 112, 108, 101, 47, 120]⟩, .int .i64 o, .int .i64 70] 97 (0, 0)) := (hb_alloc (hb_alloc (hb_alloc (hb_new (by simp)) _) _) _)
  have h5 : ((((((((w.alloc (.cells #[.slice (some ⟨w.heap.size + 1 + 1 + 1, 0, none⟩) 2 2, .slice (some ⟨w.heap.size + 1 + 1 + 1 + 1, 0, none⟩) 1 1, .slice (some ⟨w.heap.size + 1 + 1 + 1 + 1 + 1 + 1 + 1, 0, none⟩) 1 1, .slice none 0 0, .slice none 0 0, .int .i64 100, .int .i64 200] 69 )).alloc (.cells #[.int .u8 97, .int .u8 98] 5 (2, 3))).alloc (.cells #[.int .u8 99, .int .u8 100] 5 (2, 3))).alloc (.cells #[.int .i64 10, .int .i64 100, .string ⟨#[97, 46, 101, 120, 97, 109, 112, 108, 101, 47, 120]⟩, .string ⟨#[49]⟩, .slice (some ⟨w.heap.size + 1, 0, none⟩) 2 2, .int .i64 50, .int .i64 100, .string ⟨#[97, 46, 101, 120, 97, 109, 112, 108, 101, 47, 120]⟩, .string ⟨#[50]⟩, .slice (some ⟨w.heap.size + 1 + 1, 0, none⟩) 2 2] 86 )).alloc (.cells #[.string ⟨#[101, 120, 97, 99, 116, 32, 48, 32, 97, 46, 101, 120, 97, 109, 112, 108, 101, 47, 120]⟩, .int .i64 o, .int .i64 70] 97 )).alloc (.cells #[.int .u8 97, .int .u8 98] 5 (2, 3))).alloc (.cells #[.int .i64 a, .int .i64 0, .slice (some ⟨w.heap.size + 1 + 1 + 1 + 1 + 1, 0, none⟩) 2 2] 88 )).alloc (.cells #[.string ⟨#[101, 49]⟩, .string ⟨#[97, 46, 101, 120, 97, 109, 112, 108, 101, 47, 120]⟩, .string ⟨#[49]⟩, .int .i64 0, .int .i64 a, .int .i64 a, .int .i64 0, .int .i64 2, .slice none 0 0, .slice (some ⟨w.heap.size + 1 + 1 + 1 + 1 + 1 + 1, 0, none⟩) 1 1, .bool true] 82 )).heap[w.heap.size + 1 + 1 + 1 + 1 + 1]? = some (.cells #[.int .u8 97, .int .u8 98] 5 (2, 3)) := (hb_alloc (hb_alloc (hb_new (by simp)) _) _)
  have h6 : ((((((((w.alloc (.cells #[.slice (some ⟨w.heap.size + 1 + 1 + 1, 0, none⟩) 2 2, .slice (some ⟨w.heap.size + 1 + 1 + 1 + 1, 0, none⟩) 1 1, .slice (some ⟨w.heap.size + 1 + 1 + 1 + 1 + 1 + 1 + 1, 0, none⟩) 1 1, .slice none 0 0, .slice none 0 0, .int .i64 100, .int .i64 200] 69 )).alloc (.cells #[.int .u8 97, .int .u8 98] 5 (2, 3))).alloc (.cells #[.int .u8 99, .int .u8 100] 5 (2, 3))).alloc (.cells #[.int .i64 10, .int .i64 100, .string ⟨#[97, 46, 101, 120, 97, 109, 112, 108, 101, 47, 120]⟩, .string ⟨#[49]⟩, .slice (some ⟨w.heap.size + 1, 0, none⟩) 2 2, .int .i64 50, .int .i64 100, .string ⟨#[97, 46, 101, 120, 97, 109, 112, 108, 101, 47, 120]⟩, .string ⟨#[50]⟩, .slice (some ⟨w.heap.size + 1 + 1, 0, none⟩) 2 2] 86 )).alloc (.cells #[.string ⟨#[101, 120, 97, 99, 116, 32, 48, 32, 97, 46, 101, 120, 97, 109, 112, 108, 101, 47, 120]⟩, .int .i64 o, .int .i64 70] 97 )).alloc (.cells #[.int .u8 97, .int .u8 98] 5 (2, 3))).alloc (.cells #[.int .i64 a, .int .i64 0, .slice (some ⟨w.heap.size + 1 + 1 + 1 + 1 + 1, 0, none⟩) 2 2] 88 )).alloc (.cells #[.string ⟨#[101, 49]⟩, .string ⟨#[97, 46, 101, 120, 97, 109, 112, 108, 101, 47, 120]⟩, .string ⟨#[49]⟩, .int .i64 0, .int .i64 a, .int .i64 a, .int .i64 0, .int .i64 2, .slice none 0 0, .slice (some ⟨w.heap.size + 1 + 1 + 1 + 1 + 1 + 1, 0, none⟩) 1 1, .bool true] 82 )).heap[w.heap.size + 1 + 1 + 1 + 1 + 1 + 1]? = some (.cells #[.int .i64 a, .int .i64 0, .slice (some ⟨w.heap.size + 1 + 1 + 1 + 1 + 1, 0, none⟩) 2 2] 88 (0, 0)) := (hb_alloc (hb_new (by simp)) _)
  have h7 : ((((((((w.alloc (.cells #[.slice (some ⟨w.heap.size + 1 + 1 + 1, 0, none⟩) 2 2, .slice (some ⟨w.heap.size + 1 + 1 + 1 + 1, 0, none⟩) 1 1, .slice (some ⟨w.heap.size + 1 + 1 + 1 + 1 + 1 + 1 + 1, 0, none⟩) 1 1, .slice none 0 0, .slice none 0 0, .int .i64 100, .int .i64 200] 69 )).alloc (.cells #[.int .u8 97, .int .u8 98] 5 (2, 3))).alloc (.cells #[.int .u8 99, .int .u8 100] 5 (2, 3))).alloc (.cells #[.int .i64 10, .int .i64 100, .string ⟨#[97, 46, 101, 120, 97, 109, 112, 108, 101, 47, 120]⟩, .string ⟨#[49]⟩, .slice (some ⟨w.heap.size + 1, 0, none⟩) 2 2, .int .i64 50, .int .i64 100, .string ⟨#[97, 46, 101, 120, 97, 109, 112, 108, 101, 47, 120]⟩, .string ⟨#[50]⟩, .slice (some ⟨w.heap.size + 1 + 1, 0, none⟩) 2 2] 86 )).alloc (.cells #[.string ⟨#[101, 120, 97, 99, 116, 32, 48, 32, 97, 46, 101, 120, 97, 109, 112, 108, 101, 47, 120]⟩, .int .i64 o, .int .i64 70] 97 )).alloc (.cells #[.int .u8 97, .int .u8 98] 5 (2, 3))).alloc (.cells #[.int .i64 a, .int .i64 0, .slice (some ⟨w.heap.size + 1 + 1 + 1 + 1 + 1, 0, none⟩) 2 2] 88 )).alloc (.cells #[.string ⟨#[101, 49]⟩, .string ⟨#[97, 46, 101, 120, 97, 109, 112, 108, 101, 47, 120]⟩, .string ⟨#[49]⟩, .int .i64 0, .int .i64 a, .int .i64 a, .int .i64 0, .int .i64 2, .slice none 0 0, .slice (some ⟨w.heap.size + 1 + 1 + 1 + 1 + 1 + 1, 0, none⟩) 1 1, .bool true] 82 )).heap[w.heap.size + 1 + 1 + 1 + 1 + 1 + 1 + 1]? = some (.cells #[.string ⟨#[101, 49]⟩, .string ⟨#[97, 46, 101, 120, 97, 109, 112, 108, 101, 47, 120]⟩, .string ⟨#[49]⟩, .int .i64 0, .int .i64 a, .int .i64 a, .int .i64 0, .int .i64 2, .slice none 0 0, .slice (some ⟨w.heap.size + 1 + 1 + 1 + 1 + 1 + 1, 0, none⟩) 1 1, .bool true] 82 (0, 0)) := (hb_new (by simp))
  have HB : Hid (Below w.heap.size w ((((((((w.alloc (.cells #[.slice (some ⟨w.heap.size + 1 + 1 + 1, 0, none⟩) 2 2, .slice (some ⟨w.heap.size + 1 + 1 + 1 + 1, 0, none⟩) 1 1, .slice (some ⟨w.heap.size + 1 + 1 + 1 + 1 + 1 + 1 + 1, 0, none⟩) 1 1, .slice none 0 0, .slice none 0 0, .int .i64 100, .int .i64 200] 69 )).alloc (.cells #[.int .u8 97, .int .u8 98] 5 (2, 3))).alloc (.cells #[.int .u8 99, .int .u8 100] 5 (2, 3))).alloc (.cells #[.int .i64 10, .int .i64 100, .string ⟨#[97, 46, 101, 120, 97, 109, 112, 108, 101, 47, 120]⟩, .string ⟨#[49]⟩, .slice (some ⟨w.heap.size + 1, 0, none⟩) 2 2, .int .i64 50, .int .i64 100, .string ⟨#[97, 46, 101, 120, 97, 109, 112, 108, 101, 47, 120]⟩, .string ⟨#[50]⟩, .slice (some ⟨w.heap.size + 1 + 1, 0, none⟩) 2 2] 86 )).alloc (.cells #[.string ⟨#[101, 120, 97, 99, 116, 32, 48, 32, 97, 46, 101, 120, 97, 109, 112, 108, 101, 47, 120]⟩, .int .i64 o, .int .i64 70] 97 )).alloc (.cells #[.int .u8 97, .int .u8 98] 5 (2, 3))).alloc (.cells #[.int .i64 a, .int .i64 0, .slice (some ⟨w.heap.size + 1 + 1 + 1 + 1 + 1, 0, none⟩) 2 2] 88 )).alloc (.cells #[.string ⟨#[101, 49]⟩, .string ⟨#[97, 46, 101, 120, 97, 109, 112, 108, 101, 47, 120]⟩, .string ⟨#[49]⟩, .int .i64 0, .int .i64 a, .int .i64 a, .int .i64 0, .int .i64 2, .slice none 0 0, .slice (some ⟨w.heap.size + 1 + 1 + 1 + 1 + 1 + 1, 0, none⟩) 1 1, .bool true] 82 ))) := Lib.hid (((((((((Below.refl _ _).alloc (by simp <;> omega) _).alloc (by simp <;> omega) _).alloc (by simp <;> omega) _).alloc (by simp <;> omega) _).alloc (by simp <;> omega) _).alloc (by simp <;> omega) _).alloc (by simp <;> omega) _).alloc (by simp <;> omega) _)
  refine bodyPost_ret (v := .agg #[.slice (some ⟨w.heap.size + 1 + 1 + 1, 0, none⟩) 2 2, .slice (some ⟨w.heap.size + 1 + 1 + 1 + 1, 0, none⟩) 1 1, .slice (some ⟨w.heap.size + 1 + 1 + 1 + 1 + 1 + 1 + 1, 0, none⟩) 1 1, .slice none 0 0, .slice none 0 0, .int .i64 100, .int .i64 200]) (by simp [results, Tryz.results54, go_sem]) rfl ?_
  clear hn0
  have b1 := bytes_bx [97, 98] h1 rfl (c := 2) (n := 2) (by decide) rfl
  have b2 := bytes_bx [99, 100] h2 rfl (c := 2) (n := 2) (by decide) rfl
  have b5 := bytes_bx [97, 98] h5 rfl (c := 2) (n := 2) (by decide) rfl
  refine ⟨_, _, _, _, _, .slice (some ⟨w.heap.size + 1, 0, none⟩) 2 2, .slice (some ⟨w.heap.size + 1 + 1, 0, none⟩) 2 2, .slice (some ⟨w.heap.size + 1 + 1 + 1 + 1 + 1, 0, none⟩) 2 2, .slice (some ⟨w.heap.size + 1 + 1 + 1 + 1 + 1 + 1, 0, none⟩) 1 1, rfl, ?_, HB.out⟩
  refine ⟨rows_bx h3 rfl pubR_len (by simp [exM]) rfl, by simp [exM, exX, exT], fun p hp => ?_, rows_bx h4 rfl prgR_len (by simp [exM]) rfl, by simp [exM, exX, exT], fun g hg => ?_, rows_bx h7 rfl srvR_len (by simp [exM]) rfl, by simp [exM, exX, exT], fun x hx => ?_, .inl ⟨rfl, .inl rfl⟩, by simp [exM, exX, exT], fun f hf => (by cases hf), .inl ⟨rfl, .inl rfl⟩, by simp [exM, exX, exT], fun d hd => (by cases hd)⟩
  · simp [exM] at hp
    rcases hp with rfl | rfl
    · exact ⟨by simp [exM, exX, exT], by simp [exM, exX, exT], Sg.rows_src b1, by simp [exM, exX, exT], b1⟩
    · exact ⟨by simp [exM, exX, exT], by simp [exM, exX, exT], Sg.rows_src b2, by simp [exM, exX, exT], b2⟩
  · simp [exM] at hg
    subst hg
    exact (by simp [exM, exX, exT] : exT.length ≤ 20)
  · simp [exM] at hx
    subst hx
    refine ⟨by simp [exM, exX, exT], by simp [exM, exX, exT], by simp [exM, exX, exT], .inl ⟨rfl, .inl rfl⟩, by simp [exM, exX, exT], fun t ht => (by cases ht), rows_bx h6 rfl partR_len (by simp [exM]) rfl, by simp [exM, exX, exT], fun y hy => ?_⟩
    simp at hy
    subst hy
    exact ⟨Sg.rows_src b5, by simp [exM, exX, exT]⟩
theorem awake58_any (w : World) (hr : Ready w) (hpw : ParseAt w) : Calls Tryz.prog 29 #[] w fun e w' => e = .returned (.bool true) ∧ Below w.heap.size w w' := by
  have HRY := Lib.hid hr
  have HPW := Lib.hid hpw
  clear hr hpw
  go_enter Tryz.func29, Tryz.ntmps29
  go_wp2_with fail
  refine (example_any 149 60 _).mono ?_
  rintro e w1 ⟨va, vb, vc, vd, ve, v1, v2, v3, v4, rfl, ha1, hb1⟩
  have HB1 := Lib.hid hb1
  have HA1 := Lib.hid ha1
  clear ha1 hb1
  go_wp2_with fail
  refine (check_any (exM v1 v2 v3 v4 149 60) va vb vc vd ve 20 _ (HRY.out.below HB1.out) (HPW.out.below HB1.out) HA1.out (ex_small v1 v2 v3 v4 (by decide) (by decide)) (by decide)).mono ?_
  rw [ex_one]
  rintro e w2 ⟨u2, rfl, ho2, hb2⟩
  have HB2 := Lib.hid (HB1.out.trans (hb2.mono HB1.out.size))
  obtain ⟨g, o, c, hu, _, _, _, hgz, hcell⟩ := ho2.cells (by decide)
  subst hu
  have r0 := hcell 0 (.int .i64 1) rfl
  rw [Nat.add_zero] at r0
  clear hb2 ho2 hcell HA1 HB1
  rw [show ([(⟨1, 0, tx1⟩ : VioM)]).length = 1 from rfl]
  go_wp2_with fail
  clear r0 hgz
  refine (example_any 149 49 _).mono ?_
  rintro e w3 ⟨xa, xb, xc, xd, xe, x1, x2, x3, x4, rfl, ha3, hb3⟩
  have HBX3 := Lib.hid (HB2.out.trans (hb3.mono HB2.out.size))
  have HAX3 := Lib.hid ha3
  clear ha3 hb3
  go_wp2_with fail
  refine (check_any (exM x1 x2 x3 x4 149 49) xa xb xc xd xe 20 _ (HRY.out.below HBX3.out) (HPW.out.below HBX3.out) HAX3.out (ex_small x1 x2 x3 x4 (by decide) (by decide)) (by decide)).mono ?_
  rw [ex_two, show ([] : List VioM).length = 0 from rfl]
  rintro e w4 ⟨u4, rfl, ho4, hb4⟩
  have HB4 := Lib.hid (HBX3.out.trans (hb4.mono HBX3.out.size))
  obtain ⟨ya, yc, rfl, _⟩ := ho4.form
  clear hb4 ho4 HAX3 HBX3
  go_wp2_with fail
  refine (example_any 150 49 _).mono ?_
  rintro e w5 ⟨ya5, yb5, yc5, yd5, ye5, y1, y2, y3, y4, rfl, ha5, hb5⟩
  have HBX5 := Lib.hid (HB4.out.trans (hb5.mono HB4.out.size))
  have HAX5 := Lib.hid ha5
  clear ha5 hb5
  go_wp2_with fail
  refine (check_any (exM y1 y2 y3 y4 150 49) ya5 yb5 yc5 yd5 ye5 20 _ (HRY.out.below HBX5.out) (HPW.out.below HBX5.out) HAX5.out (ex_small y1 y2 y3 y4 (by decide) (by decide)) (by decide)).mono ?_
  rw [ex_three]
  rintro e w6 ⟨u6, rfl, ho6, hb6⟩
  have HB6 := Lib.hid (HBX5.out.trans (hb6.mono HBX5.out.size))
  obtain ⟨za, zc, rfl, _⟩ := ho6.form
  clear hb6 ho6 HAX5 HBX5
  go_wp2_with fail
  go_ret
  exact ⟨rfl, HB6.out⟩
end Hy
end Go.Proofs.YtjijijjkkhpjnaaGreatDoor
end

section
namespace Go.Proofs.YtjijijjkkhpjnaaGreatDoor
open Go.RowKit Pl Ad
set_option maxRecDepth 100000
set_option linter.unusedVariables false
namespace A1
theorem und_vi : Tryz.prog.underlying 90 = some (.struct (Tryz.prog.fieldsOf 90)) := by rfl
theorem held_vi : Tryz.prog.stoodInHeld 90 = false := by decide +kernel
theorem eql_vi (k t k' t' : Int) (v v' : Bs) (w : World) : (binOp .eql 90 (.agg #[.int .i64 k, .int .i64 t, .string ⟨v.toArray⟩]) (.agg #[.int .i64 k', .int .i64 t', .string ⟨v'.toArray⟩])).run Tryz.prog w = .ok (.bool (k == k' && (t == t' && v == v'))) w := by
  rw [run_eql_struct, run_equalIn_agg w 9999 _ _ _ und_vi held_vi]
  simp [go_sem]
  by_cases h1 : k = k' <;> by_cases h2 : t = t' <;> by_cases h3 : v = v' <;> simp [h1, h2, h3]
end A1
namespace Hy
end Hy
end Go.Proofs.YtjijijjkkhpjnaaGreatDoor
end

section
namespace Go.Proofs.YtjijijjkkhpjnaaGreatDoor
open Go.RowKit Pl Ad
set_option maxRecDepth 100000
set_option linter.unusedVariables false
namespace Hy
open A1 Kr
/-- What a slice type's tables say. -/
structure WideTy (P : Program) (T e : TypeId) (size bytes : Nat) : Prop where
  under : P.underlying T = some (.slice e)
  info : ∃ i z, P.info? e = some i ∧ i.zero = some z ∧ i.size = size ∧ i.bytes = bytes ∧ z.cells.size = size
  pos : 0 < size
  small : bytes ≤ 1024
section
variable {P : Program} {T e : TypeId} {size bytes : Nat} (ty : WideTy P T e size bytes)
include ty
theorem wp_appB {o : Oper} {a : Act} {w : World} {K : Act → World → Prop} {Q : Exit → Act → World → Prop} (s x : Operand)
    (ho : o.op = .call { callee := .builtin .append, args := #[s, x], argTypes := #[T, T] })
    (B : Nat) (v : Value) (n : Nat) (xs : List Value) (hs : a.eval s = v) (hown : OwnWin w B e size v n xs) (hB : B ≤ w.heap.size)
    (u : Value) (m : Nat) (C : List Value) (hx : a.eval x = u) (hC : SrcAt w u m C) (hl : C.length = m * size) (h1 : ∀ u ∈ C, u.oneCell' = true)
    (hn : n + m ≤ 100000000)
    (h : ∀ v' w', OwnWin w' B e size v' (n + m) (xs ++ C) → w.grownBy w' v.ownBlock → (v'.ownBlock = v.ownBlock ∨ v'.ownBlock = some w.heap.size) → K (a.put o.dst v') w') : o.wp P a w K Q := by
  obtain ⟨i, z, hi, hz, hsize, hby, hzs⟩ := ty.info
  have hsm := ty.small
  obtain ⟨v', w', hr, h2, h3, h4, _⟩ := run_append_win (P := P) w B T o.type e i z size bytes ty.under hi hz hsize hby hzs ty.pos v n xs hown u m C hl hC h1 (by unfold maxLen; omega) (by
    calc (n + m) * bytes ≤ 100000000 * 1024 := Nat.mul_le_mul hn hsm
      _ ≤ 140737488355328 := by decide) hB
  unfold Oper.wp execOp
  simp only [ho, resolve, invoke, builtin, Sem.run_bind, Sem.run_pure, Result.andThen_ok, List.map_toArray, List.map_cons, List.map_nil, hs, hx, hr]
  exact h v' w' h2 h3 h4
theorem step_appB {ops : Array Oper} {o : Oper} {a : Act} {w : World} {K : Act → World → Prop} {Q : Exit → Act → World → Prop} {E : Prop} (hgd : o.guard = none) (s x : Operand)
    (ho : o.op = .call { callee := .builtin .append, args := #[s, x], argTypes := #[T, T] })
    (B : Nat) (v : Value) (n : Nat) (xs : List Value) (hs : a.eval s = v) (hown : OwnWin w B e size v n xs) (hB : B ≤ w.heap.size)
    (u : Value) (m : Nat) (C : List Value) (hx : a.eval x = u) (hC : SrcAt w u m C) (hl : C.length = m * size) (h1 : ∀ u ∈ C, u.oneCell' = true)
    (hn : n + m ≤ 100000000)
    (h : ∀ v' w', OwnWin w' B e size v' (n + m) (xs ++ C) → w.grownBy w' v.ownBlock → (v'.ownBlock = v.ownBlock ∨ v'.ownBlock = some w.heap.size) → K (a.put o.dst v') w') :
    if Region.wanted o (yielded ops a.tmps) = true then Oper.wp P o a w K Q else E := by
  have hw : Region.wanted o (yielded ops a.tmps) = true := by simp [Region.wanted, hgd]
  rw [if_pos hw]
  exact wp_appB ty s x ho B v n xs hs hown hB u m C hx hC hl h1 hn h
end
end Hy
end Go.Proofs.YtjijijjkkhpjnaaGreatDoor
end

section
namespace Go.Proofs.YtjijijjkkhpjnaaGreatDoor
open Go.RowKit Pl
set_option maxRecDepth 100000
set_option maxHeartbeats 1000000
set_option linter.unusedVariables false
namespace Hy
open Go.ChangeShapes Go.WideShapes Go.Deep A1
theorem open_his {H : Type} {enc : TypeId × Value → H} {w : World} {base B : Nat} {spare : Nat → Bool} {held : Bool} {v : Value} {d : DataW H} {p : List MemPlace} {r : Reach} {b0 : Nat}
    (hv : Value.okWide Tryz.prog w r b0 69 v) (h : DataW.Trod enc Tryz.prog w base spare held 69 v d p) (hB : Rows.uptoBulk d ≤ B) :
    ∃ (va vb vc vd ve : Value) (h : HisM), v = .agg #[va, vb, vc, vd, ve, .int .i64 h.bound, .int .i64 h.fin] ∧ HisAt w B va vb vc vd ve h := by
  obtain ⟨cs, rfl, hsz⟩ := okWide_struct Tryz.underlying69 hv
  obtain ⟨fuel, hf0⟩ := h
  obtain ⟨xs, m, _, hy, _, hlen, hf⟩ := DataW.trod_struct Tryz.underlying69 hf0
  obtain ⟨l⟩ := cs
  have hl : l.length = 7 := (show l.length = _ from by simpa using hsz).trans (show Tryz.prog.cellsOf 69 = 7 by kernel_rfl)
  match l, hl with
  | [c0, c1, c2, c3, c4, c5, c6], _ =>
    have hln : xs.length = 7 := hlen
    match xs, hln with
    | [y0, y1, y2, y3, y4, y5, y6], _ =>
      have g0 : DataW.trod enc Tryz.prog w base spare held m 63 [c0] = some y0 := hf 0 _ rfl
      have g1 : DataW.trod enc Tryz.prog w base spare held m 64 [c1] = some y1 := hf 1 _ rfl
      have g2 : DataW.trod enc Tryz.prog w base spare held m 65 [c2] = some y2 := hf 2 _ rfl
      have g3 : DataW.trod enc Tryz.prog w base spare held m 66 [c3] = some y3 := hf 3 _ rfl
      have g4 : DataW.trod enc Tryz.prog w base spare held m 67 [c4] = some y4 := hf 4 _ rfl
      have g5 : DataW.trod enc Tryz.prog w base spare held m 3 [c5] = some y5 := hf 5 _ rfl
      have g6 : DataW.trod enc Tryz.prog w base spare held m 3 [c6] = some y6 := hf 6 _ rfl
      have hb : Rows.uptoBulk (DataW.agg [y0.1, y1.1, y2.1, y3.1, y4.1, y5.1, y6.1] : DataW H) ≤ B := by have h9 := congrArg Prod.fst hy; simp only [List.map_cons, List.map_nil] at h9; rw [← h9]; exact hB
      simp only [Rows.uptoBulk, Rows.uptoBulkAll] at hb
      obtain ⟨x0, r0, l0, k0⟩ := Op.pubs_trodB g0 (B := B) (by omega)
      obtain ⟨x1, r1, l1, k1⟩ := Op.prgs_trodB g1 (B := B) (by omega)
      obtain ⟨x2, r2, l2, k2⟩ := Op.srvs_trodB g2 (B := B) (by omega)
      obtain ⟨x3, r3, l3, k3⟩ := Op.fets_trodB g3 (B := B) (by omega)
      obtain ⟨x4, r4, l4, k4⟩ := Op.dros_trodB g4 (B := B) (by omega)
      obtain ⟨k5, e5, _, _⟩ := DataW.trod_int Tryz.underlying3 g5
      have e5' : [c5] = [Value.int .i64 k5] := e5
      cases e5'
      obtain ⟨k6, e6, _, _⟩ := DataW.trod_int Tryz.underlying3 g6
      have e6' : [c6] = [Value.int .i64 k6] := e6
      cases e6'
      exact ⟨c0, c1, c2, c3, c4, ⟨x0, x1, x2, x3, x4, k5, k6⟩, rfl, ⟨r0, l0, k0, r1, l1, k1, r2, l2, k2, r3, l3, k3, r4, l4, k4⟩⟩
end Hy
end Go.Proofs.YtjijijjkkhpjnaaGreatDoor
end

section
namespace Go.Proofs.YtjijijjkkhpjnaaGreatDoor
open Go.RowKit Pl Ad
set_option maxRecDepth 100000
set_option maxHeartbeats 1000000
set_option linter.unusedVariables false
namespace Hy
open A1 Kr
section
variable {α : Type} {F : α → List Value} {K : Nat} {w : World} {xs : List α}
end
/-- A history's parts changed: the small bounds stay. -/
theorem Small.srvs {h : HisM} (k : h.Small) {l : List SrvM} (hl : l.length ≤ 1000) (hs : ∀ s ∈ l, inB s.at_ ∧ inB s.ask ∧ ∀ x ∈ s.parts, inB x.at_) : ({ h with srvs := l } : HisM).Small :=
  ⟨k.pubs, k.prgs, hs, k.fets, k.dros, k.bound, k.fin, k.npub, k.nprg, hl, k.nfet, k.ndro⟩
theorem Small.prgs {h : HisM} (k : h.Small) {l : List PrgM} (hl : l.length ≤ 1000) (hs : ∀ g ∈ l, inB g.ord ∧ inB g.stl) : ({ h with prgs := l } : HisM).Small :=
  ⟨k.pubs, hs, k.srvs, k.fets, k.dros, k.bound, k.fin, k.npub, hl, k.nsrv, k.nfet, k.ndro⟩
theorem Small.fets {h : HisM} (k : h.Small) {l : List FetM} (hl : l.length ≤ 1000) (hs : ∀ g ∈ l, inB g.at_) : ({ h with fets := l } : HisM).Small :=
  ⟨k.pubs, k.prgs, k.srvs, hs, k.dros, k.bound, k.fin, k.npub, k.nprg, k.nsrv, hl, k.ndro⟩
end Hy
end Go.Proofs.YtjijijjkkhpjnaaGreatDoor
end

section
namespace Go.Proofs.YtjijijjkkhpjnaaGreatDoor
open Pl Ad
namespace Hy
/-- Does an element from number k on meet a condition? -/
def anyF {α : Type} (c : Nat → α → Bool) : List α → Nat → Bool
  | [], _ => false
  | x :: r, k => c k x || anyF c r (k + 1)
theorem anyF_drop {α : Type} {c : Nat → α → Bool} {l : List α} {k : Nat} {x : α} (h : l[k]? = some x) : anyF c (l.drop k) k = (c k x || anyF c (l.drop (k + 1)) (k + 1)) := by
  obtain ⟨hk, rfl⟩ := List.getElem?_eq_some_iff.1 h
  rw [List.drop_eq_getElem_cons hk]; rfl
theorem anyF_end {α : Type} {c : Nat → α → Bool} {l : List α} {k : Nat} (h : l.length ≤ k) : anyF c (l.drop k) k = false := by
  rw [List.drop_eq_nil_of_le h]; rfl
theorem anyF_iff {α : Type} {c : Nat → α → Bool} : ∀ {l : List α} {k : Nat}, anyF c l k = true ↔ ∃ (j : Nat) (x : α), l[j]? = some x ∧ c (k + j) x = true
  | [], k => by simp [anyF]
  | y :: r, k => by
    unfold anyF
    rw [Bool.or_eq_true, anyF_iff (l := r) (k := k + 1)]
    constructor
    · rintro (h | ⟨j, x, h1, h2⟩)
      · exact ⟨0, y, rfl, h⟩
      · exact ⟨j + 1, x, by simpa using h1, by rw [show k + (j + 1) = k + 1 + j by omega]; exact h2⟩
    · rintro ⟨j, x, h1, h2⟩
      cases j with
      | zero => left; simp at h1; subst h1; exact h2
      | succ j => right; exact ⟨j, x, by simpa using h1, by rw [show k + 1 + j = k + (j + 1) by omega]; exact h2⟩
def endK (ps : List PubM) (a : Bs) (k : Nat) : Int := match fstI ps a k with
  | none => 2305843009213693953
  | some j => ((ps[j]?).map (·.at_)).getD 0
theorem endK_end {ps : List PubM} {a : Bs} {k : Nat} (h : ps.length ≤ k) : endK ps a k = 2305843009213693953 := by unfold endK; rw [fstI_end h]
theorem endK_hit {ps : List PubM} {a : Bs} {k : Nat} {q : PubM} (h : ps[k]? = some q) (ha : q.addr = a) : endK ps a k = q.at_ := by unfold endK; rw [fstI_hit h ha]; simp [h]
theorem endK_miss {ps : List PubM} {a : Bs} {k : Nat} {q : PubM} (h : ps[k]? = some q) (ha : ¬ q.addr = a) : endK ps a k = endK ps a (k + 1) := by unfold endK; rw [fstI_miss h ha]
/-- When an element ends to be current. -/
def endN (ps : List PubM) (i : Nat) : Int := (endO ps i).getD 2305843009213693953
theorem endN_at {ps : List PubM} {i : Nat} {p : PubM} (h : ps[i]? = some p) : endN ps i = endK ps p.addr (i + 1) := by
  unfold endN endK
  cases h2 : fstI ps p.addr (i + 1) with
  | none => rw [endO_none h h2]; rfl
  | some k =>
    have hk := fstI_lt h2
    have h3 : ps[k]? = some ps[k] := List.getElem?_eq_getElem hk.2
    rw [endO_some h h2 h3]; simp [h3]
theorem endN_in {ps : List PubM} {i : Nat} {p : PubM} (h : ps[i]? = some p) (hb : ∀ q ∈ ps, inB q.at_) : -1152921504606846976 ≤ endN ps i ∧ endN ps i ≤ 2305843009213693953 := by
  rw [endN_at h]
  unfold endK
  cases h2 : fstI ps p.addr (i + 1) with
  | none => simp only; omega
  | some k =>
    have hk := fstI_lt h2
    have h3 : ps[k]? = some ps[k] := List.getElem?_eq_getElem hk.2
    have := hb _ (List.getElem_mem hk.2)
    unfold inB at this
    simp only [h3, Option.map_some, Option.getD_some]; omega
def knownB (ps : List PubM) (a t : Bs) : Bool := anyF (fun _ p => isV p a t) ps 0
def sinceB (ps : List PubM) (a t : Bs) (f : Int) : Bool := anyF (fun j p => isV p a t && decide (max p.at_ f < endN ps j)) ps 0
theorem known_vers {ps : List PubM} {a t : Bs} : knownB ps a t = !(versM ps a t).isEmpty := by
  rw [Bool.eq_iff_iff]
  unfold knownB
  rw [anyF_iff]
  constructor
  · rintro ⟨j, p, h1, h2⟩
    have : j ∈ versM ps a t := versM_mem.2 ⟨p, h1, h2⟩
    cases hv : versM ps a t with
    | nil => rw [hv] at this; cases this
    | cons x r => rfl
  · intro h
    cases hv : versM ps a t with
    | nil => rw [hv] at h; cases h
    | cons x r =>
      obtain ⟨p, h1, h2⟩ := versM_mem.1 (show x ∈ versM ps a t by rw [hv]; exact List.mem_cons_self ..)
      exact ⟨x, p, h1, h2⟩
end Hy
end Go.Proofs.YtjijijjkkhpjnaaGreatDoor
end

