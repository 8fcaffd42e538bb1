/- Contracts and plain facts that the statement's proof leans on (texts joined). No condition beyond those that each names. -/
import Derived.Lib.SmallJoins
import Derived.Laws.StructEq
import Derived.Test.YtjijijjkkhpjnaaGreatDoorQdG
import Derived.Test.YtjijijjkkhpjnaaGreatDoorQdM
section
namespace Go.Proofs.YtjijijjkkhpjnaaGreatDoor
open Go.RowKit Pl Ad
attribute [local go_sem] ba_get ba_append ba_extract conv_one
set_option maxRecDepth 100000
set_option maxHeartbeats 4000000
set_option linter.unusedVariables false
set_option linter.unusedSimpArgs false
namespace Hy
open A1 Kr
theorem bey (h : HisM) (va vb vc vd ve : Value) (bound fin : Int) (B : Nat) (w : World) (h1 : h.bound = bound) (h2 : h.fin = fin) (ha : HisAt w B va vb vc vd ve h) (hls : Lens h) (hB : B ≤ 134217728) :
    Calls Tryz.prog 53 #[.agg #[va, vb, vc, vd, ve, .int .i64 bound, .int .i64 fin]] w (SmallIf h w) := by
  subst h1 h2
  exact beyond_any h va vb vc vd ve B w ha hls hB
theorem large_any (h : HisM) (va vb vc vd ve : Value) (B : Nat) (w : World) (ha : HisAt w B va vb vc vd ve h) (hB : B ≤ 134217728) :
    Calls Tryz.prog 28 #[.agg #[va, vb, vc, vd, ve, .int .i64 h.bound, .int .i64 h.fin]] w (SmallIf h w) := by
  obtain ⟨ps, gs, ss, fs, ds, bound, fin⟩ := h
  obtain ⟨pa, pc, rfl, _⟩ := ha.pubs.form
  obtain ⟨ga, gc, rfl, _⟩ := ha.prgs.form
  obtain ⟨sa, sc, rfl, _⟩ := ha.srvs.form
  obtain ⟨fa, fc, rfl, _⟩ := ha.fets.form
  obtain ⟨da, dc, rfl, _⟩ := ha.dros.form
  simp only at ha ⊢
  have HPL := Lib.hid (Nat.le_trans ha.npub hB)
  have HSL := Lib.hid (Nat.le_trans ha.nsrv hB)
  simp only at HPL HSL
  obtain ⟨h, hh⟩ : ∃ h : HisM, (⟨ps, gs, ss, fs, ds, bound, fin⟩ : HisM) = h := ⟨_, rfl⟩
  have HH : Hid (h.pubs = ps ∧ h.prgs = gs ∧ h.srvs = ss ∧ h.fets = fs ∧ h.dros = ds ∧ h.bound = bound ∧ h.fin = fin) := Lib.hid (by rw [← hh]; exact ⟨rfl, rfl, rfl, rfl, rfl, rfl, rfl⟩)
  have HHE := Lib.hid hh
  rw [hh]
  have HA := Lib.hid ha
  have HBB := Lib.hid hB
  have HB0 := Lib.hid ((Below.refl w.heap.size w).alloc (Nat.le_refl _) (.cells #[.slice pa ps.length pc, .slice ga gs.length gc, .slice sa ss.length sc, .slice fa fs.length fc, .slice da ds.length dc, .int .i64 bound, .int .i64 fin] 69))
  have HXH := Lib.hid (Bx.new w 69 #[.slice pa ps.length pc, .slice ga gs.length gc, .slice sa ss.length sc, .slice fa fs.length fc, .slice da ds.length dc, .int .i64 bound, .int .i64 fin])
  clear ha hB hh
  go_enter Tryz.func28, Tryz.ntmps28
  go_wp2_with fail
  obtain ⟨w1, hw1⟩ : ∃ z, w.alloc (.cells #[.slice pa ps.length pc, .slice ga gs.length gc, .slice sa ss.length sc, .slice fa fs.length fc, .slice da ds.length dc, .int .i64 bound, .int .i64 fin] 69) = z := ⟨_, rfl⟩
  obtain ⟨b0, hb0⟩ : ∃ z, w.heap.size = z := ⟨_, rfl⟩
  rw [hw1] at HB0 HXH ⊢
  rw [hb0] at HXH ⊢
  clear hw1 hb0
  go_loopg [13, 3] ps.length (fun gq iv nv wr => ∃ (k : Nat) (n : Int), iv = .int .i64 k ∧ nv = .int .i64 n ∧ k ≤ ps.length ∧ Hid (ps.length ≤ gq + k) ∧ Hid (Below w1.heap.size w1 wr))
  case atStart => exact ⟨0, 0, rfl, rfl, Nat.zero_le _, Lib.hid (by omega), Lib.hid (Below.refl _ _)⟩
  case round =>
    obtain ⟨k, n, rfl, rfl, hk, HQ, HBW⟩ := hrel
    have h0 := (HXH.out.older HBW.out).cell (i := 0) rfl
    have h1 := (HXH.out.older HBW.out).cell (i := 1) rfl
    have h2 := (HXH.out.older HBW.out).cell (i := 2) rfl
    have h3 := (HXH.out.older HBW.out).cell (i := 3) rfl
    have h4 := (HXH.out.older HBW.out).cell (i := 4) rfl
    have h5 := (HXH.out.older HBW.out).cell (i := 5) rfl
    have h6 := (HXH.out.older HBW.out).cell (i := 6) rfl
    have hz0 := (HXH.out.older HBW.out).lt
    by_cases hlt : k < ps.length
    · have HLT := Lib.hid hlt
      have hkb : k < 134217728 := by have := HPL.out; omega
      obtain ⟨x, hxk⟩ : ∃ x, ps[k]? = some x := ⟨_, List.getElem?_eq_getElem hlt⟩
      have hxa := HA.out.pub x (List.mem_of_getElem? hxk)
      obtain ⟨b3, o3, e3, _, _, hrow⟩ := row_at (HA.out.below (HB0.out.trans (HBW.out.mono HB0.out.size))).pubs hxk
      cases e3
      obtain ⟨pat, plim, padr, ptag, pbv, pbody⟩ := x
      obtain ⟨ba, bc, hbv⟩ := Sg.src_form hxa.2.2.1
      simp only at hbv
      subst hbv
      have d0 := hrow 0 _ rfl
      have d1 := hrow 1 _ rfl
      have d2 := hrow 2 _ rfl
      have d3 := hrow 3 _ rfl
      have d4 := hrow 4 _ rfl
      rw [Nat.add_zero] at d0
      have hb3 := World.block_lt_of_cell? _ _ d0
      simp only at hb3
      have HBX := Lib.hid (HBW.out.alloc HBW.out.size (.cells #[.int .i64 pat, .int .i64 plim, .string ⟨padr.toArray⟩, .string ⟨ptag.toArray⟩, .slice ba pbody.length bc] 86))
      clear hxa hrow hxk
      go_wp2_with fail
      go_roundg (gk - 1)
      case rel => exact ⟨k + 1, _, by go_num, rfl, by have := HLT.out; omega, Lib.hid (by have := HQ.out; omega), HBX⟩
      case measure => have := HQ.out; have := HLT.out; omega
    · skip
      obtain rfl : k = ps.length := by omega
      go_wp2_with fail
      go_loopg [30, 3] ss.length (fun gq iv nv wr => ∃ (k : Nat) (n : Int), iv = .int .i64 k ∧ nv = .int .i64 n ∧ k ≤ ss.length ∧ Hid (ss.length ≤ gq + k) ∧ Hid (Below w1.heap.size w1 wr))
      case atStart => exact ⟨0, n, rfl, rfl, Nat.zero_le _, Lib.hid (by omega), HBW⟩
      case round =>
        clear HBW HQ n hk h0 h1 h2 h3 h4 h5 h6 hz0
        obtain ⟨k, n, rfl, rfl, hk, HQ, HBW⟩ := hrel
        obtain ⟨NQ, hNQ⟩ : ∃ z, gk = z := ⟨_, rfl⟩
        have HNQ := Lib.hid hNQ
        clear hNQ
        have h0 := (HXH.out.older HBW.out).cell (i := 0) rfl
        have h1 := (HXH.out.older HBW.out).cell (i := 1) rfl
        have h2 := (HXH.out.older HBW.out).cell (i := 2) rfl
        have h3 := (HXH.out.older HBW.out).cell (i := 3) rfl
        have h4 := (HXH.out.older HBW.out).cell (i := 4) rfl
        have h5 := (HXH.out.older HBW.out).cell (i := 5) rfl
        have h6 := (HXH.out.older HBW.out).cell (i := 6) rfl
        have hz0 := (HXH.out.older HBW.out).lt
        by_cases hlt : k < ss.length
        · have HLT := Lib.hid hlt
          have hkb : k < 134217728 := by have := HSL.out; omega
          obtain ⟨x, hxk⟩ : ∃ x, ss[k]? = some x := ⟨_, List.getElem?_eq_getElem hlt⟩
          have HAW := Lib.hid (HA.out.below (HB0.out.trans (HBW.out.mono HB0.out.size)))
          have hsr := HAW.out.srv x (List.mem_of_getElem? hxk)
          have HSR := Lib.hid hsr
          have hsr0 := HA.out.srv x (List.mem_of_getElem? hxk)
          obtain ⟨b3, o3, e3, _, _, hrow⟩ := row_at HAW.out.srvs hxk
          cases e3
          obtain ⟨edge, sadr, stag, ten, ask, at_, frm, til, tgv, tags, ptv, parts, ended⟩ := x
          obtain ⟨ta, tc, htv⟩ := hsr.2.2.2.1.form
          obtain ⟨qa, qc, hqv, _⟩ := hsr.2.2.2.2.2.2.1.form
          simp only at htv hqv
          subst htv hqv
          have d0 := hrow 0 _ rfl
          have d1 := hrow 1 _ rfl
          have d2 := hrow 2 _ rfl
          have d3 := hrow 3 _ rfl
          have d4 := hrow 4 _ rfl
          have d5 := hrow 5 _ rfl
          have d6 := hrow 6 _ rfl
          have d7 := hrow 7 _ rfl
          have d8 := hrow 8 _ rfl
          have d9 := hrow 9 _ rfl
          have d10 := hrow 10 _ rfl
          rw [Nat.add_zero] at d0
          have hb3 := World.block_lt_of_cell? _ _ d0
          simp only at hb3
          have HBX := Lib.hid (HBW.out.alloc HBW.out.size (.cells #[.string ⟨edge.toArray⟩, .string ⟨sadr.toArray⟩, .string ⟨stag.toArray⟩, .int .i64 ten, .int .i64 ask, .int .i64 at_, .int .i64 frm, .int .i64 til, .slice ta tags.length tc, .slice qa parts.length qc, .bool ended] 82))
          have HPQ := Lib.hid hsr0.2.2.2.2.2.2.1
          clear hsr hrow hxk hsr0
          go_wp2_with fail
          clear d0 d1 d2 d3 d4 d5 d6 d7 d8 d9 d10 hb3
          go_loopg [50, 3] parts.length (fun gq jv nv wr => ∃ (j : Nat) (m : Int), jv = .int .i64 j ∧ nv = .int .i64 m ∧ j ≤ parts.length ∧ Hid (parts.length ≤ gq + j) ∧ Hid (Below w1.heap.size w1 wr))
          case atStart => exact ⟨0, _, rfl, rfl, Nat.zero_le _, Lib.hid (by omega), HBX⟩
          case round =>
            obtain ⟨j, m, rfl, rfl, hj, HQ2, HBV⟩ := hrel
            by_cases hjl : j < parts.length
            · have HJL := Lib.hid hjl
              have hjb : j < 134217728 := by have h91 := HSR.out.2.2.2.2.2.2.2.1; have := HBB.out; simp only at h91; omega
              obtain ⟨x, hxj⟩ : ∃ x, parts[j]? = some x := ⟨_, List.getElem?_eq_getElem hjl⟩
              have hxa := HSR.out.2.2.2.2.2.2.2.2 x (List.mem_of_getElem? hxj)
              obtain ⟨b5, o5, e5, _, _, hrow⟩ := row_at (HPQ.out.below (HB0.out.trans (HBV.out.mono HB0.out.size))) hxj
              cases e5
              obtain ⟨xat, off, xdv, data⟩ := x
              obtain ⟨dda, ddc, hdv⟩ := Sg.src_form hxa.1
              simp only at hdv
              subst hdv
              have d0 := hrow 0 _ rfl
              have d1 := hrow 1 _ rfl
              have d2 := hrow 2 _ rfl
              rw [Nat.add_zero] at d0
              have hb5 := World.block_lt_of_cell? _ _ d0
              simp only at hb5
              have HBY := Lib.hid (HBV.out.alloc HBV.out.size (.cells #[.int .i64 xat, .int .i64 off, .slice dda data.length ddc] 88))
              clear hxa hrow hxj
              go_wp2_with fail
              go_roundg (gk - 1)
              case rel => exact ⟨j + 1, _, by go_num, rfl, by have := HJL.out; omega, Lib.hid (by have := HQ2.out; omega), HBY⟩
              case measure => have := HQ2.out; have := HJL.out; omega
            · clear h0 h1 h2 h3 h4 h5 h6 hz0
              go_wp2_with fail
              go_roundg (NQ - 1)
              case rel => exact ⟨k + 1, m, by go_num, rfl, by have := HLT.out; omega, Lib.hid (by have := HQ.out; have := HNQ.out; omega), HBV⟩
              case measure => have := HQ.out; have := HNQ.out; have := HLT.out; omega
        · clear hk
          by_cases q0 : (5000 : Int) < n
          · go_wp2_with fail
            go_ret
            exact ⟨true, rfl, fun h => (by cases h), HB0.out.trans (HBW.out.mono HB0.out.size)⟩
          · have q0f : decide ((5000 : Int) < n) = false := decide_eq_false q0
            by_cases q1 : 30 < ps.length
            · have q1i : (30 : Int) < (ps.length : Int) := by omega
              go_wp2_with fail
              go_ret
              exact ⟨true, rfl, fun h => (by cases h), HB0.out.trans (HBW.out.mono HB0.out.size)⟩
            · have q1f : decide ((30 : Int) < (ps.length : Int)) = false := decide_eq_false (by omega)
              have q1g : decide (30 < ps.length) = false := decide_eq_false q1
              by_cases q2 : 20 < gs.length
              · have q2i : (20 : Int) < (gs.length : Int) := by omega
                go_wp2_with fail
                go_ret
                exact ⟨true, rfl, fun h => (by cases h), HB0.out.trans (HBW.out.mono HB0.out.size)⟩
              · have q2f : decide ((20 : Int) < (gs.length : Int)) = false := decide_eq_false (by omega)
                have q2g : decide (20 < gs.length) = false := decide_eq_false q2
                by_cases q3 : 30 < ss.length
                · have q3i : (30 : Int) < (ss.length : Int) := by omega
                  go_wp2_with fail
                  go_ret
                  exact ⟨true, rfl, fun h => (by cases h), HB0.out.trans (HBW.out.mono HB0.out.size)⟩
                · have q3f : decide ((30 : Int) < (ss.length : Int)) = false := decide_eq_false (by omega)
                  have q3g : decide (30 < ss.length) = false := decide_eq_false q3
                  by_cases q4 : 60 < fs.length
                  · have q4i : (60 : Int) < (fs.length : Int) := by omega
                    go_wp2_with fail
                    go_ret
                    exact ⟨true, rfl, fun h => (by cases h), HB0.out.trans (HBW.out.mono HB0.out.size)⟩
                  · have q4f : decide ((60 : Int) < (fs.length : Int)) = false := decide_eq_false (by omega)
                    have q4g : decide (60 < fs.length) = false := decide_eq_false q4
                    by_cases q5 : 40 < ds.length
                    · have q5i : (40 : Int) < (ds.length : Int) := by omega
                      go_wp2_with fail
                      go_ret
                      exact ⟨true, rfl, fun h => (by cases h), HB0.out.trans (HBW.out.mono HB0.out.size)⟩
                    · have q5f : decide ((40 : Int) < (ds.length : Int)) = false := decide_eq_false (by omega)
                      have q5g : decide (40 < ds.length) = false := decide_eq_false q5
                      have HLS := Lib.hid (show Lens h by unfold Lens; rw [HH.out.1, HH.out.2.1, HH.out.2.2.1, HH.out.2.2.2.1, HH.out.2.2.2.2.1]; omega)
                      go_wp2_with (go_at_call 53; refine (bey h _ _ _ _ _ _ _ B _ HH.out.2.2.2.2.2.1 HH.out.2.2.2.2.2.2 (by rw [← HHE.out]; exact HA.out.below (HB0.out.trans (HBW.out.mono HB0.out.size))) HLS.out HBB.out).mono ?_; rintro e w9 ⟨b, rfl, hsm, hb9⟩; have HS9 := Lib.hid hsm; have HB9 := Lib.hid hb9; clear hsm hb9)
                      go_ret
                      exact ⟨b, rfl, HS9.out, HB0.out.trans ((HBW.out.trans (HB9.out.mono HBW.out.size)).mono HB0.out.size)⟩
end Hy
end Go.Proofs.YtjijijjkkhpjnaaGreatDoor
end

section
namespace Go.Proofs.YtjijijjkkhpjnaaGreatDoor
open Go.RowKit Pl Ad
attribute [local go_sem] ba_get ba_append ba_extract conv_one
set_option maxRecDepth 100000
set_option maxHeartbeats 4000000
set_option linter.unusedVariables false
set_option linter.unusedSimpArgs false
namespace Hy
open A1 Kr
theorem flat_get {α : Type} {F : α → List Value} {k : Nat} (hF : ∀ x, (F x).length = k) (hk : 0 < k) : ∀ (xs : List α) (j : Nat), (xs.flatMap F)[j]? = (xs[j / k]?).bind fun x => (F x)[j % k]?
  | [], j => by simp
  | x :: r, j => by
    rw [List.flatMap_cons]
    by_cases h : j < k
    · rw [List.getElem?_append_left (by rw [hF]; exact h), Nat.div_eq_of_lt h, Nat.mod_eq_of_lt h]; rfl
    · obtain ⟨m, rfl⟩ : ∃ m, j = m + k := ⟨j - k, by omega⟩
      rw [List.getElem?_append_right (by rw [hF]; omega), hF, Nat.add_sub_cancel, flat_get hF hk r m, Nat.add_div_right m hk, Nat.add_mod_right]
      rfl
theorem flat_at {α : Type} {F : α → List Value} {k : Nat} (hF : ∀ x, (F x).length = k) {xs : List α} {i j : Nat} {x : α} {u : Value} (hx : xs[i]? = some x) (hu : (F x)[j]? = some u) : (xs.flatMap F)[i * k + j]? = some u := by
  have hj : j < k := by rw [← hF x]; exact (List.getElem?_eq_some_iff.1 hu).1
  rw [flat_get hF (by omega), show i * k + j = j + k * i by rw [Nat.mul_comm]; omega, Nat.add_mul_div_left _ _ (by omega), Nat.div_eq_of_lt hj, Nat.add_mul_mod_self_left, Nat.mod_eq_of_lt hj, Nat.zero_add, hx]
  exact hu
theorem flat_len {α : Type} {F : α → List Value} {k : Nat} (hF : ∀ x, (F x).length = k) : ∀ xs : List α, (xs.flatMap F).length = xs.length * k
  | [] => by simp
  | x :: r => by rw [List.flatMap_cons, List.length_append, hF, flat_len hF r, List.length_cons, Nat.add_mul]; omega
section
variable {α : Type} {F : α → List Value} {k : Nat} {w w' : World} {v : Value} {xs : List α}
theorem rows_src (h : RowsV F k w v xs) (hF : ∀ x, (F x).length = k) (hk : 0 < k) : SrcAt w v xs.length (xs.flatMap F) := by
  rcases h with ⟨rfl, h1 | ⟨a, c, h1⟩⟩ | ⟨b, o, c, h1, _, _, h4⟩
  · exact .inl ⟨h1, rfl, rfl⟩
  · exact .inr ⟨a, c, h1, fun j x hx => by simp at hx⟩
  · refine .inr ⟨⟨b, o, none⟩, c, h1, fun j u hu => ?_⟩
    rw [flat_get hF hk] at hu
    obtain ⟨x, hx, hxu⟩ := Option.bind_eq_some_iff.1 hu
    have := h4 _ x hx _ u hxu
    rw [Nat.div_add_mod'] at this
    rw [Addr.add_lit]
    exact this
theorem rows_ownF {B : Nat} {e : TypeId} (h : OwnWin w B e k v xs.length (xs.flatMap F)) (hF : ∀ x, (F x).length = k) : RowsV F k w v xs := by
  rcases Nat.eq_zero_or_pos xs.length with h0 | h0
  · obtain rfl := List.eq_nil_of_length_eq_zero h0
    rcases h.2 with ⟨h1, _⟩ | ⟨g, o, cap, cur, h1, _⟩
    · exact .inl ⟨rfl, .inl h1⟩
    · exact .inl ⟨rfl, .inr ⟨_, _, h1⟩⟩
  · obtain ⟨g, o, c, e1, h1, _, _, h2, h3⟩ := h.cells h0
    exact .inr ⟨g, o, c, e1, h1, h2, fun i x hx j u hu => h3 _ u (flat_at hF hx hu)⟩
/-- Rows that are a block. -/
theorem rows_bx {b T c : Nat} {C : Array Value} {fr : Nat × Nat} (h : w.heap[b]? = some (.cells C T fr)) (hC : C.toList = xs.flatMap F) (hF : ∀ x, (F x).length = k) (hc : xs.length ≤ c) {n : Nat} (hn : n = xs.length) : RowsV F k w (.slice (some ⟨b, 0, none⟩) n c) xs := by
  subst hn
  refine .inr ⟨b, 0, c, rfl, hc, (Array.getElem?_eq_some_iff.1 h).1, fun i x hx j u hu => ?_⟩
  have h1 := flat_at hF hx hu
  rw [← hC] at h1
  rw [Nat.zero_add, cell_of_row w b _ C T fr h]
  simpa using h1
end
theorem pubR_len (p : PubM) : (pubR p).length = 5 := rfl
theorem prgR_len (p : PrgM) : (prgR p).length = 3 := rfl
theorem partR_len (p : PartM) : (partR p).length = 3 := rfl
theorem srvR_len (p : SrvM) : (srvR p).length = 11 := rfl
theorem fetR_len (p : FetM) : (fetR p).length = 6 := rfl
theorem byteC_len (b : UInt8) : (Sg.byteC b).length = 1 := rfl
theorem bytes_flat (l : Bs) : l.flatMap Sg.byteC = bvals l := by
  induction l with
  | nil => rfl
  | cons b r ih => rw [List.flatMap_cons, ih]; rfl
theorem bytes_bx {w : World} {b T c n : Nat} {C : Array Value} {fr : Nat × Nat} (l : Bs) (h : w.heap[b]? = some (.cells C T fr)) (hC : C.toList = bvals l) (hc : l.length ≤ c) (hn : n = l.length) : RowsV Sg.byteC 1 w (.slice (some ⟨b, 0, none⟩) n c) l := rows_bx h (by rw [bytes_flat]; exact hC) byteC_len hc hn
theorem bx_newH {w : World} {n T : Nat} {cs : Array Value} (h : w.heap.size = n) : Bx (w.alloc (.cells cs T)) n T cs := h ▸ Bx.new w T cs
theorem bx_allocH {w : World} {R T : Nat} {cs : Array Value} (h : Bx w R T cs) (o : Obj) : Bx (w.alloc o) R T cs := h.older ((Below.refl _ _).alloc (Nat.le_refl _) o)
def exX : Bs := [97, 46, 101, 120, 97, 109, 112, 108, 101, 47, 120]
def exT : Bs := [101, 120, 97, 99, 116, 32, 48, 32, 97, 46, 101, 120, 97, 109, 112, 108, 101, 47, 120]
/-- The document's example, with a response at a time and a purge that was ordered at a time. -/
def exM (v1 v2 v3 v4 : Value) (a o : Int) : HisM := ⟨[⟨10, 100, exX, [49], v1, [97, 98]⟩, ⟨50, 100, exX, [50], v2, [99, 100]⟩], [⟨exT, o, 70⟩], [⟨[101, 49], exX, [49], 0, a, a, 0, 2, .slice none 0 0, [], v4, [⟨a, 0, v3, [97, 98]⟩], true⟩], [], [], 100, 200⟩
theorem ex_one (v1 v2 v3 v4 : Value) : checkL (exM v1 v2 v3 v4 149 60) = [⟨1, 0, tx1⟩] := by kernel_rfl
theorem ex_two (v1 v2 v3 v4 : Value) : checkL (exM v1 v2 v3 v4 149 49) = [] := by kernel_rfl
theorem ex_three (v1 v2 v3 v4 : Value) : (checkL (exM v1 v2 v3 v4 150 49)).length = 1 := by kernel_rfl
theorem ex_small (v1 v2 v3 v4 : Value) {a o : Int} (ha : 0 ≤ a ∧ a ≤ 1000) (ho : 0 ≤ o ∧ o ≤ 1000) : (exM v1 v2 v3 v4 a o).Small := by
  refine ⟨fun p hp => ?_, fun p hp => ?_, fun p hp => ?_, fun p hp => ?_, fun p hp => ?_, ?_, ?_, ?_, ?_, ?_, ?_, ?_⟩
  all_goals simp [exM, inB] at *
  · rcases hp with rfl | rfl <;> simp
  · subst hp; simp; omega
  · subst hp; simp; omega
theorem hb_new {w : World} {n : Nat} {o : Obj} (h : w.heap.size = n) : (w.alloc o).heap[n]? = some o := h ▸ heap_alloc_new w o
theorem hb_alloc {w : World} {n : Nat} {o : Obj} (h : w.heap[n]? = some o) (q : Obj) : (w.alloc q).heap[n]? = some o :=
  (Below.heap_alloc w q n (Array.getElem?_eq_some_iff.1 h).1).trans h
theorem conv_at (w : World) (C : Array Value) (n c g : Nat) (hg : g = w.heap.size) : (convert 84 84 (.slice (some ⟨g, 0, none⟩) n c)).run Tryz.prog (w.alloc (.cells C 5)) = .ok (.slice (some ⟨g, 0, none⟩) n c) (w.alloc (.cells C 5 (C.size, C.size + 1))) :=
  Joins.run_convert_bytes_const_at w 84 5 C n c g hg Tryz.underlying84 Tryz.underlying5
attribute [local go_sem] conv_at
theorem example_any (a o : Int) (w : World) : Calls Tryz.prog 54 #[.int .i64 a, .int .i64 o] w fun e w' => ∃ va vb vc vd ve v1 v2 v3 v4, e = .returned (.agg #[va, vb, vc, vd, ve, .int .i64 100, .int .i64 200]) ∧ HisAt w' 20 va vb vc vd ve (exM v1 v2 v3 v4 a o) ∧ Below w.heap.size w w' := by
  go_enter Tryz.func54, Tryz.ntmps54
  go_wp2_with fail
  obtain ⟨n0, hn0⟩ : ∃ z, w.heap.size = z := ⟨_, rfl⟩
  have h0 : ((((((((w.alloc (.cells #[.slice (some ⟨w.heap.size + 1 + 1 + 1, 0, none⟩) 2 2, .slice (some ⟨w.heap.size + 1 + 1 + 1 + 1, 0, none⟩) 1 1, .slice (some ⟨w.heap.size + 1 + 1 + 1 + 1 + 1 + 1 + 1, 0, none⟩) 1 1, .slice none 0 0, .slice none 0 0, .int .i64 100, .int .i64 200] 69 )).alloc (.cells #[.int .u8 97, .int .u8 98] 5 (2, 3))).alloc (.cells #[.int .u8 99, .int .u8 100] 5 (2, 3))).alloc (.cells #[.int .i64 10, .int .i64 100, .string ⟨#[97, 46, 101, 120, 97, 109, 112, 108, 101, 47, 120]⟩, .string ⟨#[49]⟩, .slice (some ⟨w.heap.size + 1, 0, none⟩) 2 2, .int .i64 50, .int .i64 100, .string ⟨#[97, 46, 101, 120, 97, 109, 112, 108, 101, 47, 120]⟩, .string ⟨#[50]⟩, .slice (some ⟨w.heap.size + 1 + 1, 0, none⟩) 2 2] 86 )).alloc (.cells #[.string ⟨#[101, 120, 97, 99, 116, 32, 48, 32, 97, 46, 101, 120, 97, 109, 112, 108, 101, 47, 120]⟩, .int .i64 o, .int .i64 70] 97 )).alloc (.cells #[.int .u8 97, .int .u8 98] 5 (2, 3))).alloc (.cells #[.int .i64 a, .int .i64 0, .slice (some ⟨w.heap.size + 1 + 1 + 1 + 1 + 1, 0, none⟩) 2 2] 88 )).alloc (.cells #[.string ⟨#[101, 49]⟩, .string ⟨#[97, 46, 101, 120, 97, 109, 112, 108, 101, 47, 120]⟩, .string ⟨#[49]⟩, .int .i64 0, .int .i64 a, .int .i64 a, .int .i64 0, .int .i64 2, .slice none 0 0, .slice (some ⟨w.heap.size + 1 + 1 + 1 + 1 + 1 + 1, 0, none⟩) 1 1, .bool true] 82 )).heap[w.heap.size]? = some (.cells #[.slice (some ⟨w.heap.size + 1 + 1 + 1, 0, none⟩) 2 2, .slice (some ⟨w.heap.size + 1 + 1 + 1 + 1, 0, none⟩) 1 1, .slice (some ⟨w.heap.size + 1 + 1 + 1 + 1 + 1 + 1 + 1, 0, none⟩) 1 1, .slice none 0 0, .slice none 0 0, .int .i64 100, .int .i64 200] 69 (0, 0)) := (hb_alloc (hb_alloc (hb_alloc (hb_alloc (hb_alloc (hb_alloc (hb_alloc (hb_new (by simp)) _) _) _) _) _) _) _)
  have h1 : ((((((((w.alloc (.cells #[.slice (some ⟨w.heap.size + 1 + 1 + 1, 0, none⟩) 2 2, .slice (some ⟨w.heap.size + 1 + 1 + 1 + 1, 0, none⟩) 1 1, .slice (some ⟨w.heap.size + 1 + 1 + 1 + 1 + 1 + 1 + 1, 0, none⟩) 1 1, .slice none 0 0, .slice none 0 0, .int .i64 100, .int .i64 200] 69 )).alloc (.cells #[.int .u8 97, .int .u8 98] 5 (2, 3))).alloc (.cells #[.int .u8 99, .int .u8 100] 5 (2, 3))).alloc (.cells #[.int .i64 10, .int .i64 100, .string ⟨#[97, 46, 101, 120, 97, 109, 112, 108, 101, 47, 120]⟩, .string ⟨#[49]⟩, .slice (some ⟨w.heap.size + 1, 0, none⟩) 2 2, .int .i64 50, .int .i64 100, .string ⟨#[97, 46, 101, 120, 97, 109, 112, 108, 101, 47, 120]⟩, .string ⟨#[50]⟩, .slice (some ⟨w.heap.size + 1 + 1, 0, none⟩) 2 2] 86 )).alloc (.cells #[.string ⟨#[101, 120, 97, 99, 116, 32, 48, 32, 97, 46, 101, 120, 97, 109, 112, 108, 101, 47, 120]⟩, .int .i64 o, .int .i64 70] 97 )).alloc (.cells #[.int .u8 97, .int .u8 98] 5 (2, 3))).alloc (.cells #[.int .i64 a, .int .i64 0, .slice (some ⟨w.heap.size + 1 + 1 + 1 + 1 + 1, 0, none⟩) 2 2] 88 )).alloc (.cells #[.string ⟨#[101, 49]⟩, .string ⟨#[97, 46, 101, 120, 97, 109, 112, 108, 101, 47, 120]⟩, .string ⟨#[49]⟩, .int .i64 0, .int .i64 a, .int .i64 a, .int .i64 0, .int .i64 2, .slice none 0 0, .slice (some ⟨w.heap.size + 1 + 1 + 1 + 1 + 1 + 1, 0, none⟩) 1 1, .bool true] 82 )).heap[w.heap.size + 1]? = some (.cells #[.int .u8 97, .int .u8 98] 5 (2, 3)) := (hb_alloc (hb_alloc (hb_alloc (hb_alloc (hb_alloc (hb_alloc (hb_new (by simp)) _) _) _) _) _) _)
  have h2 : ((((((((w.alloc (.cells #[.slice (some ⟨w.heap.size + 1 + 1 + 1, 0, none⟩) 2 2, .slice (some ⟨w.heap.size + 1 + 1 + 1 + 1, 0, none⟩) 1 1, .slice (some ⟨w.heap.size + 1 + 1 + 1 + 1 + 1 + 1 + 1, 0, none⟩) 1 1, .slice none 0 0, .slice none 0 0, .int .i64 100, .int .i64 200] 69 )).alloc (.cells #[.int .u8 97, .int .u8 98] 5 (2, 3))).alloc (.cells #[.int .u8 99, .int .u8 100] 5 (2, 3))).alloc (.cells #[.int .i64 10, .int .i64 100, .string ⟨#[97, 46, 101, 120, 97, 109, 112, 108, 101, 47, 120]⟩, .string ⟨#[49]⟩, .slice (some ⟨w.heap.size + 1, 0, none⟩) 2 2, .int .i64 50, .int .i64 100, .string ⟨#[97, 46, 101, 120, 97, 109, 112, 108, 101, 47, 120]⟩, .string ⟨#[50]⟩, .slice (some ⟨w.heap.size + 1 + 1, 0, none⟩) 2 2] 86 )).alloc (.cells #[.string ⟨#[101, 120, 97, 99, 116, 32, 48, 32, 97, 46, 101, 120, 97, 109, 112, 108, 101, 47, 120]⟩, .int .i64 o, .int .i64 70] 97 )).alloc (.cells #[.int .u8 97, .int .u8 98] 5 (2, 3))).alloc (.cells #[.int .i64 a, .int .i64 0, .slice (some ⟨w.heap.size + 1 + 1 + 1 + 1 + 1, 0, none⟩) 2 2] 88 )).alloc (.cells #[.string ⟨#[101, 49]⟩, .string ⟨#[97, 46, 101, 120, 97, 109, 112, 108, 101, 47, 120]⟩, .string ⟨#[49]⟩, .int .i64 0, .int .i64 a, .int .i64 a, .int .i64 0, .int .i64 2, .slice none 0 0, .slice (some ⟨w.heap.size + 1 + 1 + 1 + 1 + 1 + 1, 0, none⟩) 1 1, .bool true] 82 )).heap[w.heap.size + 1 + 1]? = some (.cells #[.int .u8 99, .int .u8 100] 5 (2, 3)) := (hb_alloc (hb_alloc (hb_alloc (hb_alloc (hb_alloc (hb_new (by simp)) _) _) _) _) _)
  have h3 : ((((((((w.alloc (.cells #[.slice (some ⟨w.heap.size + 1 + 1 + 1, 0, none⟩) 2 2, .slice (some ⟨w.heap.size + 1 + 1 + 1 + 1, 0, none⟩) 1 1, .slice (some ⟨w.heap.size + 1 + 1 + 1 + 1 + 1 + 1 + 1, 0, none⟩) 1 1, .slice none 0 0, .slice none 0 0, .int .i64 100, .int .i64 200] 69 )).alloc (.cells #[.int .u8 97, .int .u8 98] 5 (2, 3))).alloc (.cells #[.int .u8 99, .int .u8 100] 5 (2, 3))).alloc (.cells #[.int .i64 10, .int .i64 100, .string ⟨#[97, 46, 101, 120, 97, 109, 112, 108, 101, 47, 120]⟩, .string ⟨#[49]⟩, .slice (some ⟨w.heap.size + 1, 0, none⟩) 2 2, .int .i64 50, .int .i64 100, .string ⟨#[97, 46, 101, 120, 97, 109, 112, 108, 101, 47, 120]⟩, .string ⟨#[50]⟩, .slice (some ⟨w.heap.size + 1 + 1, 0, none⟩) 2 2] 86 )).alloc (.cells #[.string ⟨#[101, 120, 97, 99, 116, 32, 48, 32, 97, 46, 101, 120, 97, 109, 112, 108, 101, 47, 120]⟩, .int .i64 o, .int .i64 70] 97 )).alloc (.cells #[.int .u8 97, .int .u8 98] 5 (2, 3))).alloc (.cells #[.int .i64 a, .int .i64 0, .slice (some ⟨w.heap.size + 1 + 1 + 1 + 1 + 1, 0, none⟩) 2 2] 88 )).alloc (.cells #[.string ⟨#[101, 49]⟩, .string ⟨#[97, 46, 101, 120, 97, 109, 112, 108, 101, 47, 120]⟩, .string ⟨#[49]⟩, .int .i64 0, .int .i64 a, .int .i64 a, .int .i64 0, .int .i64 2, .slice none 0 0, .slice (some ⟨w.heap.size + 1 + 1 + 1 + 1 + 1 + 1, 0, none⟩) 1 1, .bool true] 82 )).heap[w.heap.size + 1 + 1 + 1]? = some (.cells #[.int .i64 10, .int .i64 100, .string ⟨#[97, 46, 101, 120, 97, 109, 112, 108, 101, 47, 120]⟩, .string ⟨#[49]⟩, .slice (some ⟨w.heap.size + 1, 0, none⟩) 2 2, .int .i64 50, .int .i64 100, .string ⟨#[97, 46, 101, 120, 97, 109, 112, 108, 101, 47, 120]⟩, .string ⟨#[50]⟩, .slice (some ⟨w.heap.size + 1 + 1, 0, none⟩) 2 2] 86 (0, 0)) := (hb_alloc (hb_alloc (hb_alloc (hb_alloc (hb_new (by simp)) _) _) _) _)
  have h4 : ((((((((w.alloc (.cells #[.slice (some ⟨w.heap.size + 1 + 1 + 1, 0, none⟩) 2 2, .slice (some ⟨w.heap.size + 1 + 1 + 1 + 1, 0, none⟩) 1 1, .slice (some ⟨w.heap.size + 1 + 1 + 1 + 1 + 1 + 1 + 1, 0, none⟩) 1 1, .slice none 0 0, .slice none 0 0, .int .i64 100, .int .i64 200] 69 )).alloc (.cells #[.int .u8 97, .int .u8 98] 5 (2, 3))).alloc (.cells #[.int .u8 99, .int .u8 100] 5 (2, 3))).alloc (.cells #[.int .i64 10, .int .i64 100, .string ⟨#[97, 46, 101, 120, 97, 109, 112, 108, 101, 47, 120]⟩, .string ⟨#[49]⟩, .slice (some ⟨w.heap.size + 1, 0, none⟩) 2 2, .int .i64 50, .int .i64 100, .string ⟨#[97, 46, 101, 120, 97, 109, 112, 108, 101, 47, 120]⟩, .string ⟨#[50]⟩, .slice (some ⟨w.heap.size + 1 + 1, 0, none⟩) 2 2] 86 )).alloc (.cells #[.string ⟨#[101, 120, 97, 99, 116, 32, 48, 32, 97, 46, 101, 120, 97, 109, 112, 108, 101, 47, 120]⟩, .int .i64 o, .int .i64 70] 97 )).alloc (.cells #[.int .u8 97, .int .u8 98] 5 (2, 3))).alloc (.cells #[.int .i64 a, .int .i64 0, .slice (some ⟨w.heap.size + 1 + 1 + 1 + 1 + 1, 0, none⟩) 2 2] 88 )).alloc (.cells #[.string ⟨#[101, 49]⟩, .string ⟨#[97, 46, 101, 120, 97, 109, 112, 108, 101, 47, 120]⟩, .string ⟨#[49]⟩, .int .i64 0, .int .i64 a, .int .i64 a, .int .i64 0, .int .i64 2, .slice none 0 0, .slice (some ⟨w.heap.size + 1 + 1 + 1 + 1 + 1 + 1, 0, none⟩) 1 1, .bool true] 82 )).heap[w.heap.size + 1 + 1 + 1 + 1]? = some (.cells #[.string ⟨#[101, 120, 97, 99, 116, 32, 48, 32, 97, 46, 101, 120, 97, 109, 112, 108, 101, 47, 120]⟩, .int .i64 o, .int .i64 70] 97 (0, 0)) := (hb_alloc (hb_alloc (hb_alloc (hb_new (by simp)) _) _) _)
  have h5 : ((((((((w.alloc (.cells #[.slice (some ⟨w.heap.size + 1 + 1 + 1, 0, none⟩) 2 2, .slice (some ⟨w.heap.size + 1 + 1 + 1 + 1, 0, none⟩) 1 1, .slice (some ⟨w.heap.size + 1 + 1 + 1 + 1 + 1 + 1 + 1, 0, none⟩) 1 1, .slice none 0 0, .slice none 0 0, .int .i64 100, .int .i64 200] 69 )).alloc (.cells #[.int .u8 97, .int .u8 98] 5 (2, 3))).alloc (.cells #[.int .u8 99, .int .u8 100] 5 (2, 3))).alloc (.cells #[.int .i64 10, .int .i64 100, .string ⟨#[97, 46, 101, 120, 97, 109, 112, 108, 101, 47, 120]⟩, .string ⟨#[49]⟩, .slice (some ⟨w.heap.size + 1, 0, none⟩) 2 2, .int .i64 50, .int .i64 100, .string ⟨#[97, 46, 101, 120, 97, 109, 112, 108, 101, 47, 120]⟩, .string ⟨#[50]⟩, .slice (some ⟨w.heap.size + 1 + 1, 0, none⟩) 2 2] 86 )).alloc (.cells #[.string ⟨#[101, 120, 97, 99, 116, 32, 48, 32, 97, 46, 101, 120, 97, 109, 112, 108, 101, 47, 120]⟩, .int .i64 o, .int .i64 70] 97 )).alloc (.cells #[.int .u8 97, .int .u8 98] 5 (2, 3))).alloc (.cells #[.int .i64 a, .int .i64 0, .slice (some ⟨w.heap.size + 1 + 1 + 1 + 1 + 1, 0, none⟩) 2 2] 88 )).alloc (.cells #[.string ⟨#[101, 49]⟩, .string ⟨#[97, 46, 101, 120, 97, 109, 112, 108, 101, 47, 120]⟩, .string ⟨#[49]⟩, .int .i64 0, .int .i64 a, .int .i64 a, .int .i64 0, .int .i64 2, .slice none 0 0, .slice (some ⟨w.heap.size + 1 + 1 + 1 + 1 + 1 + 1, 0, none⟩) 1 1, .bool true] 82 )).heap[w.heap.size + 1 + 1 + 1 + 1 + 1]? = some (.cells #[.int .u8 97, .int .u8 98] 5 (2, 3)) := (hb_alloc (hb_alloc (hb_new (by simp)) _) _)
  have h6 : ((((((((w.alloc (.cells #[.slice (some ⟨w.heap.size + 1 + 1 + 1, 0, none⟩) 2 2, .slice (some ⟨w.heap.size + 1 + 1 + 1 + 1, 0, none⟩) 1 1, .slice (some ⟨w.heap.size + 1 + 1 + 1 + 1 + 1 + 1 + 1, 0, none⟩) 1 1, .slice none 0 0, .slice none 0 0, .int .i64 100, .int .i64 200] 69 )).alloc (.cells #[.int .u8 97, .int .u8 98] 5 (2, 3))).alloc (.cells #[.int .u8 99, .int .u8 100] 5 (2, 3))).alloc (.cells #[.int .i64 10, .int .i64 100, .string ⟨#[97, 46, 101, 120, 97, 109, 112, 108, 101, 47, 120]⟩, .string ⟨#[49]⟩, .slice (some ⟨w.heap.size + 1, 0, none⟩) 2 2, .int .i64 50, .int .i64 100, .string ⟨#[97, 46, 101, 120, 97, 109, 112, 108, 101, 47, 120]⟩, .string ⟨#[50]⟩, .slice (some ⟨w.heap.size + 1 + 1, 0, none⟩) 2 2] 86 )).alloc (.cells #[.string ⟨#[101, 120, 97, 99, 116, 32, 48, 32, 97, 46, 101, 120, 97, 109, 112, 108, 101, 47, 120]⟩, .int .i64 o, .int .i64 70] 97 )).alloc (.cells #[.int .u8 97, .int .u8 98] 5 (2, 3))).alloc (.cells #[.int .i64 a, .int .i64 0, .slice (some ⟨w.heap.size + 1 + 1 + 1 + 1 + 1, 0, none⟩) 2 2] 88 )).alloc (.cells #[.string ⟨#[101, 49]⟩, .string ⟨#[97, 46, 101, 120, 97, 109, 112, 108, 101, 47, 120]⟩, .string ⟨#[49]⟩, .int .i64 0, .int .i64 a, .int .i64 a, .int .i64 0, .int .i64 2, .slice none 0 0, .slice (some ⟨w.heap.size + 1 + 1 + 1 + 1 + 1 + 1, 0, none⟩) 1 1, .bool true] 82 )).heap[w.heap.size + 1 + 1 + 1 + 1 + 1 + 1]? = some (.cells #[.int .i64 a, .int .i64 0, .slice (some ⟨w.heap.size + 1 + 1 + 1 + 1 + 1, 0, none⟩) 2 2] 88 (0, 0)) := (hb_alloc (hb_new (by simp)) _)
  have h7 : ((((((((w.alloc (.cells #[.slice (some ⟨w.heap.size + 1 + 1 + 1, 0, none⟩) 2 2, .slice (some ⟨w.heap.size + 1 + 1 + 1 + 1, 0, none⟩) 1 1, .slice (some ⟨w.heap.size + 1 + 1 + 1 + 1 + 1 + 1 + 1, 0, none⟩) 1 1, .slice none 0 0, .slice none 0 0, .int .i64 100, .int .i64 200] 69 )).alloc (.cells #[.int .u8 97, .int .u8 98] 5 (2, 3))).alloc (.cells #[.int .u8 99, .int .u8 100] 5 (2, 3))).alloc (.cells #[.int .i64 10, .int .i64 100, .string ⟨#[97, 46, 101, 120, 97, 109, 112, 108, 101, 47, 120]⟩, .string ⟨#[49]⟩, .slice (some ⟨w.heap.size + 1, 0, none⟩) 2 2, .int .i64 50, .int .i64 100, .string ⟨#[97, 46, 101, 120, 97, 109, 112, 108, 101, 47, 120]⟩, .string ⟨#[50]⟩, .slice (some ⟨w.heap.size + 1 + 1, 0, none⟩) 2 2] 86 )).alloc (.cells #[.string ⟨#[101, 120, 97, 99, 116, 32, 48, 32, 97, 46, 101, 120, 97, 109, 112, 108, 101, 47, 120]⟩, .int .i64 o, .int .i64 70] 97 )).alloc (.cells #[.int .u8 97, .int .u8 98] 5 (2, 3))).alloc (.cells #[.int .i64 a, .int .i64 0, .slice (some ⟨w.heap.size + 1 + 1 + 1 + 1 + 1, 0, none⟩) 2 2] 88 )).alloc (.cells #[.string ⟨#[101, 49]⟩, .string ⟨#[97, 46, 101, 120, 97, 109, 112, 108, 101, 47, 120]⟩, .string ⟨#[49]⟩, .int .i64 0, .int .i64 a, .int .i64 a, .int .i64 0, .int .i64 2, .slice none 0 0, .slice (some ⟨w.heap.size + 1 + 1 + 1 + 1 + 1 + 1, 0, none⟩) 1 1, .bool true] 82 )).heap[w.heap.size + 1 + 1 + 1 + 1 + 1 + 1 + 1]? = some (.cells #[.string ⟨#[101, 49]⟩, .string ⟨#[97, 46, 101, 120, 97, 109, 112, 108, 101, 47, 120]⟩, .string ⟨#[49]⟩, .int .i64 0, .int .i64 a, .int .i64 a, .int .i64 0, .int .i64 2, .slice none 0 0, .slice (some ⟨w.heap.size + 1 + 1 + 1 + 1 + 1 + 1, 0, none⟩) 1 1, .bool true] 82 (0, 0)) := (hb_new (by simp))
  have HB : Hid (Below w.heap.size w ((((((((w.alloc (.cells #[.slice (some ⟨w.heap.size + 1 + 1 + 1, 0, none⟩) 2 2, .slice (some ⟨w.heap.size + 1 + 1 + 1 + 1, 0, none⟩) 1 1, .slice (some ⟨w.heap.size + 1 + 1 + 1 + 1 + 1 + 1 + 1, 0, none⟩) 1 1, .slice none 0 0, .slice none 0 0, .int .i64 100, .int .i64 200] 69 )).alloc (.cells #[.int .u8 97, .int .u8 98] 5 (2, 3))).alloc (.cells #[.int .u8 99, .int .u8 100] 5 (2, 3))).alloc (.cells #[.int .i64 10, .int .i64 100, .string ⟨#[97, 46, 101, 120, 97, 109, 112, 108, 101, 47, 120]⟩, .string ⟨#[49]⟩, .slice (some ⟨w.heap.size + 1, 0, none⟩) 2 2, .int .i64 50, .int .i64 100, .string ⟨#[97, 46, 101, 120, 97, 109, 112, 108, 101, 47, 120]⟩, .string ⟨#[50]⟩, .slice (some ⟨w.heap.size + 1 + 1, 0, none⟩) 2 2] 86 )).alloc (.cells #[.string ⟨#[101, 120, 97, 99, 116, 32, 48, 32, 97, 46, 101, 120, 97, 109, 112, 108, 101, 47, 120]⟩, .int .i64 o, .int .i64 70] 97 )).alloc (.cells #[.int .u8 97, .int .u8 98] 5 (2, 3))).alloc (.cells #[.int .i64 a, .int .i64 0, .slice (some ⟨w.heap.size + 1 + 1 + 1 + 1 + 1, 0, none⟩) 2 2] 88 )).alloc (.cells #[.string ⟨#[101, 49]⟩, .string ⟨#[97, 46, 101, 120, 97, 109, 112, 108, 101, 47, 120]⟩, .string ⟨#[49]⟩, .int .i64 0, .int .i64 a, .int .i64 a, .int .i64 0, .int .i64 2, .slice none 0 0, .slice (some ⟨w.heap.size + 1 + 1 + 1 + 1 + 1 + 1, 0, none⟩) 1 1, .bool true] 82 ))) := Lib.hid (((((((((Below.refl _ _).alloc (by simp <;> omega) _).alloc (by simp <;> omega) _).alloc (by simp <;> omega) _).alloc (by simp <;> omega) _).alloc (by simp <;> omega) _).alloc (by simp <;> omega) _).alloc (by simp <;> omega) _).alloc (by simp <;> omega) _)
  refine bodyPost_ret (v := .agg #[.slice (some ⟨w.heap.size + 1 + 1 + 1, 0, none⟩) 2 2, .slice (some ⟨w.heap.size + 1 + 1 + 1 + 1, 0, none⟩) 1 1, .slice (some ⟨w.heap.size + 1 + 1 + 1 + 1 + 1 + 1 + 1, 0, none⟩) 1 1, .slice none 0 0, .slice none 0 0, .int .i64 100, .int .i64 200]) (by simp [results, Tryz.results54, go_sem]) rfl ?_
  clear hn0
  have b1 := bytes_bx [97, 98] h1 rfl (c := 2) (n := 2) (by decide) rfl
  have b2 := bytes_bx [99, 100] h2 rfl (c := 2) (n := 2) (by decide) rfl
  have b5 := bytes_bx [97, 98] h5 rfl (c := 2) (n := 2) (by decide) rfl
  refine ⟨_, _, _, _, _, .slice (some ⟨w.heap.size + 1, 0, none⟩) 2 2, .slice (some ⟨w.heap.size + 1 + 1, 0, none⟩) 2 2, .slice (some ⟨w.heap.size + 1 + 1 + 1 + 1 + 1, 0, none⟩) 2 2, .slice (some ⟨w.heap.size + 1 + 1 + 1 + 1 + 1 + 1, 0, none⟩) 1 1, rfl, ?_, HB.out⟩
  refine ⟨rows_bx h3 rfl pubR_len (by simp [exM]) rfl, by simp [exM, exX, exT], fun p hp => ?_, rows_bx h4 rfl prgR_len (by simp [exM]) rfl, by simp [exM, exX, exT], fun g hg => ?_, rows_bx h7 rfl srvR_len (by simp [exM]) rfl, by simp [exM, exX, exT], fun x hx => ?_, .inl ⟨rfl, .inl rfl⟩, by simp [exM, exX, exT], fun f hf => (by cases hf), .inl ⟨rfl, .inl rfl⟩, by simp [exM, exX, exT], fun d hd => (by cases hd)⟩
  · simp [exM] at hp
    rcases hp with rfl | rfl
    · exact ⟨by simp [exM, exX, exT], by simp [exM, exX, exT], Sg.rows_src b1, by simp [exM, exX, exT], b1⟩
    · exact ⟨by simp [exM, exX, exT], by simp [exM, exX, exT], Sg.rows_src b2, by simp [exM, exX, exT], b2⟩
  · simp [exM] at hg
    subst hg
    exact (by simp [exM, exX, exT] : exT.length ≤ 20)
  · simp [exM] at hx
    subst hx
    refine ⟨by simp [exM, exX, exT], by simp [exM, exX, exT], by simp [exM, exX, exT], .inl ⟨rfl, .inl rfl⟩, by simp [exM, exX, exT], fun t ht => (by cases ht), rows_bx h6 rfl partR_len (by simp [exM]) rfl, by simp [exM, exX, exT], fun y hy => ?_⟩
    simp at hy
    subst hy
    exact ⟨Sg.rows_src b5, by simp [exM, exX, exT]⟩
theorem awake58_any (w : World) (hr : Ready w) (hpw : ParseAt w) : Calls Tryz.prog 29 #[] w fun e w' => e = .returned (.bool true) ∧ Below w.heap.size w w' := by
  have HRY := Lib.hid hr
  have HPW := Lib.hid hpw
  clear hr hpw
  go_enter Tryz.func29, Tryz.ntmps29
  go_wp2_with fail
  refine (example_any 149 60 _).mono ?_
  rintro e w1 ⟨va, vb, vc, vd, ve, v1, v2, v3, v4, rfl, ha1, hb1⟩
  have HB1 := Lib.hid hb1
  have HA1 := Lib.hid ha1
  clear ha1 hb1
  go_wp2_with fail
  refine (check_any (exM v1 v2 v3 v4 149 60) va vb vc vd ve 20 _ (HRY.out.below HB1.out) (HPW.out.below HB1.out) HA1.out (ex_small v1 v2 v3 v4 (by decide) (by decide)) (by decide)).mono ?_
  rw [ex_one]
  rintro e w2 ⟨u2, rfl, ho2, hb2⟩
  have HB2 := Lib.hid (HB1.out.trans (hb2.mono HB1.out.size))
  obtain ⟨g, o, c, hu, _, _, _, hgz, hcell⟩ := ho2.cells (by decide)
  subst hu
  have r0 := hcell 0 (.int .i64 1) rfl
  rw [Nat.add_zero] at r0
  clear hb2 ho2 hcell HA1 HB1
  rw [show ([(⟨1, 0, tx1⟩ : VioM)]).length = 1 from rfl]
  go_wp2_with fail
  clear r0 hgz
  refine (example_any 149 49 _).mono ?_
  rintro e w3 ⟨xa, xb, xc, xd, xe, x1, x2, x3, x4, rfl, ha3, hb3⟩
  have HBX3 := Lib.hid (HB2.out.trans (hb3.mono HB2.out.size))
  have HAX3 := Lib.hid ha3
  clear ha3 hb3
  go_wp2_with fail
  refine (check_any (exM x1 x2 x3 x4 149 49) xa xb xc xd xe 20 _ (HRY.out.below HBX3.out) (HPW.out.below HBX3.out) HAX3.out (ex_small x1 x2 x3 x4 (by decide) (by decide)) (by decide)).mono ?_
  rw [ex_two, show ([] : List VioM).length = 0 from rfl]
  rintro e w4 ⟨u4, rfl, ho4, hb4⟩
  have HB4 := Lib.hid (HBX3.out.trans (hb4.mono HBX3.out.size))
  obtain ⟨ya, yc, rfl, _⟩ := ho4.form
  clear hb4 ho4 HAX3 HBX3
  go_wp2_with fail
  refine (example_any 150 49 _).mono ?_
  rintro e w5 ⟨ya5, yb5, yc5, yd5, ye5, y1, y2, y3, y4, rfl, ha5, hb5⟩
  have HBX5 := Lib.hid (HB4.out.trans (hb5.mono HB4.out.size))
  have HAX5 := Lib.hid ha5
  clear ha5 hb5
  go_wp2_with fail
  refine (check_any (exM y1 y2 y3 y4 150 49) ya5 yb5 yc5 yd5 ye5 20 _ (HRY.out.below HBX5.out) (HPW.out.below HBX5.out) HAX5.out (ex_small y1 y2 y3 y4 (by decide) (by decide)) (by decide)).mono ?_
  rw [ex_three]
  rintro e w6 ⟨u6, rfl, ho6, hb6⟩
  have HB6 := Lib.hid (HBX5.out.trans (hb6.mono HBX5.out.size))
  obtain ⟨za, zc, rfl, _⟩ := ho6.form
  clear hb6 ho6 HAX5 HBX5
  go_wp2_with fail
  go_ret
  exact ⟨rfl, HB6.out⟩
end Hy
end Go.Proofs.YtjijijjkkhpjnaaGreatDoor
end

section
namespace Go.Proofs.YtjijijjkkhpjnaaGreatDoor
open Go.RowKit Pl Ad
set_option maxRecDepth 100000
set_option linter.unusedVariables false
namespace A1
end A1
namespace Hy
theorem u8_range {n : Int} (h : (Lit.int .u8 n).wf = true) : 0 ≤ n ∧ n < 256 := by
  have e1 : IntKind.min .u8 = 0 := rfl
  have e2 : IntKind.max .u8 = 255 := rfl
  simp only [Lit.wf, Bool.and_eq_true, decide_eq_true_eq, e1, e2] at h
  omega
end Hy
end Go.Proofs.YtjijijjkkhpjnaaGreatDoor
end

section
namespace Go.Proofs.YtjijijjkkhpjnaaGreatDoor
open Pl Ad
namespace Hy
theorem vio_all {α : Type} {r : Int} {tx : Bs} {bad : α → Bool} {l : List α} : vioF r tx (fun _ x => bad x) l 0 = [] ↔ ∀ x ∈ l, bad x = false := by
  rw [vioF_nil]
  constructor
  · intro h x hx
    obtain ⟨j, hj, rfl⟩ := List.getElem_of_mem hx
    exact h j _ (List.getElem?_eq_getElem hj)
  · intro h j x hx
    exact h x (List.mem_of_getElem? hx)
/-- The latest fetch first: was f fetched again without a reason? -/
def agL (ds : List DroM) (f : FetM) : List FetM → Bool
  | [] => false
  | x :: r => if sameF f x then !dropB ds f x else agL ds f r
/-- No fetch without a reason; the latest first. -/
def GoodF (ds : List DroM) : List FetM → Prop
  | [] => True
  | f :: r => (f.failed = false → agL ds f r = false) ∧ GoodF ds r
theorem agF_list {h : HisM} {f : FetM} : ∀ {k : Nat}, k ≤ h.fets.length → agF h f k = agL h.dros f (h.fets.take k).reverse
  | 0, _ => by simp [agF, agL]
  | k + 1, hk => by
    have hx : h.fets[k]? = some (h.fets[k]'(by omega)) := List.getElem?_eq_getElem (by omega)
    rw [agF, hx, List.take_add_one, hx, Option.toList_some, List.reverse_append, List.reverse_cons, List.reverse_nil, List.nil_append, List.singleton_append, agL]
    simp only
    rw [agF_list (k := k) (by omega)]
theorem good_take {h : HisM} : ∀ {k : Nat}, k ≤ h.fets.length → (GoodF h.dros (h.fets.take k).reverse ↔ ∀ i, i < k → againB h i = false)
  | 0, _ => by simp [GoodF]
  | k + 1, hk => by
    have hx : h.fets[k]? = some (h.fets[k]'(by omega)) := List.getElem?_eq_getElem (by omega)
    rw [List.take_add_one, hx, Option.toList_some, List.reverse_append, List.reverse_cons, List.reverse_nil, List.nil_append, List.singleton_append, GoodF, good_take (k := k) (by omega)]
    have hb : againB h k = (!(h.fets[k]'(by omega)).failed && agF h (h.fets[k]'(by omega)) k) := by unfold againB; rw [hx]
    constructor
    · rintro ⟨h1, h2⟩ i hi
      rcases Nat.lt_or_ge i k with hlt | hge
      · exact h2 i hlt
      · obtain rfl : i = k := by omega
        rw [hb, agF_list (by omega)]
        cases hf : (h.fets[i]'(by omega)).failed with
        | true => rfl
        | false => rw [h1 hf]; rfl
    · intro h1
      refine ⟨fun hf => ?_, fun i hi => h1 i (by omega)⟩
      have h2 := h1 k (by omega)
      rw [hb, agF_list (by omega), hf] at h2
      simpa using h2
theorem checkL_nil {h : HisM} : checkL h = [] ↔ (∀ s ∈ h.srvs, purgedB h s = false) ∧ (∀ g ∈ h.prgs, lateB h g = false) ∧ (∀ s ∈ h.srvs, oldB h s = false) ∧ (∀ s ∈ h.srvs, mixedB h s = false) ∧ GoodF h.dros h.fets.reverse := by
  unfold checkL
  rw [List.append_eq_nil_iff, List.append_eq_nil_iff, List.append_eq_nil_iff, List.append_eq_nil_iff]
  have e1 : vio1 h = [] ↔ ∀ s ∈ h.srvs, purgedB h s = false := vio_all
  have e2 : vio2 h = [] ↔ ∀ g ∈ h.prgs, lateB h g = false := vio_all
  have e3 : vio3 h = [] ↔ ∀ s ∈ h.srvs, oldB h s = false := vio_all
  have e4 : vio4 h = [] ↔ ∀ s ∈ h.srvs, mixedB h s = false := vio_all
  have e5 : vio5 h = [] ↔ GoodF h.dros h.fets.reverse := by
    have h9 := good_take (h := h) (k := h.fets.length) (Nat.le_refl _)
    rw [List.take_length] at h9
    rw [h9]
    unfold vio5
    rw [vioF_nil]
    constructor
    · intro h1 i hi
      have := h1 i _ (List.getElem?_eq_getElem hi)
      rwa [Nat.zero_add] at this
    · intro h1 j x hx
      rw [Nat.zero_add]
      exact h1 j (List.getElem?_eq_some_iff.1 hx).1
  rw [e1, e2, e3, e4, e5]
  simp only [and_assoc]
theorem sameF_key {f x y : FetM} (h : sameF f x = true) : sameF x y = sameF f y := by
  unfold sameF at *
  simp only [Bool.and_eq_true, decide_eq_true_eq, beq_iff_eq] at h
  obtain ⟨⟨⟨⟨_, h1⟩, h2⟩, h3⟩, h4⟩ := h
  rw [h1, h2, h3, h4]
theorem sameF_live {f x : FetM} (h : sameF f x = true) : x.failed = false := by
  unfold sameF at h
  simp only [Bool.and_eq_true, Bool.not_eq_eq_eq_not, Bool.not_true] at h
  exact h.1.1.1.1
theorem dropB_trans {ds : List DroM} {f x y : FetM} (_hs : sameF f x = true) (h1 : dropB ds f x = true) (h2 : dropB ds x y = true) : dropB ds f y = true := by
  unfold dropB at *
  rw [List.any_eq_true] at *
  obtain ⟨d, hd, h1⟩ := h1
  obtain ⟨d2, _, h2⟩ := h2
  refine ⟨d, hd, ?_⟩
  simp only [Bool.and_eq_true, decide_eq_true_eq] at h1 h2 ⊢
  exact ⟨⟨h1.1.1, by omega⟩, h1.2⟩
theorem agL_skip {ds : List DroM} {f x : FetM} {b : List FetM} (hx : x.failed = false → agL ds x b = false) : ∀ {a : List FetM}, agL ds f (a ++ x :: b) = false → agL ds f (a ++ b) = false
  | [], h => by
    rw [List.nil_append, agL] at h
    rw [List.nil_append]
    by_cases hs : sameF f x = true
    · rw [if_pos hs] at h
      have h1 : dropB ds f x = true := by simpa using h
      have h2 := hx (sameF_live hs)
      have key : ∀ l : List FetM, agL ds x l = false → agL ds f l = false := by
        intro l
        induction l with
        | nil => intro _; rfl
        | cons y r ih =>
          intro hy
          rw [agL] at hy ⊢
          rw [← sameF_key hs]
          by_cases hxy : sameF x y = true
          · rw [if_pos hxy] at hy ⊢
            have h3 : dropB ds x y = true := by simpa using hy
            rw [dropB_trans hs h1 h3]; rfl
          · rw [if_neg hxy] at hy ⊢
            exact ih hy
      exact key b h2
    · rw [if_neg hs] at h
      exact h
  | y :: a, h => by
    rw [List.cons_append, agL] at h ⊢
    by_cases hs : sameF f y = true
    · rw [if_pos hs] at h ⊢; exact h
    · rw [if_neg hs] at h ⊢; exact agL_skip hx h
theorem good_skip {ds : List DroM} {x : FetM} {b : List FetM} : ∀ {a : List FetM}, GoodF ds (a ++ x :: b) → GoodF ds (a ++ b)
  | [], h => h.2
  | y :: a, h => by
    have h2 : GoodF ds (a ++ x :: b) := h.2
    have hx : x.failed = false → agL ds x b = false := by
      clear h
      induction a with
      | nil => exact h2.1
      | cons z a ih => exact ih h2.2
    exact ⟨fun hf => agL_skip hx (h.1 hf), good_skip h2⟩
/-- Without an element. -/
def without {α : Type} (l : List α) (i : Nat) : List α := l.take i ++ l.drop (i + 1)
theorem without_sub {α : Type} {l : List α} {i : Nat} {x : α} (h : x ∈ without l i) : x ∈ l := by
  rcases List.mem_append.1 h with h | h
  · exact List.mem_of_mem_take h
  · exact List.mem_of_mem_drop h
theorem parts_srv {h : HisM} (hc : checkL h = []) (i : Nat) : checkL { h with srvs := without h.srvs i } = [] := by
  rw [checkL_nil] at hc ⊢
  obtain ⟨h1, h2, h3, h4, h5⟩ := hc
  exact ⟨fun s hs => h1 s (without_sub hs), h2, fun s hs => h3 s (without_sub hs), fun s hs => h4 s (without_sub hs), h5⟩
theorem parts_prg {h : HisM} (hc : checkL h = []) (i : Nat) : checkL { h with prgs := without h.prgs i } = [] := by
  rw [checkL_nil] at hc ⊢
  obtain ⟨h1, h2, h3, h4, h5⟩ := hc
  refine ⟨fun s hs => ?_, fun g hg => h2 g (without_sub hg), h3, h4, h5⟩
  have h9 := h1 s hs
  rw [Bool.eq_false_iff] at h9 ⊢
  intro e
  refine h9 ?_
  unfold purgedB at e ⊢
  rw [Bool.and_eq_true, List.any_eq_true] at e ⊢
  obtain ⟨e1, g, hg, e2⟩ := e
  exact ⟨e1, g, without_sub hg, e2⟩
theorem parts_fet {h : HisM} (hc : checkL h = []) (i : Nat) : checkL { h with fets := without h.fets i } = [] := by
  rw [checkL_nil] at hc ⊢
  obtain ⟨h1, h2, h3, h4, h5⟩ := hc
  refine ⟨h1, h2, h3, h4, ?_⟩
  show GoodF h.dros (without h.fets i).reverse
  by_cases hi : i < h.fets.length
  · have e : h.fets = h.fets.take i ++ h.fets[i] :: h.fets.drop (i + 1) := by rw [← List.drop_eq_getElem_cons hi, List.take_append_drop]
    rw [e, List.reverse_append, List.reverse_cons, List.append_assoc, List.singleton_append] at h5
    unfold without
    rw [List.reverse_append]
    exact good_skip h5
  · unfold without
    rw [List.take_of_length_le (by omega), List.drop_eq_nil_of_le (by omega), List.append_nil]
    exact h5
theorem runP_take {body : Bs} {til : Int} : ∀ {l : List PartM} {at_ : Int} {k : Nat} {e : Int}, runP body til at_ l = some e → ∃ e', runP body til at_ (l.take k) = some e'
  | [], at_, k, e, h => by simp [runP]
  | x :: r, at_, 0, e, h => by simp [runP]
  | x :: r, at_, k + 1, e, h => by
    rw [List.take_succ_cons]
    unfold runP at h ⊢
    split at h
    · rename_i hc
      rw [if_pos hc]
      exact runP_take h
    · cases h
theorem fits_take {body : Bs} {s : SrvM} (he : s.ended = false) (h : fitsB body s = true) (k : Nat) : fitsB body { s with parts := s.parts.take k } = true := by
  unfold fitsB at h ⊢
  simp only [Bool.and_eq_true] at h ⊢
  refine ⟨h.1, ?_⟩
  obtain ⟨_, h⟩ := h
  cases hr : runP body s.til s.frm s.parts with
  | none => rw [hr] at h; cases h
  | some e =>
    obtain ⟨e', he'⟩ := runP_take (k := k) hr
    simp only [he']
    rw [he]; rfl
theorem late_take {g : PrgM} {s : SrvM} {k : Nat} (h : lateP g { s with parts := s.parts.take k } = true) : lateP g s = true := by
  unfold lateP at *
  rw [List.any_eq_true] at *
  obtain ⟨x, hx, h⟩ := h
  exact ⟨x, List.mem_of_mem_take hx, h⟩
theorem purged_take {h : HisM} {s : SrvM} {k : Nat} (hp : purgedB h s = false) : purgedB h { s with parts := s.parts.take k } = false := by
  rw [Bool.eq_false_iff] at hp ⊢
  intro e
  refine hp ?_
  unfold purgedB at e ⊢
  rw [Bool.and_eq_true, List.any_eq_true] at e ⊢
  obtain ⟨e1, g, hg, e2⟩ := e
  refine ⟨e1, g, hg, ?_⟩
  simp only [Bool.and_eq_true] at e2 ⊢
  exact ⟨⟨⟨e2.1.1.1, late_take e2.1.1.2⟩, e2.1.2⟩, e2.2⟩
theorem mixed_take {h : HisM} {s : SrvM} {k : Nat} (he : s.ended = false) (hp : mixedB h s = false) : mixedB h { s with parts := s.parts.take k } = false := by
  rw [Bool.eq_false_iff] at hp ⊢
  intro e
  refine hp ?_
  unfold mixedB at e ⊢
  rw [List.all_eq_true] at e ⊢
  intro i hi
  have h9 := e i hi
  unfold fitI at h9 ⊢
  cases hx : h.pubs[i]? with
  | none => rfl
  | some p =>
    rw [hx] at h9
    simp only at h9 ⊢
    cases hf : fitsB p.body s with
    | false => rfl
    | true => rw [fits_take he hf k] at h9; cases h9
theorem parts_end {h : HisM} (hc : checkL h = []) {i : Nat} {s : SrvM} (hs : h.srvs[i]? = some s) (he : s.ended = false) (k : Nat) (pv : Value) : checkL { h with srvs := h.srvs.set i { s with parts := s.parts.take k, partsV := pv } } = [] := by
  rw [checkL_nil] at hc ⊢
  obtain ⟨h1, h2, h3, h4, h5⟩ := hc
  have hm := List.mem_of_getElem? hs
  refine ⟨fun x hx => ?_, h2, fun x hx => ?_, fun x hx => ?_, h5⟩
  · rcases List.mem_or_eq_of_mem_set hx with hx | rfl
    · exact h1 x hx
    · exact purged_take (s := s) (k := k) (h1 s hm)
  · rcases List.mem_or_eq_of_mem_set hx with hx | rfl
    · exact h3 x hx
    · exact h3 s hm
  · rcases List.mem_or_eq_of_mem_set hx with hx | rfl
    · exact h4 x hx
    · exact mixed_take (s := s) (k := k) he (h4 s hm)
end Hy
end Go.Proofs.YtjijijjkkhpjnaaGreatDoor
end

section
namespace Go.Proofs.YtjijijjkkhpjnaaGreatDoor
open Pl Ad
namespace Hy
theorem vio_one {α : Type} {r : Int} {tx : Bs} {bad : Nat → α → Bool} : ∀ {l : List α} {k i : Nat}, i < l.length → (∀ (j : Nat) x, l[j]? = some x → bad (k + j) x = decide (j = i)) → vioF r tx bad l k = [⟨r, (k + i : Nat), tx⟩]
  | [], k, i, h, _ => by simp at h
  | x :: l, k, 0, _, hb => by
    have h0 := hb 0 x (by simp)
    rw [Nat.add_zero] at h0
    unfold vioF
    rw [if_pos (by rw [h0]; rfl)]
    have hn : vioF r tx bad l (k + 1) = [] := vioF_nil.2 fun j y hy => by
      have := hb (j + 1) y (by simpa using hy)
      rw [show k + 1 + j = k + (j + 1) by omega, this]
      simp
    rw [hn]; rfl
  | x :: l, k, i + 1, hi, hb => by
    have h0 := hb 0 x (by simp)
    rw [Nat.add_zero] at h0
    unfold vioF
    rw [if_neg (by rw [h0]; simp)]
    have := vio_one (r := r) (tx := tx) (bad := bad) (l := l) (k := k + 1) (i := i) (by simpa using hi) (fun j y hy => by
      have := hb (j + 1) y (by simpa using hy)
      rw [show k + 1 + j = k + (j + 1) by omega, this]
      simp)
    rw [this, show k + 1 + i = k + (i + 1) by omega]
/-- Exactly one version: the list of the versions. -/
theorem vers_one {ps : List PubM} {a t : Bs} (h : (ps.filter fun p => isV p a t).length = 1) : ∃ i p, versM ps a t = [i] ∧ ps[i]? = some p ∧ isV p a t = true := by
  have gen : ∀ (l : List PubM) (k : Nat), (versF a t l k).length = (l.filter fun p => isV p a t).length := by
    intro l
    induction l with
    | nil => intro k; rfl
    | cons p r ih =>
      intro k
      unfold versF
      by_cases hp : isV p a t = true
      · rw [if_pos hp, List.filter_cons, if_pos hp, List.length_cons, List.length_cons, ih]
      · rw [if_neg hp, List.filter_cons, if_neg hp, ih]
  have h1 : (versM ps a t).length = 1 := (gen ps 0).trans h
  obtain ⟨i, hi⟩ := List.length_eq_one_iff.1 h1
  obtain ⟨p, hp, hv⟩ := versM_mem.1 (show i ∈ versM ps a t by rw [hi]; exact List.mem_singleton.2 rfl)
  exact ⟨i, p, hi, hp, hv⟩
theorem runP_spoilt {body : Bs} {til : Int} : ∀ {l : List PartM} {at_ : Int} {k : Nat} {e : Int} {x x' : PartM}, runP body til at_ l = some e → l[k]? = some x → x'.off = x.off → x'.data.length = x.data.length → x'.data ≠ x.data → runP body til at_ (l.set k x') = none
  | [], at_, k, e, x, x', _, hk, _, _, _ => by simp at hk
  | y :: r, at_, 0, e, x, x', h, hk, ho, hl, hd => by
    simp only [List.getElem?_cons_zero, Option.some.injEq] at hk
    subst hk
    rw [List.set_cons_zero]
    unfold runP at h ⊢
    split at h
    · rename_i hc
      rw [if_neg]
      rintro ⟨_, _, h3⟩
      rw [hl, ← hc.2.2] at h3
      exact hd h3
    · cases h
  | y :: r, at_, k + 1, e, x, x', h, hk, ho, hl, hd => by
    rw [List.set_cons_succ]
    unfold runP at h ⊢
    split at h
    · rename_i hc
      rw [if_pos hc]
      exact runP_spoilt h (by simpa using hk) ho hl hd
    · cases h
theorem fits_spoilt {body : Bs} {s : SrvM} {k : Nat} {x x' : PartM} (h : fitsB body s = true) (hk : s.parts[k]? = some x) (ho : x'.off = x.off) (hl : x'.data.length = x.data.length) (hd : x'.data ≠ x.data) (pv : Value) : fitsB body { s with parts := s.parts.set k x', partsV := pv } = false := by
  unfold fitsB at h ⊢
  simp only [Bool.and_eq_true] at h
  obtain ⟨_, h⟩ := h
  cases hr : runP body s.til s.frm s.parts with
  | none => rw [hr] at h; cases h
  | some e =>
    rw [runP_spoilt hr hk ho hl hd]
    simp
/-- The change of a byte violates the fourth rule, where the version is the only one. -/
theorem spoils {h : HisM} {i k : Nat} {s : SrvM} {x x' : PartM} (hc : vio4 h = []) (hs : h.srvs[i]? = some s) (hm : (h.pubs.filter fun p => isV p s.addr s.tag).length = 1) (hk : s.parts[k]? = some x) (ho : x'.off = x.off) (hl : x'.data.length = x.data.length) (hd : x'.data ≠ x.data) (pv : Value) :
    vio4 { h with srvs := h.srvs.set i { s with parts := s.parts.set k x', partsV := pv } } = [⟨4, (i : Int), tx4⟩] := by
  have hi := (List.getElem?_eq_some_iff.1 hs).1
  have hall : ∀ y ∈ h.srvs, mixedB h y = false := vio_all.1 hc
  obtain ⟨v, p, hv, hp, _⟩ := vers_one hm
  have hfit : fitsB p.body s = true := by
    have h1 := hall s (List.mem_of_getElem? hs)
    unfold mixedB at h1
    rw [hv, List.all_cons, List.all_nil, Bool.and_true] at h1
    unfold fitI at h1
    rw [hp] at h1
    simpa using h1
  have hbad := fits_spoilt hfit hk ho hl hd pv
  have h9 := vio_one (r := 4) (tx := tx4) (bad := fun _ y => mixedB { h with srvs := h.srvs.set i { s with parts := s.parts.set k x', partsV := pv } } y) (l := h.srvs.set i { s with parts := s.parts.set k x', partsV := pv }) (k := 0) (i := i) (by rw [List.length_set]; exact hi) (fun j y hy => by
    by_cases e : j = i
    · subst e
      rw [decide_eq_true rfl]
      rw [List.getElem?_set_self hi] at hy
      cases hy
      show mixedB h _ = true
      unfold mixedB
      show ((versM h.pubs s.addr s.tag).all _) = true
      rw [hv, List.all_cons, List.all_nil, Bool.and_true]
      unfold fitI
      rw [hp]
      simp only [hbad, Bool.not_false]
    · rw [decide_eq_false e]
      rw [List.getElem?_set_ne (fun h => e h.symm)] at hy
      exact hall y (List.mem_of_getElem? hy))
  rw [Nat.zero_add] at h9
  exact h9
/-- A byte that something was added to. -/
theorem byte_ne {l : Bs} {m : Nat} (hm : m < l.length) {b : UInt8} (hb : b ≠ 0) : l.set m (l[m] + b) ≠ l := fun h => by
  have h1 := congrArg (fun x => x[m]?) h
  simp only [List.getElem?_set_self hm, List.getElem?_eq_getElem hm, Option.some.injEq] at h1
  apply hb
  have h2 : l[m] + b = l[m] + 0 := by simpa using h1
  simpa using h2
/-! ### a body in parts -/
end Hy
end Go.Proofs.YtjijijjkkhpjnaaGreatDoor
end

