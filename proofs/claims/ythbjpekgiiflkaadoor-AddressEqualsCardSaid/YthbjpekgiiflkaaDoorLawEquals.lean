/- PROVED: AddressEquals returns true for every input and leaves its arguments as they were. No condition beyond the statement's own (the listed tables of package unicode/utf8 read as the program's text lays them, which the card ties). -/
import Derived.Test.YthbjpekgiiflkaaDoorFrame
import Derived.Test.YthbjpekgiiflkaaDoorAddrD
import Derived.Test.YthbjpekgiiflkaaDoorAddrE
import Derived.Test.YthbjpekgiiflkaaDoorAddrN
import Derived.Deep.RegionHeld3
import Derived.Test.YthbjpekgiiflkaaDoorOpen
namespace Go.Proofs.YthbjpekgiiflkaaDoor.lawEquals
open Go.ChangeShapes Go.WideShapes Go.ChangeAt Go.RowKit Pl Ad A1
open Go.ChangeMaps (open_string shut_string)
attribute [local go_sem] ba_get conv_one conv_one_drewN ba_append ba_extract
set_option maxRecDepth 100000
set_option maxHeartbeats 4000000
set_option linter.unusedVariables false


/-- The cells of the piece number k of a slice. -/
structure PieceAt (w : World) (b o k : Nat) (p : Pc) : Prop where
  c0 : w.cell? ⟨b, o + k * 4, none⟩ = some (.string ⟨p.text.toArray⟩)
  c1 : w.cell? ⟨b, o + k * 4 + 1, none⟩ = some (.int .u8 (p.enc : Int))
  c2 : w.cell? ⟨b, o + k * 4 + 2, none⟩ = some (.bool p.low)
  c3 : w.cell? ⟨b, o + k * 4 + 3, none⟩ = some (.int .u8 (p.bef : Int))
  e : p.enc ≤ 255
  f : p.bef ≤ 255
theorem PieceAt.below {w w' : World} {b o k B : Nat} {p : Pc} (h : PieceAt w b o k p) (hb : Below B w w') (hB : b < B) : PieceAt w' b o k p :=
  ⟨(hb.cell (p := ⟨b, _, none⟩) hB).trans h.c0, (hb.cell (p := ⟨b, _, none⟩) hB).trans h.c1, (hb.cell (p := ⟨b, _, none⟩) hB).trans h.c2, (hb.cell (p := ⟨b, _, none⟩) hB).trans h.c3, h.e, h.f⟩
/-- A slice of pieces. -/
def PiecesAt (w : World) (v : Value) (l : List Pc) : Prop := ∃ (a : Option Addr) (c : Nat), v = .slice a l.length c ∧ ∀ (k : Nat) (hk : k < l.length), ∃ b o : Nat, a = some ⟨b, o, none⟩ ∧ l.length ≤ c ∧ b < w.heap.size ∧ PieceAt w b o k l[k]

theorem open_pieces {H : Type} {enc : TypeId × Value → H} {W : World} {base b0 : Nat} {spare : Nat → Bool} {held : Bool} {r : Reach} {v : Value} {d : DataW H} {p : List MemPlace}
    (hv : Value.okWide Tryd.prog W r b0 32 v) (h : DataW.Trod enc Tryd.prog W base spare held 32 v d p) : ∃ l : List Pc, PiecesAt W v l := by
  obtain ⟨a, len, cap, rfl⟩ := okWide_slice Tryd.underlying32 hv
  obtain ⟨fuel, hf⟩ := h
  simp only [Value.cells] at hf
  rcases Op.open_slice_fields Tryd.underlying32 Tryd.underlying34 (by kernel_rfl) (show Tryd.prog.cellsOf 34 = 4 by kernel_rfl) hf with ⟨hcs, _⟩ | ⟨a', len', cap', m, D, Pl, hcs, _, hle, _, hm, _, hi⟩
  · simp only [List.cons.injEq, Value.slice.injEq, and_true] at hcs
    obtain ⟨rfl, rfl, rfl⟩ := hcs
    exact ⟨[], none, 0, rfl, fun k hk => absurd hk (Nat.not_lt_zero _)⟩
  · simp only [List.cons.injEq, Value.slice.injEq, and_true] at hcs
    obtain ⟨rfl, rfl, rfl⟩ := hcs
    have hlm : len ≤ m := by rw [hm]; split <;> omega
    have hsp : 0 < len → a'.spot = none := fun h0 => by
      obtain ⟨ys, n, _, _, _, hfs⟩ := hi 0 (by omega)
      obtain ⟨x0, _, e0, _, _⟩ := hfs 0 _ rfl
      simpa [Addr.add] using World.cell?_spot e0
    obtain ⟨l, hl, hR⟩ := Op.list_of (R := fun i (p : Pc) => ∃ b o : Nat, a' = ⟨b, o, none⟩ ∧ b < W.heap.size ∧ PieceAt W b o i p) len fun i hil => by
      obtain ⟨ys, n, _, _, _, hfs⟩ := hi i (by omega)
      obtain ⟨x0, y0, e0, _, t0⟩ := hfs 0 _ rfl
      obtain ⟨x1, y1, e1, _, t1⟩ := hfs 1 _ rfl
      obtain ⟨x2, y2, e2, _, t2⟩ := hfs 2 _ rfl
      obtain ⟨x3, y3, e3, _, t3⟩ := hfs 3 _ rfl
      obtain ⟨s0, g0, _, _⟩ := DataW.trod_string Tryd.underlying9 t0
      obtain ⟨n1, g1, _, w1⟩ := DataW.trod_int Tryd.underlying5 t1
      obtain ⟨b2, g2, _⟩ := DataW.trod_bool Tryd.underlying4 t2
      obtain ⟨n3, g3, _, w3⟩ := DataW.trod_int Tryd.underlying5 t3
      simp only [List.cons.injEq, and_true] at g0 g1 g2 g3
      subst g0 g1 g2 g3
      obtain ⟨r1, r1b⟩ := bounds_u8 w1
      obtain ⟨r3, r3b⟩ := bounds_u8 w3
      obtain ⟨k1, rfl⟩ := Int.eq_ofNat_of_zero_le r1
      obtain ⟨k3, rfl⟩ := Int.eq_ofNat_of_zero_le r3
      obtain ⟨⟨s0⟩⟩ := s0
      obtain ⟨b, o, spot⟩ := a'
      obtain rfl : spot = none := hsp (by omega)
      simp only [Op.add_off] at e0 e1 e2 e3
      exact ⟨⟨s0, k1, b2, k3⟩, b, o, rfl, Op.cell_lt e0, ⟨e0, e1, e2, e3, by show k1 ≤ 255; omega, by show k3 ≤ 255; omega⟩⟩
    subst hl
    exact ⟨l, some a', cap, rfl, fun k hk => by
      obtain ⟨b, o, e, hb, hp⟩ := hR k hk
      exact ⟨b, o, by rw [e], hle, hb, hp⟩⟩

/-- A raw piece as the plain law has it: the place and the choice reduced. -/
def nrm (p : Pc) : Pc := ⟨p.text, p.enc % p.text.length, p.low, p.bef % 4⟩
theorem other_nrm (p : Pc) : (nrm p).other = befores.getD (p.bef % 4) [] ++ enc1 p.text (p.enc % p.text.length) p.low := rfl
def plN (l : List Pc) : Bs := plainP (l.map nrm)
def otN (l : List Pc) : Bs := otherP (l.map nrm)
theorem plN_snoc (l : List Pc) (p : Pc) : plN (l ++ [p]) = plN l ++ 47 :: p.text := by simp [plN, plainP, nrm]
theorem otN_snoc (l : List Pc) (p : Pc) : otN (l ++ [p]) = otN l ++ 47 :: (befores.getD (p.bef % 4) [] ++ enc1 p.text (p.enc % p.text.length) p.low) := by simp [otN, otherP, other_nrm]
def ClN (l : List Pc) : Prop := Ad.Clean (l.map nrm)
theorem clN_nil : ClN [] := by simp [ClN, Ad.Clean]
theorem clN_snoc {l : List Pc} {p : Pc} (h : ClN l) (h1 : (37 : UInt8) ∉ p.text) (h2 : (63 : UInt8) ∉ p.text) : ClN (l ++ [p]) := by
  intro q hq
  simp only [List.map_append, List.map_cons, List.map_nil, List.mem_append, List.mem_singleton] at hq
  rcases hq with hq | rfl
  · exact h q hq
  · exact ⟨h1, h2⟩
theorem enc1_len (t : Bs) (i : Nat) (low : Bool) : (enc1 t i low).length ≤ t.length + 2 := by
  unfold enc1
  split
  · omega
  · rename_i c r hd
    split
    · have h1 : t.length = (t.take i).length + (c :: r).length := by rw [← hd, ← List.length_append, List.take_append_drop]
      simp only [List.length_append, List.length_cons, encB, List.length_nil] at h1 ⊢
      omega
    · omega

/-- A piece's variable, and the world below as it was. -/
structure KBox (w : World) (R : Nat) (t : Bs) (en bf : Nat) (low : Bool) (w' : World) : Prop where
  bel : Below w.heap.size w w'
  sz : R < w'.heap.size
  box : Box w' R 34 (.string ⟨t.toArray⟩) (.int .u8 (en : Int)) (.bool low) (.int .u8 (bf : Int))
theorem KBox.keep {w : World} {R : Nat} {t : Bs} {en bf : Nat} {low : Bool} {w1 w2 : World} {N : Nat} (hb : Below N w1 w2) (hN : N = w1.heap.size) (s : KBox w R t en bf low w1) : KBox w R t en bf low w2 := by
  subst hN
  exact ⟨s.bel.trans (hb.mono s.bel.size), Nat.lt_of_lt_of_le s.sz hb.size, s.box.below hb s.sz⟩
theorem KBox.drew {w : World} {R : Nat} {t : Bs} {en bf : Nat} {low : Bool} {w1 : World} (s : KBox w R t en bf low w1) : KBox w R t en bf low w1.drew := ⟨s.bel.drew, s.sz, s.box⟩
theorem KBox.newer {w : World} {R : Nat} {t : Bs} {en bf : Nat} {low : Bool} {w1 : World} (s : KBox w R t en bf low w1) (o : Obj) : KBox w R t en bf low (w1.alloc o) := s.keep ((Below.refl _ _).alloc (Nat.le_refl _) o) rfl
theorem KBox.of {w wr : World} {t : Bs} {en bf : Nat} {low : Bool} {w' : World} (s : w'.cell? ⟨wr.heap.size, 0, none⟩ = some (.string ⟨t.toArray⟩) ∧ w'.cell? ⟨wr.heap.size, 1, none⟩ = some (.int .u8 (en : Int)) ∧ w'.cell? ⟨wr.heap.size, 2, none⟩ = some (.bool low) ∧ w'.cell? ⟨wr.heap.size, 3, none⟩ = some (.int .u8 (bf : Int)) ∧ KBox w wr.heap.size t en bf low w') : KBox w wr.heap.size t en bf low w' := s.2.2.2.2
theorem KBox.all {w wr : World} {t : Bs} {en bf : Nat} {low : Bool} {w' : World} (s : KBox w wr.heap.size t en bf low w') : w'.cell? ⟨wr.heap.size, 0, none⟩ = some (.string ⟨t.toArray⟩) ∧ w'.cell? ⟨wr.heap.size, 1, none⟩ = some (.int .u8 (en : Int)) ∧ w'.cell? ⟨wr.heap.size, 2, none⟩ = some (.bool low) ∧ w'.cell? ⟨wr.heap.size, 3, none⟩ = some (.int .u8 (bf : Int)) ∧ KBox w wr.heap.size t en bf low w' := by
  obtain ⟨⟨a0, a1, a2, a3⟩, _⟩ := s.box.facts
  exact ⟨a0, a1, a2, a3, s⟩

theorem befores_at (x : Nat) (hx : x < 4) : ([Value.string ⟨#[]⟩, Value.string ⟨#[46, 47]⟩, Value.string ⟨#[120, 47, 46, 46, 47]⟩, Value.string ⟨#[46, 47, 46, 47]⟩] : List Value)[x]'hx = .string ⟨(befores.getD x []).toArray⟩ ∧ (befores.getD x []).length ≤ 5 := by
  match x, hx with
  | 0, _ => exact ⟨rfl, by decide⟩
  | 1, _ => exact ⟨rfl, by decide⟩
  | 2, _ => exact ⟨rfl, by decide⟩
  | 3, _ => exact ⟨rfl, by decide⟩

theorem walk_large (v : Value) (q : Bs) (l : List Pc) (w : World) (hr : Ready w) (hv : PiecesAt w v l) (h2 : q.length ≤ 140737488351232) (hl : ¬ (l.length ≤ 12 ∧ q.length ≤ 200)) :
    Calls Tryd.prog 4 #[v, .string ⟨q.toArray⟩] w fun e w' => e = .returned (.bool true) ∧ Below w.heap.size w w' := by
  obtain ⟨a, c, rfl, _⟩ := hv
  by_cases hl1 : l.length ≤ 12
  all_goals
    go_enter Tryd.func4, Tryd.ntmps4
    go_wp2_with fail
    refine (awake_any _ hr).mono ?_
    rintro e w1 ⟨rfl, hb1⟩
    go_wp2_with fail
    refine (awake_any _ (hr.below hb1)).mono ?_
    rintro e w2 ⟨rfl, hb2⟩
    go_wp2_with fail
    go_ret
    exact ⟨rfl, hb1.trans (hb2.mono hb1.size)⟩

theorem walk_main (v : Value) (q : Bs) (l : List Pc) (w : World) (hr : Ready w) (hv : PiecesAt w v l) (hl1 : l.length ≤ 12) (hl2 : q.length ≤ 200) :
    Calls Tryd.prog 4 #[v, .string ⟨q.toArray⟩] w fun e w' => e = .returned (.bool true) ∧ Below w.heap.size w w' := by
  obtain ⟨a, c, rfl, hP⟩ := hv
  have HP := Lib.hid hP
  clear hP
  have hr0 := Lib.hid hr
  go_enter Tryd.func4, Tryd.ntmps4
  go_wp2_with fail
  refine (awake_any _ hr).mono ?_
  rintro e w1 ⟨rfl, hb1⟩
  have HB1 := Lib.hid hb1
  clear hr hb1
  go_wp2_with fail
  go_loopw [5, 6, 29] (fun s1 s2 i wr => ∃ k : Nat, k ≤ l.length ∧ i = .int .i64 k ∧ s1 = .string ⟨(plN (l.take k)).toArray⟩ ∧ s2 = .string ⟨(otN (l.take k)).toArray⟩ ∧ (plN (l.take k)).length ≤ 41 * k ∧ (otN (l.take k)).length ≤ 48 * k ∧ Below w.heap.size w wr ∧ Hid (ClN (l.take k))) (fun _ _ i _ => l.length - (intOf i).toNat)
  case atStart => exact ⟨0, Nat.zero_le _, rfl, rfl, rfl, by simp [plN, plainP], by simp [otN, otherP], HB1.out, clN_nil⟩
  case round =>
    obtain ⟨k, hk, rfl, rfl, rfl, hpl, hol, hb, HC⟩ := hrel
    have hz := hb.size
    by_cases hlt : k < l.length
    · obtain ⟨b, o, rfl, hcap, hbw, hpc⟩ := HP.out k hlt
      obtain ⟨c0, c1, c2, c3, hen, hbf⟩ := hpc.below hb hbw
      have HT := Lib.hid (take_snoc hlt)
      generalize l[k] = p at c0 c1 c2 c3 hen hbf HT
      obtain ⟨t, en, low, bf⟩ := p
      simp only at c0 c1 c2 c3 hen hbf
      clear hpc
      by_cases h40 : 40 < t.length
      · go_wp2_with fail
        go_ret
        exact ⟨rfl, hb.alloc (by omega) _⟩
      · go_wp2_with fail
        go_loop [40] (fun i => ∃ m : Nat, m ≤ t.length ∧ i = .int .i64 m ∧ Hid ((37 : UInt8) ∉ t.take m ∧ (63 : UInt8) ∉ t.take m)) (fun i => t.length - (intOf i).toNat)
        case atStart => exact ⟨0, Nat.zero_le _, rfl, by simp, by simp⟩
        case round =>
          obtain ⟨m, hm, rfl, H⟩ := hrel
          by_cases hlt3 : m < t.length
          · have HS := Lib.hid (take_snoc hlt3)
            generalize hz : t[m] = z at HS
            by_cases h63 : z = 63
            · have hz1 : ((z.toNat : Int) == 63) = true := by rw [h63]; rfl
              clear h63
              go_wp2_with fail
              go_ret
              exact ⟨rfl, hb.alloc (by omega) _⟩
            · have hz1 : ((z.toNat : Int) == 63) = false := beq_eq_false_iff_ne.2 (fun h => h63 (UInt8.toNat_inj.1 (show z.toNat = 63 by omega)))
              by_cases h37 : z = 37
              · have hz2 : ((z.toNat : Int) == 37) = true := by rw [h37]; rfl
                clear h63 h37
                go_wp2_with fail
                go_ret
                exact ⟨rfl, hb.alloc (by omega) _⟩
              · have hz2 : ((z.toNat : Int) == 37) = false := beq_eq_false_iff_ne.2 (fun h => h37 (UInt8.toNat_inj.1 (show z.toNat = 37 by omega)))
                have HG := Lib.hid (show (37 : UInt8) ∉ t.take (m + 1) ∧ (63 : UInt8) ∉ t.take (m + 1) by
                  rw [HS.out]
                  obtain ⟨g1, g2⟩ := H.out
                  exact ⟨by simp only [List.mem_append, List.mem_singleton, not_or]; exact ⟨g1, fun e => h37 e.symm⟩, by simp only [List.mem_append, List.mem_singleton, not_or]; exact ⟨g2, fun e => h63 e.symm⟩⟩)
                clear h63 h37
                go_wp2_with fail
                go_round
                case rel => exact ⟨m + 1, by omega, by go_num, HG.out⟩
                case measure => simp [intOf]; omega
          · have HG := Lib.hid (show (37 : UInt8) ∉ t ∧ (63 : UInt8) ∉ t by
              have h9 := H.out
              rw [List.take_of_length_le (by omega)] at h9
              exact h9)
            clear H
            go_wp2_with fail
            have hB : KBox w wr.heap.size t en bf low (wr.alloc (.cells #[.string ⟨t.toArray⟩, .int .u8 (en : Int), .bool low, .int .u8 (bf : Int)] 34)) := ⟨hb.alloc (by omega) _, by simp, box_new wr 34 _ _ _ _⟩
            have hl5 := enc1_len t (en % t.length) low
            have m1 : ((bf : Int)).tmod 4 = ((bf % 4 : Nat) : Int) := by rw [Int.tmod_eq_emod_of_nonneg (by omega)]; omega
            have m2 : (bf : Int) % 4 = ((bf % 4 : Nat) : Int) := by omega
            have hx4 : bf % 4 < 4 := by omega
            have HO := Lib.hid (otN_snoc (l.take k) ⟨t, en, low, bf⟩)
            have HPN := Lib.hid (plN_snoc (l.take k) ⟨t, en, low, bf⟩)
            simp only at HO
            clear c0 c1 c2 c3
            generalize bf % 4 = x at m1 m2 hx4 HO
            obtain ⟨hq, hql⟩ := befores_at x hx4
            generalize befores.getD x [] = bx at HO hq hql
            have hx5 : (0 : Int) ≤ (x : Int) := by omega
            have hx6 : (x : Int) < 4 := by omega
            go_region_with (go_at_call 16; refine (written_any t en bf low _ (by omega) (by omega)).mono ?_; rintro e w9 ⟨rfl, hb9⟩; have g9 := hb9.cell (p := ⟨wr.heap.size + 1, x, none⟩); try simp at g9; have hK := KBox.keep (w := w) (R := wr.heap.size) (t := t) (en := en) (bf := bf) (low := low) hb9 rfl (by (repeat (first | assumption | (refine KBox.of ?_; assumption) | (with_reducible refine KBox.drew ?_) | (with_reducible refine KBox.newer ?_ _) | (with_reducible refine KBox.keep hb9 rfl ?_)))); obtain ⟨⟨d0, d1, d2, d3⟩, _⟩ := hK.box.facts)
            all_goals
              go_wp2_with fail
              go_roundw
              case rel => exact ⟨k + 1, by omega, by go_num, by rw [HT.out, HPN.out], by rw [HT.out, HO.out], by rw [HT.out, HPN.out]; simp; omega, by rw [HT.out, HO.out]; simp; omega, KBox.bel (R := wr.heap.size) (t := t) (en := en) (bf := bf) (low := low) (by (repeat (first | assumption | (refine KBox.of ?_; assumption) | (with_reducible refine KBox.drew ?_) | (with_reducible refine KBox.newer ?_ _) | (with_reducible refine KBox.keep hb9 rfl ?_)))), by show ClN _; rw [HT.out]; exact clN_snoc HC.out HG.out.1 HG.out.2⟩
              case measure => simp [intOf]; omega
    · have hte : l.take k = l := List.take_of_length_le (by omega)
      rw [hte] at hpl hol
      have HE := Lib.hid (show parse [104] (plN l ++ 63 :: q) = parse [72] (otN l ++ 63 :: q) from equal_parse (l.map nrm) q (by have h9 := HC.out; rw [hte] at h9; exact h9))
      have HTE := Lib.hid hte
      clear hte HC
      have hr1 := Lib.hid (hr0.out.below hb)
      have hB0 := Lib.hid hb
      rw [HTE.out]
      generalize plN l = P at hpl HE ⊢
      generalize otN l = O at hol HE ⊢
      clear hb
      cases hp : parse [104] (P ++ 63 :: q) with
      | error n =>
        have HP1 := Lib.hid hp
        have HP2 := Lib.hid (HE.out.symm.trans hp)
        clear hp HE
        go_wp2_with fail
        refine (parse_err (h := [104]) (t := P ++ 63 :: q) _ (by decide) (by simp; omega) hr1.out HP1.out).mono ?_
        rintro e w2 ⟨rfl, hb2⟩
        have hB2 := Lib.hid ((hB0.out.trans (hb2.mono hB0.out.size)).alloc (by have := hB0.out.size; have := hb2.size; omega) (.cells #[.string ⟨#[]⟩, .string ⟨#[]⟩, .string ⟨#[]⟩, .bool false] 38))
        have hr2 := Lib.hid (hr0.out.below hB2.out)
        go_wp2_with fail
        refine (parse_err (h := [72]) (t := O ++ 63 :: q) _ (by decide) (by simp; omega) hr2.out HP2.out).mono ?_
        rintro e w3 ⟨rfl, hb3⟩
        have hX3 := (box_new w2 38 (.string ⟨#[]⟩) (.string ⟨#[]⟩) (.string ⟨#[]⟩) (.bool false)).below hb3 (by simp)
        have hB3 := Lib.hid ((hB2.out.trans (hb3.mono hB2.out.size)))
        obtain ⟨⟨c0, c1, c2, c3⟩, _, hz3⟩ := hX3.facts
        go_wp2_with (go_at_call 18; refine (num_err n _).mono ?_; rintro e w9 ⟨rfl, rfl⟩)
        go_ret
        exact ⟨ret_bool (by simp), hB3.out.alloc hB3.out.size _⟩
      | ok a =>
        obtain ⟨ah, ap, aq, ab⟩ := a
        have HP1 := Lib.hid hp
        have HP2 := Lib.hid (HE.out.symm.trans hp)
        clear hp HE
        go_wp2_with fail
        refine (parse_ok (h := [104]) (t := P ++ 63 :: q) _ (by decide) (by simp; omega) hr1.out HP1.out).mono ?_
        rintro e w2 ⟨rfl, hb2⟩
        have hB2 := Lib.hid ((hB0.out.trans (hb2.mono hB0.out.size)).alloc (by have := hB0.out.size; have := hb2.size; omega) (.cells #[.string ⟨ah.toArray⟩, .string ⟨ap.toArray⟩, .string ⟨aq.toArray⟩, .bool ab] 38))
        have hr2 := Lib.hid (hr0.out.below hB2.out)
        go_wp2_with fail
        refine (parse_ok (h := [72]) (t := O ++ 63 :: q) _ (by decide) (by simp; omega) hr2.out HP2.out).mono ?_
        rintro e w3 ⟨rfl, hb3⟩
        have hX3 := (box_new w2 38 (.string ⟨ah.toArray⟩) (.string ⟨ap.toArray⟩) (.string ⟨aq.toArray⟩) (.bool ab)).below hb3 (by simp)
        have hB3 := Lib.hid ((hB2.out.trans (hb3.mono hB2.out.size)))
        obtain ⟨⟨c0, c1, c2, c3⟩, _, hz3⟩ := hX3.facts
        go_wp2_with (go_at_call 18; refine (num_nil _).mono ?_; rintro e w9 ⟨rfl, rfl⟩)
        go_ret
        exact ⟨ret_bool (by simp), hB3.out.alloc hB3.out.size _⟩

theorem walk (l : List Pc) (v : Value) (q : Bs) (w : World) (hr : Ready w) (hv : PiecesAt w v l) (h2 : q.length ≤ 140737488351232) :
    Calls Tryd.prog 4 #[v, .string ⟨q.toArray⟩] w fun e w' => e = .returned (.bool true) ∧ Below w.heap.size w w' := by
  by_cases hl : l.length ≤ 12 ∧ q.length ≤ 200
  · exact walk_main v q l w hr hv hl.1 hl.2
  · exact walk_large v q l w hr hv h2 hl

/-- What the walk gives, for every argument. -/
theorem contract (H : Type) (enc : TypeId × Value → H) (W : World) (base : Nat) (args : Array Value) (ds gs : List (DataW H)) (before : List MemPlace)
    (hval : ∀ (j : Nat) t v, Tryd.f4.params[j]? = some t → args[j]? = some v → Value.okWide Tryd.prog W .any base t v)
    (hW : DataW.Whole enc Tryd.prog Tryd.f4.params.toList Rows.addressEqualsSpec.vars false W args.toList ds gs before) (hsz : (DataW.weightsEach Tryd.prog Tryd.f4.params.toList (ds ++ gs)).all (· ≤ reachBytes) = true) (hr : Ready W) :
    Calls Tryd.prog 4 args W fun e W' => ∃ v, e = .returned v ∧ Rows.addressEqualsSpec.post enc Tryd.prog Tryd.f4 false true false false W args v W' := by
  have hW' := hW
  have hlt := fun p hp => hW.lt p hp
  obtain ⟨p, q, hA0, hV, rfl, hfz, hnd⟩ := hW
  have hA : DataW.TrodAll enc Tryd.prog W 0 (fun _ => true) true Tryd.f4.params.toList args.toList ds p := hA0
  have hA1 := hA
  obtain ⟨rfl, rfl⟩ := trodVars_none hV
  rw [Tryd.params4] at hA hval
  obtain ⟨v0, vs0, d0, ds0, p0, q0, hargs, rfl, rfl, h0, r0⟩ := trodAll_cons hA
  obtain ⟨v1, vs1, d1, ds1, p1, q1, rfl, rfl, rfl, h1, r1⟩ := trodAll_cons r0
  obtain ⟨rfl, rfl, rfl⟩ := trodAll_nil r1
  obtain rfl : args = #[v0, v1] := by cases args; simp_all
  have fin : ∀ W', Below W.heap.size W W' → Rows.addressEqualsSpec.post enc Tryd.prog Tryd.f4 false true false false W #[v0, v1] (.bool true) W' := fun W' hb => by
    simp only [List.append_nil] at hA1 hW' hlt
    exact ⟨_, _, _, [], _, [], hW', trodAll_cons_mk (shut_bool Tryd.underlying4 _) trodAll_mk0, Fr.trodAll_below (by kernel_rfl) _ (by kernel_rfl) hA1 hb hlt, rfl, hb.frame _, fun h => by cases h⟩
  clear hW' hA0 hA1 hlt
  rw [Tryd.params4, List.append_nil] at hsz
  obtain ⟨l0, hl0⟩ := open_pieces (hval 0 _ v0 rfl rfl) h0
  obtain ⟨s1, rfl, rfl, rfl, hs1⟩ := open_string Tryd.underlying9 (hval 1 9 v1 rfl rfl) h1
  obtain ⟨⟨l1⟩⟩ := s1
  have z1 : l1.length ≤ 140737488351232 := sized_string hsz (j := 1) rfl rfl
  refine (walk l0 v0 l1 W hr hl0 z1).mono fun e W' ⟨he, hb⟩ => ?_
  subst he
  exact ⟨_, rfl, fin W' hb⟩

theorem laid_met (os : Os) : laidMet Tryd.prog Rows.addressEqualsRow.laid ((Fr.laidWorld os).forCall (fun _ _ => 0) ⟨#[], #[.slice none 0 0, .string ⟨#[]⟩], []⟩).memory :=
  laidMet_of_run' 8 (by kernel_rfl) (by kernel_rfl)
theorem reads (os : Os) {H : Type} (enc : TypeId × Value → H) : ∃ places, DataW.whole enc Tryd.prog ((Fr.laidWorld os).forCall (fun _ _ => 0) ⟨#[], #[.slice none 0 0, .string ⟨#[]⟩], []⟩).memory Tryd.f4.params.toList Rows.addressEqualsSpec.vars false (#[.slice none 0 0, .string ⟨#[]⟩] : Array Value).toList 8 = some ([.nil, .lit (.string [])], [], places) :=
  ⟨[], by kernel_rfl⟩

theorem lifted (os : Os) (started : os.Started) (H : Type) (enc : TypeId × Value → H) (F : Stop.Interp) :
    ReturnsInHanded {} Tryd.checked os 4 .any ((OpenSpec.ofChange Rows.addressEqualsSpec).preRow enc Tryd.prog Tryd.f4 Rows.addressEqualsRow.domain false Rows.addressEqualsRow.laid) (((OpenSpec.ofChange Rows.addressEqualsSpec).at F).post enc Tryd.prog Tryd.f4 false true false false) := by
  obtain ⟨places, hx⟩ := reads os enc
  refine returnsInHanded_of_row (C := Tryd.checked) (s := OpenSpec.ofChange Rows.addressEqualsSpec) Fr.own started (by kernel_rfl) Tryd.func4
    (witness_row_at (enc := enc) (C := Tryd.checked) false (Fr.laidWorld os) #[.slice none 0 0, .string ⟨#[]⟩] rfl (by kernel_rfl) (by kernel_rfl) (by kernel_rfl)
      (OpenSpec.preRow_of_cond 8 hx (by kernel_rfl) (fun k hk => by cases hk) (by kernel_rfl) (laid_met os))) ?_
  intro W base args ds gs before hval hW _ hcond hsz _ hsh _
  exact contract H enc W base args ds gs before hval hW (by have h9 : (DataW.weightsEach Tryd.prog (Tryd.f4.params.toList ++ []) (ds ++ gs)).all (· ≤ reachBytes) = true := hsz; rw [List.append_nil] at h9; exact h9) (Fr.ready hsh)

theorem said : Rows.AddressEqualsSaid :=
  OpenClaim.holds_of_cond 4 Tryd.f4 rfl rfl rfl rfl rfl rfl rfl ⟨rfl, rfl, rfl, rfl, rfl⟩ rfl rfl rfl rfl rfl (by kernel_rfl) Tryd.func4 (by kernel_rfl)
    (of_decide_eq_true (by kernel_rfl)) (by unfold Func.isWrapper; first | (rw [if_pos (by decide +kernel)]; kernel_rfl) | (rw [if_neg (by decide +kernel)]; exact ⟨rfl, rfl⟩))
    (fun os started H enc _ F => by rw [OpenClaim.pre_eq_preRow]; exact lifted os started H enc F)

theorem plain (f : FuncId) (fn : Func) (hf : Tryd.pinned.checked.prog.funcNamed "quayside/quaysidelaw03.AddressEquals" = some f) (hfn : Tryd.pinned.checked.prog.funcs[f]? = some fn) :
    true = Tryd.pinned.checked.prog.looks [] ∧ ∀ (j : Nat) t, fn.params[j]? = some t → Tryd.pinned.checked.prog.wantsStandIn t = false := by
  obtain rfl : f = 4 := Option.some.inj ((show Tryd.prog.funcNamed "quayside/quaysidelaw03.AddressEquals" = some 4 by kernel_rfl).symm.trans hf) |>.symm
  obtain rfl : fn = Tryd.f4 := (Option.some.inj (Tryd.func4.symm.trans hfn)).symm
  refine ⟨by kernel_rfl, fun j t ht => ?_⟩
  rw [Tryd.params4] at ht
  have hm : t ∈ [32, 9] := by simpa using Array.mem_of_getElem? ht
  have hall : ([32, 9].all fun u => !Tryd.prog.wantsStandIn u) = true := by kernel_rfl
  exact (show Tryd.prog.wantsStandIn t = false by simpa using List.all_eq_true.1 hall t hm)

theorem proved : Rows.AddressEqualsCardSaid :=
  Claim7.holds_tied_plain_at .later [] _ _ _ _ said (fun _ h => by cases h) (by kernel_rfl) (fun _ h => by cases h) addressEquals_row_tie rfl ⟨rfl, rfl⟩ (by kernel_rfl) rfl plain (by kernel_rfl)
#print axioms proved
end Go.Proofs.YthbjpekgiiflkaaDoor.lawEquals
