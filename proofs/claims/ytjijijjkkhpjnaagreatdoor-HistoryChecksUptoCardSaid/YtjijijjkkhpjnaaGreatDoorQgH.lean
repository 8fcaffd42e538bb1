/- Contracts and plain facts that the statement's proof leans on (texts joined). No condition beyond those that each names. -/
import Derived.Test.YtjijijjkkhpjnaaGreatDoorRows
import GoSem.Op.String
import Derived.Lib.ItoaNum
import Derived.Maps.OwnSet
import Derived.Maps.RangeWalk
import Derived.Deep.RegionHeld3
import Derived.OrdersHeld
import Derived.Test.YtjijijjkkhpjnaaGreatDoorQgA
import Derived.Test.YtjijijjkkhpjnaaGreatDoorQgC
import Derived.Test.YtjijijjkkhpjnaaGreatDoorQgE
import Derived.Test.YtjijijjkkhpjnaaGreatDoorQgG
section
namespace Go.Proofs.YtjijijjkkhpjnaaGreatDoor
open Go.ChangeShapes Go.WideShapes Go.Deep Go.RowKit Pl A1 Ad Hy
set_option maxRecDepth 100000
set_option linter.unusedVariables false
namespace Hy
/-- What lies where a history's element says. -/
def PubAt (w : World) (B : Nat) (p : PubM) : Prop := p.addr.length ≤ B ∧ p.tag.length ≤ B ∧ SrcAt w p.bodyV p.body.length (bvals p.body) ∧ p.body.length ≤ B ∧ RowsV Sg.byteC 1 w p.bodyV p.body
def PrgAt (_w : World) (B : Nat) (g : PrgM) : Prop := g.text.length ≤ B
def PartAt (w : World) (B : Nat) (x : PartM) : Prop := SrcAt w x.dV x.data.length (bvals x.data) ∧ x.data.length ≤ B
def SrvAt (w : World) (B : Nat) (s : SrvM) : Prop := s.edge.length ≤ B ∧ s.addr.length ≤ B ∧ s.tag.length ≤ B ∧ StrsV w s.tagsV s.tags ∧ s.tags.length ≤ B ∧ (∀ t ∈ s.tags, t.length ≤ B) ∧ RowsV partR 3 w s.partsV s.parts ∧ s.parts.length ≤ B ∧ ∀ x ∈ s.parts, PartAt w B x
def FetAt (_w : World) (B : Nat) (f : FetM) : Prop := f.node.length ≤ B ∧ f.key.length ≤ B ∧ f.tag.length ≤ B
def DroAt (_w : World) (B : Nat) (d : DroM) : Prop := d.node.length ≤ B ∧ d.key.length ≤ B
end Hy
namespace Op
theorem bulk_all_mem {H : Type} {d : DataW H} : ∀ {ds : List (DataW H)}, d ∈ ds → Rows.uptoBulk d ≤ Rows.uptoBulkAll ds
  | [], h => by cases h
  | e :: r, h => by
    rw [Rows.uptoBulkAll]
    rcases List.mem_cons.1 h with rfl | h
    · omega
    · have := bulk_all_mem h; omega
theorem bulk_pos {H : Type} (d : DataW H) : 1 ≤ Rows.uptoBulk d := by
  cases d with
  | lit l => cases l <;> simp [Rows.uptoBulk]
  | _ => simp [Rows.uptoBulk]
theorem bulk_all_len {H : Type} : ∀ ds : List (DataW H), ds.length ≤ Rows.uptoBulkAll ds
  | [] => Nat.zero_le _
  | d :: r => by
    rw [Rows.uptoBulkAll, List.length_cons]
    have h1 := bulk_pos d
    have h2 := bulk_all_len r
    omega
/-- A slice of structs whose bulk is bounded. -/
theorem open_rowsB {α H : Type} {enc : TypeId × Value → H} {P : Program} {w : World} {base B : Nat} {spare : Nat → Bool} {held : Bool} {R : α → List Value} {k : Nat} (K : α → Prop) {t e : TypeId} {fuel : Nat} {v : Value} {x : DataW H × List MemPlace}
    (ht : P.underlying t = some (.slice e)) (hC : P.cellsOf e = k) (hk : 0 < k) (hB : Rows.uptoBulk x.1 ≤ B)
    (hrow : ∀ n cs y, cs.length = k → DataW.trod enc P w base spare held n e cs = some y → Rows.uptoBulk y.1 ≤ B → ∃ x : α, cs = R x ∧ K x)
    (h : DataW.trod enc P w base spare held fuel t [v] = some x) : ∃ xs : List α, RowsV R k w v xs ∧ xs.length ≤ B ∧ ∀ x ∈ xs, K x := by
  rcases open_slice ht h with ⟨h1, _⟩ | ⟨a, len, cap, m, n, D, Pl, hcs, hb, hl, hm, hmm, hx, hi⟩
  · simp only [List.cons.injEq, and_true] at h1
    exact ⟨[], .inl ⟨rfl, .inl h1⟩, Nat.zero_le _, fun x hx => by cases hx⟩
  · simp only [List.cons.injEq, and_true] at hcs
    subst hcs
    have hbulk : Rows.uptoBulkAll ((List.range len).map D) ≤ B := by
      have h9 := congrArg Prod.fst hx
      simp only at h9
      rw [h9] at hB
      simp only [Rows.uptoBulk] at hB
      omega
    have hlenB : len ≤ B := by
      have := bulk_all_len ((List.range len).map D)
      rw [List.length_map, List.length_range] at this
      omega
    rcases Nat.eq_zero_or_pos len with h0 | h0
    · subst h0
      exact ⟨[], .inl ⟨rfl, .inr ⟨a, cap, rfl⟩⟩, Nat.zero_le _, fun x hx => by cases hx⟩
    · have hle : len ≤ m := by rw [hmm]; split <;> omega
      have hg : ∀ i, i < len → ∃ x : α, K x ∧ ∀ j u, (R x)[j]? = some u → w.cell? (a.add (i * k + j)) = some u := fun i hil => by
        obtain ⟨cs', hc, ht'⟩ := hi i (by omega)
        rw [hC] at hc
        obtain ⟨_, hcl, hat⟩ := World.cells?_some hc
        have hDi : Rows.uptoBulk (D i) ≤ B := Nat.le_trans (bulk_all_mem (List.mem_map.2 ⟨i, List.mem_range.2 hil, rfl⟩)) hbulk
        obtain ⟨x, hx, hkx⟩ := hrow n cs' _ hcl ht' hDi
        refine ⟨x, hkx, fun j u hu => ?_⟩
        have hj : j < k := by
          have := (List.getElem?_eq_some_iff.1 hu).1
          rw [← hx, hcl] at this; exact this
        rw [← Go.Deep.add_add, hat j hj, hx]; exact hu
      obtain ⟨xs, hxl, hxs⟩ := list_of len hg
      obtain ⟨b, o, sp⟩ := a
      obtain ⟨x0, _, hx0⟩ := hg 0 h0
      obtain ⟨cs0, hc0, ht0⟩ := hi 0 (by omega)
      rw [hC] at hc0
      obtain ⟨_, hcl0, hat0⟩ := World.cells?_some hc0
      have h00 := hat0 0 hk
      have hsome : w.cell? ((Addr.add (Addr.add ⟨b, o, sp⟩ (0 * k)) 0)) = some (cs0[0]'(by omega)) := by rw [h00]; exact List.getElem?_eq_getElem (by omega)
      rw [Go.Deep.add_add] at hsome
      obtain rfl : sp = none := by simpa [Addr.add] using World.cell?_spot hsome
      rw [add_off] at hsome
      refine ⟨xs, .inr ⟨b, o, cap, by rw [hxl], by omega, cell_lt hsome, fun i x hx j u hu => ?_⟩, by omega, fun x hx => ?_⟩
      · obtain ⟨hil, hix⟩ := List.getElem?_eq_some_iff.1 hx
        have := (hxs i hil).2 j u (by rw [hix]; exact hu)
        rw [add_off] at this
        exact this
      · obtain ⟨i, hil, rfl⟩ := List.getElem_of_mem hx
        exact (hxs i hil).1
theorem bytes_trodB {H : Type} {enc : TypeId × Value → H} {w : World} {base n B : Nat} {spare : Nat → Bool} {held : Bool} {v : Value} {y : DataW H × List MemPlace}
    (h : DataW.trod enc Tryz.prog w base spare held n 84 [v] = some y) (hB : Rows.uptoBulk y.1 ≤ B) : ∃ xs : Bs, SrcAt w v xs.length (bvals xs) ∧ xs.length ≤ B ∧ RowsV Sg.byteC 1 w v xs := by
  obtain ⟨xs, h1, h2, _⟩ := open_rowsB (R := Sg.byteC) (k := 1) (fun _ => True) Tryz.underlying84 (by kernel_rfl) (by decide) hB (fun n cs y hl h _ => by obtain ⟨b, hb⟩ := Sg.byte_trod hl h; exact ⟨b, hb, trivial⟩) h
  exact ⟨xs, Sg.rows_src h1, h2, h1⟩
def strC (s : Bs) : List Value := [.string ⟨s.toArray⟩]
theorem strs_trodB {H : Type} {enc : TypeId × Value → H} {w : World} {base n B : Nat} {spare : Nat → Bool} {held : Bool} {v : Value} {y : DataW H × List MemPlace}
    (h : DataW.trod enc Tryz.prog w base spare held n 42 [v] = some y) (hB : Rows.uptoBulk y.1 ≤ B) : ∃ xs : List Bs, StrsV w v xs ∧ xs.length ≤ B ∧ ∀ t ∈ xs, t.length ≤ B := by
  obtain ⟨xs, h1, h2, h3⟩ := open_rowsB (R := strC) (k := 1) (fun s => s.length ≤ B) Tryz.underlying42 (by kernel_rfl) (by decide) hB (fun n cs y hl h hb => by
    match cs, hl with
    | [c], _ =>
      obtain ⟨⟨⟨l⟩⟩, e, f, _⟩ := DataW.trod_string Tryz.underlying9 h
      have e' : [c] = [Value.string ⟨⟨l⟩⟩] := e
      cases e'
      exact ⟨l, rfl, by rw [f] at hb; simp only [Rows.uptoBulk] at hb; omega⟩) h
  refine ⟨xs, ?_, h2, h3⟩
  rcases h1 with h1 | ⟨b, o, c, e1, e2, e3, e4⟩
  · exact .inl h1
  · refine .inr ⟨b, o, c, e1, e2, e3, fun i x hx => ?_⟩
    have := e4 i x hx 0 _ rfl
    rwa [Nat.mul_one, Nat.add_zero] at this
theorem part_trod {H : Type} {enc : TypeId × Value → H} {w : World} {base n B : Nat} {spare : Nat → Bool} {held : Bool} {cs : List Value} {y : DataW H × List MemPlace} (hl : cs.length = 3)
    (h : DataW.trod enc Tryz.prog w base spare held n 88 cs = some y) (hB : Rows.uptoBulk y.1 ≤ B) : ∃ x : PartM, cs = partR x ∧ PartAt w B x := by
  obtain ⟨xs, m, _, hy, _, hlen, hf⟩ := DataW.trod_struct Tryz.underlying88 h
  match cs, hl with
  | [c0, c1, c2], _ =>
    have hln : xs.length = 3 := hlen
    match xs, hln with
    | [y0, y1, y2], _ =>
      have g0 : DataW.trod enc Tryz.prog w base spare held m 3 [c0] = some y0 := hf 0 _ rfl
      have g1 : DataW.trod enc Tryz.prog w base spare held m 3 [c1] = some y1 := hf 1 _ rfl
      have g2 : DataW.trod enc Tryz.prog w base spare held m 84 [c2] = some y2 := hf 2 _ rfl
      have hb : Rows.uptoBulk (DataW.agg [y0.1, y1.1, y2.1] : DataW H) ≤ B := by have h9 := congrArg Prod.fst hy; simp only [List.map_cons, List.map_nil] at h9; rw [← h9]; exact hB
      simp only [Rows.uptoBulk, Rows.uptoBulkAll] at hb
      have b0 : Rows.uptoBulk y0.1 ≤ B := by omega
      obtain ⟨k0, e0, _, _⟩ := DataW.trod_int Tryz.underlying3 g0
      have e0' : [c0] = [Value.int .i64 k0] := e0
      have b1 : Rows.uptoBulk y1.1 ≤ B := by omega
      obtain ⟨k1, e1, _, _⟩ := DataW.trod_int Tryz.underlying3 g1
      have e1' : [c1] = [Value.int .i64 k1] := e1
      have b2 : Rows.uptoBulk y2.1 ≤ B := by omega
      obtain ⟨k2, s2, l2, _⟩ := bytes_trodB g2 b2
      cases e0'
      cases e1'
      exact ⟨⟨k0, k1, c2, k2⟩, rfl, ⟨s2, l2⟩⟩
theorem parts_trodB {H : Type} {enc : TypeId × Value → H} {w : World} {base n B : Nat} {spare : Nat → Bool} {held : Bool} {v : Value} {y : DataW H × List MemPlace}
    (h : DataW.trod enc Tryz.prog w base spare held n 80 [v] = some y) (hB : Rows.uptoBulk y.1 ≤ B) : ∃ xs : List PartM, RowsV partR 3 w v xs ∧ xs.length ≤ B ∧ ∀ x ∈ xs, PartAt w B x :=
  open_rowsB (R := partR) (k := 3) (fun x => PartAt w B x) Tryz.underlying80 (by kernel_rfl) (by decide) hB (fun n cs y hl h hb => part_trod hl h hb) h
theorem pub_trod {H : Type} {enc : TypeId × Value → H} {w : World} {base n B : Nat} {spare : Nat → Bool} {held : Bool} {cs : List Value} {y : DataW H × List MemPlace} (hl : cs.length = 5)
    (h : DataW.trod enc Tryz.prog w base spare held n 86 cs = some y) (hB : Rows.uptoBulk y.1 ≤ B) : ∃ x : PubM, cs = pubR x ∧ PubAt w B x := by
  obtain ⟨xs, m, _, hy, _, hlen, hf⟩ := DataW.trod_struct Tryz.underlying86 h
  match cs, hl with
  | [c0, c1, c2, c3, c4], _ =>
    have hln : xs.length = 5 := hlen
    match xs, hln with
    | [y0, y1, y2, y3, y4], _ =>
      have g0 : DataW.trod enc Tryz.prog w base spare held m 3 [c0] = some y0 := hf 0 _ rfl
      have g1 : DataW.trod enc Tryz.prog w base spare held m 3 [c1] = some y1 := hf 1 _ rfl
      have g2 : DataW.trod enc Tryz.prog w base spare held m 9 [c2] = some y2 := hf 2 _ rfl
      have g3 : DataW.trod enc Tryz.prog w base spare held m 9 [c3] = some y3 := hf 3 _ rfl
      have g4 : DataW.trod enc Tryz.prog w base spare held m 84 [c4] = some y4 := hf 4 _ rfl
      have hb : Rows.uptoBulk (DataW.agg [y0.1, y1.1, y2.1, y3.1, y4.1] : DataW H) ≤ B := by have h9 := congrArg Prod.fst hy; simp only [List.map_cons, List.map_nil] at h9; rw [← h9]; exact hB
      simp only [Rows.uptoBulk, Rows.uptoBulkAll] at hb
      have b0 : Rows.uptoBulk y0.1 ≤ B := by omega
      obtain ⟨k0, e0, _, _⟩ := DataW.trod_int Tryz.underlying3 g0
      have e0' : [c0] = [Value.int .i64 k0] := e0
      have b1 : Rows.uptoBulk y1.1 ≤ B := by omega
      obtain ⟨k1, e1, _, _⟩ := DataW.trod_int Tryz.underlying3 g1
      have e1' : [c1] = [Value.int .i64 k1] := e1
      have b2 : Rows.uptoBulk y2.1 ≤ B := by omega
      obtain ⟨⟨⟨k2⟩⟩, e2, f2, _⟩ := DataW.trod_string Tryz.underlying9 g2
      have e2' : [c2] = [Value.string ⟨⟨k2⟩⟩] := e2
      have l2 : k2.length ≤ B := by rw [f2] at b2; simp only [Rows.uptoBulk] at b2; omega
      have b3 : Rows.uptoBulk y3.1 ≤ B := by omega
      obtain ⟨⟨⟨k3⟩⟩, e3, f3, _⟩ := DataW.trod_string Tryz.underlying9 g3
      have e3' : [c3] = [Value.string ⟨⟨k3⟩⟩] := e3
      have l3 : k3.length ≤ B := by rw [f3] at b3; simp only [Rows.uptoBulk] at b3; omega
      have b4 : Rows.uptoBulk y4.1 ≤ B := by omega
      obtain ⟨k4, s4, l4, r4⟩ := bytes_trodB g4 b4
      cases e0'
      cases e1'
      cases e2'
      cases e3'
      exact ⟨⟨k0, k1, k2, k3, c4, k4⟩, rfl, ⟨l2, l3, s4, l4, r4⟩⟩
theorem pubs_trodB {H : Type} {enc : TypeId × Value → H} {w : World} {base n B : Nat} {spare : Nat → Bool} {held : Bool} {v : Value} {y : DataW H × List MemPlace}
    (h : DataW.trod enc Tryz.prog w base spare held n 63 [v] = some y) (hB : Rows.uptoBulk y.1 ≤ B) : ∃ xs : List PubM, RowsV pubR 5 w v xs ∧ xs.length ≤ B ∧ ∀ x ∈ xs, PubAt w B x :=
  open_rowsB (R := pubR) (k := 5) (fun x => PubAt w B x) Tryz.underlying63 (by kernel_rfl) (by decide) hB (fun n cs y hl h hb => pub_trod hl h hb) h
theorem prg_trod {H : Type} {enc : TypeId × Value → H} {w : World} {base n B : Nat} {spare : Nat → Bool} {held : Bool} {cs : List Value} {y : DataW H × List MemPlace} (hl : cs.length = 3)
    (h : DataW.trod enc Tryz.prog w base spare held n 97 cs = some y) (hB : Rows.uptoBulk y.1 ≤ B) : ∃ x : PrgM, cs = prgR x ∧ PrgAt w B x := by
  obtain ⟨xs, m, _, hy, _, hlen, hf⟩ := DataW.trod_struct Tryz.underlying97 h
  match cs, hl with
  | [c0, c1, c2], _ =>
    have hln : xs.length = 3 := hlen
    match xs, hln with
    | [y0, y1, y2], _ =>
      have g0 : DataW.trod enc Tryz.prog w base spare held m 9 [c0] = some y0 := hf 0 _ rfl
      have g1 : DataW.trod enc Tryz.prog w base spare held m 3 [c1] = some y1 := hf 1 _ rfl
      have g2 : DataW.trod enc Tryz.prog w base spare held m 3 [c2] = some y2 := hf 2 _ rfl
      have hb : Rows.uptoBulk (DataW.agg [y0.1, y1.1, y2.1] : DataW H) ≤ B := by have h9 := congrArg Prod.fst hy; simp only [List.map_cons, List.map_nil] at h9; rw [← h9]; exact hB
      simp only [Rows.uptoBulk, Rows.uptoBulkAll] at hb
      have b0 : Rows.uptoBulk y0.1 ≤ B := by omega
      obtain ⟨⟨⟨k0⟩⟩, e0, f0, _⟩ := DataW.trod_string Tryz.underlying9 g0
      have e0' : [c0] = [Value.string ⟨⟨k0⟩⟩] := e0
      have l0 : k0.length ≤ B := by rw [f0] at b0; simp only [Rows.uptoBulk] at b0; omega
      have b1 : Rows.uptoBulk y1.1 ≤ B := by omega
      obtain ⟨k1, e1, _, _⟩ := DataW.trod_int Tryz.underlying3 g1
      have e1' : [c1] = [Value.int .i64 k1] := e1
      have b2 : Rows.uptoBulk y2.1 ≤ B := by omega
      obtain ⟨k2, e2, _, _⟩ := DataW.trod_int Tryz.underlying3 g2
      have e2' : [c2] = [Value.int .i64 k2] := e2
      cases e0'
      cases e1'
      cases e2'
      exact ⟨⟨k0, k1, k2⟩, rfl, l0⟩
theorem prgs_trodB {H : Type} {enc : TypeId × Value → H} {w : World} {base n B : Nat} {spare : Nat → Bool} {held : Bool} {v : Value} {y : DataW H × List MemPlace}
    (h : DataW.trod enc Tryz.prog w base spare held n 64 [v] = some y) (hB : Rows.uptoBulk y.1 ≤ B) : ∃ xs : List PrgM, RowsV prgR 3 w v xs ∧ xs.length ≤ B ∧ ∀ x ∈ xs, PrgAt w B x :=
  open_rowsB (R := prgR) (k := 3) (fun x => PrgAt w B x) Tryz.underlying64 (by kernel_rfl) (by decide) hB (fun n cs y hl h hb => prg_trod hl h hb) h
theorem srv_trod {H : Type} {enc : TypeId × Value → H} {w : World} {base n B : Nat} {spare : Nat → Bool} {held : Bool} {cs : List Value} {y : DataW H × List MemPlace} (hl : cs.length = 11)
    (h : DataW.trod enc Tryz.prog w base spare held n 82 cs = some y) (hB : Rows.uptoBulk y.1 ≤ B) : ∃ x : SrvM, cs = srvR x ∧ SrvAt w B x := by
  obtain ⟨xs, m, _, hy, _, hlen, hf⟩ := DataW.trod_struct Tryz.underlying82 h
  match cs, hl with
  | [c0, c1, c2, c3, c4, c5, c6, c7, c8, c9, c10], _ =>
    have hln : xs.length = 11 := hlen
    match xs, hln with
    | [y0, y1, y2, y3, y4, y5, y6, y7, y8, y9, y10], _ =>
      have g0 : DataW.trod enc Tryz.prog w base spare held m 9 [c0] = some y0 := hf 0 _ rfl
      have g1 : DataW.trod enc Tryz.prog w base spare held m 9 [c1] = some y1 := hf 1 _ rfl
      have g2 : DataW.trod enc Tryz.prog w base spare held m 9 [c2] = some y2 := hf 2 _ rfl
      have g3 : DataW.trod enc Tryz.prog w base spare held m 3 [c3] = some y3 := hf 3 _ rfl
      have g4 : DataW.trod enc Tryz.prog w base spare held m 3 [c4] = some y4 := hf 4 _ rfl
      have g5 : DataW.trod enc Tryz.prog w base spare held m 3 [c5] = some y5 := hf 5 _ rfl
      have g6 : DataW.trod enc Tryz.prog w base spare held m 3 [c6] = some y6 := hf 6 _ rfl
      have g7 : DataW.trod enc Tryz.prog w base spare held m 3 [c7] = some y7 := hf 7 _ rfl
      have g8 : DataW.trod enc Tryz.prog w base spare held m 42 [c8] = some y8 := hf 8 _ rfl
      have g9 : DataW.trod enc Tryz.prog w base spare held m 80 [c9] = some y9 := hf 9 _ rfl
      have g10 : DataW.trod enc Tryz.prog w base spare held m 4 [c10] = some y10 := hf 10 _ rfl
      have hb : Rows.uptoBulk (DataW.agg [y0.1, y1.1, y2.1, y3.1, y4.1, y5.1, y6.1, y7.1, y8.1, y9.1, y10.1] : DataW H) ≤ B := by have h9 := congrArg Prod.fst hy; simp only [List.map_cons, List.map_nil] at h9; rw [← h9]; exact hB
      simp only [Rows.uptoBulk, Rows.uptoBulkAll] at hb
      have b0 : Rows.uptoBulk y0.1 ≤ B := by omega
      obtain ⟨⟨⟨k0⟩⟩, e0, f0, _⟩ := DataW.trod_string Tryz.underlying9 g0
      have e0' : [c0] = [Value.string ⟨⟨k0⟩⟩] := e0
      have l0 : k0.length ≤ B := by rw [f0] at b0; simp only [Rows.uptoBulk] at b0; omega
      have b1 : Rows.uptoBulk y1.1 ≤ B := by omega
      obtain ⟨⟨⟨k1⟩⟩, e1, f1, _⟩ := DataW.trod_string Tryz.underlying9 g1
      have e1' : [c1] = [Value.string ⟨⟨k1⟩⟩] := e1
      have l1 : k1.length ≤ B := by rw [f1] at b1; simp only [Rows.uptoBulk] at b1; omega
      have b2 : Rows.uptoBulk y2.1 ≤ B := by omega
      obtain ⟨⟨⟨k2⟩⟩, e2, f2, _⟩ := DataW.trod_string Tryz.underlying9 g2
      have e2' : [c2] = [Value.string ⟨⟨k2⟩⟩] := e2
      have l2 : k2.length ≤ B := by rw [f2] at b2; simp only [Rows.uptoBulk] at b2; omega
      have b3 : Rows.uptoBulk y3.1 ≤ B := by omega
      obtain ⟨k3, e3, _, _⟩ := DataW.trod_int Tryz.underlying3 g3
      have e3' : [c3] = [Value.int .i64 k3] := e3
      have b4 : Rows.uptoBulk y4.1 ≤ B := by omega
      obtain ⟨k4, e4, _, _⟩ := DataW.trod_int Tryz.underlying3 g4
      have e4' : [c4] = [Value.int .i64 k4] := e4
      have b5 : Rows.uptoBulk y5.1 ≤ B := by omega
      obtain ⟨k5, e5, _, _⟩ := DataW.trod_int Tryz.underlying3 g5
      have e5' : [c5] = [Value.int .i64 k5] := e5
      have b6 : Rows.uptoBulk y6.1 ≤ B := by omega
      obtain ⟨k6, e6, _, _⟩ := DataW.trod_int Tryz.underlying3 g6
      have e6' : [c6] = [Value.int .i64 k6] := e6
      have b7 : Rows.uptoBulk y7.1 ≤ B := by omega
      obtain ⟨k7, e7, _, _⟩ := DataW.trod_int Tryz.underlying3 g7
      have e7' : [c7] = [Value.int .i64 k7] := e7
      have b8 : Rows.uptoBulk y8.1 ≤ B := by omega
      obtain ⟨k8, s8, l8, m8⟩ := strs_trodB g8 b8
      have b9 : Rows.uptoBulk y9.1 ≤ B := by omega
      obtain ⟨k9, s9, l9, m9⟩ := parts_trodB g9 b9
      have b10 : Rows.uptoBulk y10.1 ≤ B := by omega
      obtain ⟨k10, e10, _⟩ := DataW.trod_bool Tryz.underlying4 g10
      have e10' : [c10] = [Value.bool k10] := e10
      cases e0'
      cases e1'
      cases e2'
      cases e3'
      cases e4'
      cases e5'
      cases e6'
      cases e7'
      cases e10'
      exact ⟨⟨k0, k1, k2, k3, k4, k5, k6, k7, c8, k8, c9, k9, k10⟩, rfl, ⟨l0, l1, l2, s8, l8, m8, s9, l9, m9⟩⟩
theorem srvs_trodB {H : Type} {enc : TypeId × Value → H} {w : World} {base n B : Nat} {spare : Nat → Bool} {held : Bool} {v : Value} {y : DataW H × List MemPlace}
    (h : DataW.trod enc Tryz.prog w base spare held n 65 [v] = some y) (hB : Rows.uptoBulk y.1 ≤ B) : ∃ xs : List SrvM, RowsV srvR 11 w v xs ∧ xs.length ≤ B ∧ ∀ x ∈ xs, SrvAt w B x :=
  open_rowsB (R := srvR) (k := 11) (fun x => SrvAt w B x) Tryz.underlying65 (by kernel_rfl) (by decide) hB (fun n cs y hl h hb => srv_trod hl h hb) h
theorem fet_trod {H : Type} {enc : TypeId × Value → H} {w : World} {base n B : Nat} {spare : Nat → Bool} {held : Bool} {cs : List Value} {y : DataW H × List MemPlace} (hl : cs.length = 6)
    (h : DataW.trod enc Tryz.prog w base spare held n 102 cs = some y) (hB : Rows.uptoBulk y.1 ≤ B) : ∃ x : FetM, cs = fetR x ∧ FetAt w B x := by
  obtain ⟨xs, m, _, hy, _, hlen, hf⟩ := DataW.trod_struct Tryz.underlying102 h
  match cs, hl with
  | [c0, c1, c2, c3, c4, c5], _ =>
    have hln : xs.length = 6 := hlen
    match xs, hln with
    | [y0, y1, y2, y3, y4, y5], _ =>
      have g0 : DataW.trod enc Tryz.prog w base spare held m 9 [c0] = some y0 := hf 0 _ rfl
      have g1 : DataW.trod enc Tryz.prog w base spare held m 9 [c1] = some y1 := hf 1 _ rfl
      have g2 : DataW.trod enc Tryz.prog w base spare held m 9 [c2] = some y2 := hf 2 _ rfl
      have g3 : DataW.trod enc Tryz.prog w base spare held m 3 [c3] = some y3 := hf 3 _ rfl
      have g4 : DataW.trod enc Tryz.prog w base spare held m 3 [c4] = some y4 := hf 4 _ rfl
      have g5 : DataW.trod enc Tryz.prog w base spare held m 4 [c5] = some y5 := hf 5 _ rfl
      have hb : Rows.uptoBulk (DataW.agg [y0.1, y1.1, y2.1, y3.1, y4.1, y5.1] : DataW H) ≤ B := by have h9 := congrArg Prod.fst hy; simp only [List.map_cons, List.map_nil] at h9; rw [← h9]; exact hB
      simp only [Rows.uptoBulk, Rows.uptoBulkAll] at hb
      have b0 : Rows.uptoBulk y0.1 ≤ B := by omega
      obtain ⟨⟨⟨k0⟩⟩, e0, f0, _⟩ := DataW.trod_string Tryz.underlying9 g0
      have e0' : [c0] = [Value.string ⟨⟨k0⟩⟩] := e0
      have l0 : k0.length ≤ B := by rw [f0] at b0; simp only [Rows.uptoBulk] at b0; omega
      have b1 : Rows.uptoBulk y1.1 ≤ B := by omega
      obtain ⟨⟨⟨k1⟩⟩, e1, f1, _⟩ := DataW.trod_string Tryz.underlying9 g1
      have e1' : [c1] = [Value.string ⟨⟨k1⟩⟩] := e1
      have l1 : k1.length ≤ B := by rw [f1] at b1; simp only [Rows.uptoBulk] at b1; omega
      have b2 : Rows.uptoBulk y2.1 ≤ B := by omega
      obtain ⟨⟨⟨k2⟩⟩, e2, f2, _⟩ := DataW.trod_string Tryz.underlying9 g2
      have e2' : [c2] = [Value.string ⟨⟨k2⟩⟩] := e2
      have l2 : k2.length ≤ B := by rw [f2] at b2; simp only [Rows.uptoBulk] at b2; omega
      have b3 : Rows.uptoBulk y3.1 ≤ B := by omega
      obtain ⟨k3, e3, _, _⟩ := DataW.trod_int Tryz.underlying3 g3
      have e3' : [c3] = [Value.int .i64 k3] := e3
      have b4 : Rows.uptoBulk y4.1 ≤ B := by omega
      obtain ⟨k4, e4, _, _⟩ := DataW.trod_int Tryz.underlying3 g4
      have e4' : [c4] = [Value.int .i64 k4] := e4
      have b5 : Rows.uptoBulk y5.1 ≤ B := by omega
      obtain ⟨k5, e5, _⟩ := DataW.trod_bool Tryz.underlying4 g5
      have e5' : [c5] = [Value.bool k5] := e5
      cases e0'
      cases e1'
      cases e2'
      cases e3'
      cases e4'
      cases e5'
      exact ⟨⟨k0, k1, k2, k3, k4, k5⟩, rfl, ⟨l0, l1, l2⟩⟩
theorem fets_trodB {H : Type} {enc : TypeId × Value → H} {w : World} {base n B : Nat} {spare : Nat → Bool} {held : Bool} {v : Value} {y : DataW H × List MemPlace}
    (h : DataW.trod enc Tryz.prog w base spare held n 66 [v] = some y) (hB : Rows.uptoBulk y.1 ≤ B) : ∃ xs : List FetM, RowsV fetR 6 w v xs ∧ xs.length ≤ B ∧ ∀ x ∈ xs, FetAt w B x :=
  open_rowsB (R := fetR) (k := 6) (fun x => FetAt w B x) Tryz.underlying66 (by kernel_rfl) (by decide) hB (fun n cs y hl h hb => fet_trod hl h hb) h
theorem dro_trod {H : Type} {enc : TypeId × Value → H} {w : World} {base n B : Nat} {spare : Nat → Bool} {held : Bool} {cs : List Value} {y : DataW H × List MemPlace} (hl : cs.length = 3)
    (h : DataW.trod enc Tryz.prog w base spare held n 104 cs = some y) (hB : Rows.uptoBulk y.1 ≤ B) : ∃ x : DroM, cs = droR x ∧ DroAt w B x := by
  obtain ⟨xs, m, _, hy, _, hlen, hf⟩ := DataW.trod_struct Tryz.underlying104 h
  match cs, hl with
  | [c0, c1, c2], _ =>
    have hln : xs.length = 3 := hlen
    match xs, hln with
    | [y0, y1, y2], _ =>
      have g0 : DataW.trod enc Tryz.prog w base spare held m 9 [c0] = some y0 := hf 0 _ rfl
      have g1 : DataW.trod enc Tryz.prog w base spare held m 9 [c1] = some y1 := hf 1 _ rfl
      have g2 : DataW.trod enc Tryz.prog w base spare held m 3 [c2] = some y2 := hf 2 _ rfl
      have hb : Rows.uptoBulk (DataW.agg [y0.1, y1.1, y2.1] : DataW H) ≤ B := by have h9 := congrArg Prod.fst hy; simp only [List.map_cons, List.map_nil] at h9; rw [← h9]; exact hB
      simp only [Rows.uptoBulk, Rows.uptoBulkAll] at hb
      have b0 : Rows.uptoBulk y0.1 ≤ B := by omega
      obtain ⟨⟨⟨k0⟩⟩, e0, f0, _⟩ := DataW.trod_string Tryz.underlying9 g0
      have e0' : [c0] = [Value.string ⟨⟨k0⟩⟩] := e0
      have l0 : k0.length ≤ B := by rw [f0] at b0; simp only [Rows.uptoBulk] at b0; omega
      have b1 : Rows.uptoBulk y1.1 ≤ B := by omega
      obtain ⟨⟨⟨k1⟩⟩, e1, f1, _⟩ := DataW.trod_string Tryz.underlying9 g1
      have e1' : [c1] = [Value.string ⟨⟨k1⟩⟩] := e1
      have l1 : k1.length ≤ B := by rw [f1] at b1; simp only [Rows.uptoBulk] at b1; omega
      have b2 : Rows.uptoBulk y2.1 ≤ B := by omega
      obtain ⟨k2, e2, _, _⟩ := DataW.trod_int Tryz.underlying3 g2
      have e2' : [c2] = [Value.int .i64 k2] := e2
      cases e0'
      cases e1'
      cases e2'
      exact ⟨⟨k0, k1, k2⟩, rfl, ⟨l0, l1⟩⟩
theorem dros_trodB {H : Type} {enc : TypeId × Value → H} {w : World} {base n B : Nat} {spare : Nat → Bool} {held : Bool} {v : Value} {y : DataW H × List MemPlace}
    (h : DataW.trod enc Tryz.prog w base spare held n 67 [v] = some y) (hB : Rows.uptoBulk y.1 ≤ B) : ∃ xs : List DroM, RowsV droR 3 w v xs ∧ xs.length ≤ B ∧ ∀ x ∈ xs, DroAt w B x :=
  open_rowsB (R := droR) (k := 3) (fun x => DroAt w B x) Tryz.underlying67 (by kernel_rfl) (by decide) hB (fun n cs y hl h hb => dro_trod hl h hb) h
end Op
end Go.Proofs.YtjijijjkkhpjnaaGreatDoor
end

section
namespace Go.Proofs.YtjijijjkkhpjnaaGreatDoor
open Go.RowKit Pl Ad
attribute [local go_sem] ba_get ba_append ba_extract conv_one
set_option maxRecDepth 100000
set_option maxHeartbeats 4000000
set_option linter.unusedVariables false
set_option linter.unusedSimpArgs false
namespace Hy
open A1
def ivals (l : List Nat) : List Value := l.map fun (i : Nat) => Value.int .i64 (i : Int)
theorem tyInts : SliceTy Tryz.prog 150 3 1 8 :=
  ⟨Tryz.underlying150, by
    obtain ⟨i, h1, h2, h3, h4⟩ := info_parts (show (Tryz.prog.info? 3).map (fun i => (i.zero, i.size, i.bytes)) = some (some (.int .i64 0), 1, 8) by kernel_rfl)
    exact ⟨i, _, h1, h2, h3, h4, rfl⟩, by decide, by decide⟩
theorem row_at {α : Type} {R : α → List Value} {k : Nat} {w : World} {a : Option Addr} {n c : Nat} {xs : List α} (h : RowsV R k w (.slice a n c) xs) {i : Nat} {x : α} (hx : xs[i]? = some x) :
    ∃ b o, a = some ⟨b, o, none⟩ ∧ xs.length ≤ c ∧ b < w.heap.size ∧ ∀ j u, (R x)[j]? = some u → w.cell? ⟨b, o + i * k + j, none⟩ = some u := by
  rcases h with ⟨rfl, _⟩ | ⟨b, o, c', h1, h2, h3, h4⟩
  · simp at hx
  · cases h1
    exact ⟨b, o, rfl, h2, h3, fun j u hu => by rw [Nat.add_assoc]; exact h4 i x hx j u hu⟩
theorem keepH {w w' : World} {a : Addr} {v : Value} (hb : Below w.heap.size w w') (h : w.cell? a = some v) : w'.cell? a = some v := (hb.cell (p := a) (World.block_lt_of_cell? w a h)).trans h
theorem versions_any (ps : List PubM) (va vb vc vd ve : Value) (bound fin : Int) (ad tg : Bs) (B : Nat) (w : World) (hp : RowsV pubR 5 w va ps) (hn : ps.length ≤ 1000000) (hpa : ∀ p ∈ ps, PubAt w B p) :
    Calls Tryz.prog 78 #[.agg #[va, vb, vc, vd, ve, .int .i64 bound, .int .i64 fin], .string ⟨ad.toArray⟩, .string ⟨tg.toArray⟩] w fun e w' => ∃ a c, e = .returned (.slice a (versM ps ad tg).length c) ∧ OwnWin w' w.heap.size 3 1 (.slice a (versM ps ad tg).length c) (versM ps ad tg).length (ivals (versM ps ad tg)) ∧ Below w.heap.size w w' := by
  obtain ⟨pa, pc, rfl, _⟩ := hp.form
  have HP := Lib.hid hp
  have HPA := Lib.hid hpa
  have HB0 := Lib.hid ((Below.refl w.heap.size w).alloc (Nat.le_refl _) (.cells #[.slice pa ps.length pc, vb, vc, vd, ve, .int .i64 bound, .int .i64 fin] 69))
  have HN := Lib.hid hn
  clear hp hpa hn
  go_enter Tryz.func78, Tryz.ntmps78
  go_wp2_with fail
  obtain ⟨w1, hw1⟩ : ∃ z, w.alloc (.cells #[.slice pa ps.length pc, vb, vc, vd, ve, .int .i64 bound, .int .i64 fin] 69) = z := ⟨_, rfl⟩
  rw [hw1] at HB0 ⊢
  clear hw1
  go_loopg [13, 7] ps.length (fun gq iv vv wr => ∃ (k : Nat) (acc : List Nat) (a : Option Addr) (c : Nat), iv = .int .i64 k ∧ k ≤ ps.length ∧ Hid (ps.length ≤ gq + k) ∧ vv = .slice a acc.length c ∧ acc.length ≤ k ∧ Hid (versM ps ad tg = acc ++ versF ad tg (ps.drop k) k) ∧ Hid (Below w.heap.size w wr) ∧ Hid (OwnWin wr w.heap.size 3 1 (.slice a acc.length c) acc.length (ivals acc)))
  case atStart => exact ⟨0, [], none, 0, rfl, Nat.zero_le _, Lib.hid (by omega), rfl, Nat.le_refl _, Lib.hid rfl, Lib.hid HB0.out, Lib.hid (OwnWin.nil _ _ _ _)⟩
  case round =>
    obtain ⟨k, acc, a, c, rfl, hk, HQ, rfl, hacc, HV, HB, HO⟩ := hrel
    by_cases hlt : k < ps.length
    · have HLT := Lib.hid hlt
      have hnr := HN.out
      obtain ⟨p, hpk⟩ : ∃ p, ps[k]? = some p := ⟨_, List.getElem?_eq_getElem hlt⟩
      obtain ⟨_, _, hsrc, _⟩ := HPA.out p (List.mem_of_getElem? hpk)
      obtain ⟨b1, o1, rfl, _, hbl, hrow⟩ := row_at HP.out hpk
      have hvs := versF_drop (a := ad) (t := tg) hpk
      obtain ⟨pat, plim, padr, ptag, pbv, pbody⟩ := p
      obtain ⟨ba, bc, hbv⟩ := Sg.src_form hsrc
      simp only at hbv
      subst hbv
      have d0 := keepH HB.out (hrow 0 _ rfl)
      have d1 := keepH HB.out (hrow 1 _ rfl)
      have d2 := keepH HB.out (hrow 2 _ rfl)
      have d3 := keepH HB.out (hrow 3 _ rfl)
      have d4 := keepH HB.out (hrow 4 _ rfl)
      rw [Nat.add_zero] at d0
      have hbz : b1 < wr.heap.size := World.block_lt_of_cell? wr _ d0
      have hb2 := HB.out.alloc HB.out.size (.cells #[.int .i64 pat, .int .i64 plim, .string ⟨padr.toArray⟩, .string ⟨ptag.toArray⟩, .slice ba pbody.length bc] 86)
      have HB2 := Lib.hid hb2
      have HO2 := Lib.hid (HO.out.older ((Below.refl wr.heap.size wr).alloc (Nat.le_refl _) (.cells #[.int .i64 pat, .int .i64 plim, .string ⟨padr.toArray⟩, .string ⟨ptag.toArray⟩, .slice ba pbody.length bc] 86)))
      unfold isV at hvs
      simp only at hvs
      have HVS := Lib.hid hvs
      clear hvs hsrc hrow hpk hb2
      have done : ∀ (h : (padr == ad && ptag == tg) = false), versM ps ad tg = acc ++ versF ad tg (ps.drop (k + 1)) (k + 1) := fun h => by rw [HV.out, HVS.out, if_neg (by rw [h]; decide)]
      have DONE := Lib.hid done
      clear done
      cases h1 : (padr == ad) with
      | false =>
        go_wp2_with fail
        go_roundg (gk - 1)
        case rel => exact ⟨k + 1, acc, a, c, by go_num, by omega, Lib.hid (by have := HQ.out; omega), rfl, by omega, Lib.hid (DONE.out (by rw [h1]; rfl)), Lib.hid HB2.out, Lib.hid HO2.out⟩
        case measure => have := HQ.out; have := HLT.out; omega
      | true =>
        cases h2 : (ptag == tg) with
        | false =>
          go_wp2_with fail
          go_roundg (gk - 1)
          case rel => exact ⟨k + 1, acc, a, c, by go_num, by omega, Lib.hid (by have := HQ.out; omega), rfl, by omega, Lib.hid (DONE.out (by rw [h1, h2]; rfl)), Lib.hid HB2.out, Lib.hid HO2.out⟩
          case measure => have := HQ.out; have := HLT.out; omega
        | true =>
          have HVT := Lib.hid (show versM ps ad tg = (acc ++ [k]) ++ versF ad tg (ps.drop (k + 1)) (k + 1) by rw [HV.out, HVS.out, if_pos (by rw [h1, h2]; rfl)]; simp)
          have haccn : acc.length + 1 ≤ 1099511627776 := by have := HN.out; omega
          go_wp2_with (at_builtin; have HO3 := Lib.hid (HO2.out.older ((Below.refl _ _).alloc (Nat.le_refl _) (.cells #[.int .i64 (k : Int)] 3))); have HB3 := Lib.hid (HB2.out.alloc HB2.out.size (.cells #[.int .i64 (k : Int)] 3)); refine wpList_appw tyInts (by rfl) _ _ (by rfl) w.heap.size (.slice a acc.length c) acc.length _ (by rfl) HO3.out HB3.out.size (.slice (some ⟨wr.heap.size + 1, 0, none⟩) 1 1) 1 [.int .i64 (k : Int)] (by rfl) (SrcAt.one (by have h9 := heap_alloc_new (wr.alloc (.cells #[.int .i64 pat, .int .i64 plim, .string ⟨padr.toArray⟩, .string ⟨ptag.toArray⟩, .slice ba pbody.length bc] 86)) (.cells #[.int .i64 (k : Int)] 3); rw [show (wr.alloc (.cells #[.int .i64 pat, .int .i64 plim, .string ⟨padr.toArray⟩, .string ⟨ptag.toArray⟩, .slice ba pbody.length bc] 86)).heap.size = wr.heap.size + 1 by simp] at h9; exact h9)) (by rfl) (by simp [Value.oneCell']) (by omega) ?_; intro v4 w4 hown4 hgrow4 hlies4; have HB4 := Lib.hid (HB3.out.grown hgrow4 HB3.out.size (fun q hq => (HO3.out.lt q hq).1)); have HO4 := Lib.hid (show OwnWin w4 w.heap.size 3 1 v4 (acc ++ [k]).length (ivals (acc ++ [k])) by rw [List.length_append]; unfold ivals at hown4 ⊢; rw [List.map_append]; exact hown4); clear hown4 hgrow4 hlies4)
          obtain ⟨a4, c4, rfl, _⟩ := HO4.out.form
          go_roundg (gk - 1)
          case rel => exact ⟨k + 1, acc ++ [k], a4, c4, by go_num, by omega, Lib.hid (by have := HQ.out; omega), rfl, by simp; omega, Lib.hid HVT.out, Lib.hid HB4.out, Lib.hid HO4.out⟩
          case measure => have := HQ.out; have := HLT.out; omega
    · obtain rfl : k = ps.length := by omega
      have HE := Lib.hid (show versM ps ad tg = acc by rw [HV.out, List.drop_eq_nil_of_le (Nat.le_refl _)]; simp [versF])
      go_wp2_with fail
      go_ret
      rw [HE.out]
      exact ⟨a, c, rfl, HO.out, HB.out⟩
end Hy
end Go.Proofs.YtjijijjkkhpjnaaGreatDoor
end

section
namespace Go.Proofs.YtjijijjkkhpjnaaGreatDoor
open Go.RowKit Pl Ad
attribute [local go_sem] ba_get ba_append ba_extract conv_one
set_option maxRecDepth 100000
set_option maxHeartbeats 4000000
set_option linter.unusedVariables false
set_option linter.unusedSimpArgs false
namespace Hy
open A1
theorem isv_any (pat plim : Int) (padr ptag : Bs) (ba : Option Addr) (bn bc : Nat) (edge sadr stag : Bs) (ten ask at_ frm til : Int) (ta : Option Addr) (tn tc : Nat) (qa : Option Addr) (qn qc : Nat) (ended : Bool) (w : World) :
    Calls Tryz.prog 85 #[.agg #[.int .i64 pat, .int .i64 plim, .string ⟨padr.toArray⟩, .string ⟨ptag.toArray⟩, .slice ba bn bc], .agg #[.string ⟨edge.toArray⟩, .string ⟨sadr.toArray⟩, .string ⟨stag.toArray⟩, .int .i64 ten, .int .i64 ask, .int .i64 at_, .int .i64 frm, .int .i64 til, .slice ta tn tc, .slice qa qn qc, .bool ended]] w fun e w' => e = .returned (.bool (padr == sadr && ptag == stag)) ∧ Below w.heap.size w w' := by
  have HB := Lib.hid (((Below.refl w.heap.size w).alloc (Nat.le_refl _) (.cells #[.int .i64 pat, .int .i64 plim, .string ⟨padr.toArray⟩, .string ⟨ptag.toArray⟩, .slice ba bn bc] 86)).alloc (by simp) (.cells #[.string ⟨edge.toArray⟩, .string ⟨sadr.toArray⟩, .string ⟨stag.toArray⟩, .int .i64 ten, .int .i64 ask, .int .i64 at_, .int .i64 frm, .int .i64 til, .slice ta tn tc, .slice qa qn qc, .bool ended] 82))
  cases h1 : (padr == sadr) with
  | false =>
    go_enter Tryz.func85, Tryz.ntmps85
    go_wp2_with fail
    go_ret
    exact ⟨rfl, HB.out⟩
  | true =>
    go_enter Tryz.func85, Tryz.ntmps85
    go_wp2_with fail
    go_ret
    exact ⟨rfl, HB.out⟩
end Hy
end Go.Proofs.YtjijijjkkhpjnaaGreatDoor
end

section
namespace Go.Proofs.YtjijijjkkhpjnaaGreatDoor
namespace Ad
/-- A key of a tenant. -/
structure KeyM where
  id : Bs
  sec : Bs
  frm : Int
  til : Int
  rev : Int
def KeyM.at (k : KeyM) (now : Int) : Bool := decide (k.frm ≤ now) && decide (now < k.til) && decide (now < k.rev)
section
variable {α : Type} {p : α → Bool} {bt : α → α → Bool} {l : List α}
end
def endK (x : Int) (k : KeyM) : KeyM := { k with til := min k.til x }
end Ad
end Go.Proofs.YtjijijjkkhpjnaaGreatDoor
end

section
namespace Go.Proofs.YtjijijjkkhpjnaaGreatDoor
open Go.RowKit Pl Ad
set_option maxRecDepth 100000
set_option linter.unusedVariables false
theorem SrcAt.older {w w' : World} {u : Value} {m : Nat} {C : List Value} (h : SrcAt w u m C) (hb : Below w.heap.size w w') : SrcAt w' u m C := by
  rcases h with h | ⟨a, c, h1, h2⟩
  · exact .inl h
  · exact .inr ⟨a, c, h1, fun j x hx => (hb.cell (p := a.add j) (World.block_lt_of_cell? w (a.add j) (h2 j x hx))).trans (h2 j x hx)⟩
namespace Kr
/-- Block R holds these cells. -/
def Bx (w : World) (R T : Nat) (cs : Array Value) : Prop := w.heap[R]? = some (.cells cs T (0, 0))
section
variable {w w' : World} {R T : Nat} {cs : Array Value}
theorem Bx.lt (h : Bx w R T cs) : R < w.heap.size := (Array.getElem?_eq_some_iff.1 h).1
theorem Bx.cell (h : Bx w R T cs) {i : Nat} {v : Value} (hi : cs[i]? = some v) : w.cell? ⟨R, i, none⟩ = some v := by rw [cell_of_row w R i _ _ _ h]; exact hi
theorem Bx.frz (h : Bx w R T cs) (i : Nat) : w.frozen? ⟨R, i, none⟩ = false := frozen_of_row w R i _ _ h
theorem Bx.older (h : Bx w R T cs) (hb : Below w.heap.size w w') : Bx w' R T cs := (hb.block R h.lt).trans h
theorem Bx.below {B : Nat} (h : Bx w R T cs) (hb : Below B w w') (hR : R < B) : Bx w' R T cs := (hb.block R hR).trans h
theorem Bx.touch {S : Nat → Prop} (h : Bx w R T cs) (ht : Touch S w w') (hn : ¬ S R) : Bx w' R T cs := (ht.block R h.lt hn).trans h
theorem Bx.new (w : World) (T : Nat) (cs : Array Value) : Bx (w.alloc (.cells cs T)) w.heap.size T cs := heap_alloc_new w _
theorem Bx.set (h : Bx w R T cs) (i : Nat) (u : Value) : Bx (w.setCell ⟨R, i, none⟩ u) R T (cs.setIfInBounds i u) := by
  unfold Bx at h ⊢
  unfold World.setCell
  simp only [Array.getElem?_modify, if_true, h, Option.map_some]
  rfl
theorem Bx.inj {T' : Nat} {cs' : Array Value} (h : Bx w R T cs) (h' : Bx w R T' cs') : T = T' ∧ cs = cs' := by
  have := Option.some.inj (h.symm.trans h')
  injection this with e1 e2
  exact ⟨e2, e1⟩
theorem Bx.neOwn {B e size n : Nat} {u : Value} {xs : List Value} (h : Bx w R T cs) (ho : OwnWin w B e size u n xs) (hne : e ≠ T) : ∀ q, u.ownBlock = some q → ¬ q = R := fun q hq e' => by
  subst e'
  rcases ho.2 with ⟨rfl, _⟩ | ⟨g, o, cap, cur, rfl, _, hg, _⟩
  · cases hq
  · simp [Value.ownBlock] at hq
    subst hq
    have := Option.some.inj (h.symm.trans hg)
    injection this with _ e2
    exact absurd e2.symm hne
end
@[reducible] def ptrK (R : Nat) : Value := .pointer (some ⟨R, 0, none⟩)
/-- A key's variable: its block, the value of its secret, the key. -/
structure Ent where
  blk : Nat
  sv : Value
  key : KeyM
def Ent.cells (e : Ent) : Array Value := #[.string ⟨e.key.id.toArray⟩, e.sv, .int .i64 e.key.frm, .int .i64 e.key.til, .int .i64 e.key.rev]
def Ent.ptr (e : Ent) : Value := ptrK e.blk
/-- The ring's own blocks. -/
def RBlk (R : Nat) (V : Nat → Value) (E : Nat → List Ent) (q : Nat) : Prop := q = R ∨ ∃ t, t < 16 ∧ ((V t).ownBlock = some q ∨ ∃ e ∈ E t, e.blk = q)
section
variable {w w' : World} {B R : Nat} {V : Nat → Value} {E : Nat → List Ent}
/-- What a call may have written. -/
structure RGoes (w w' : World) (R : Nat) (V V' : Nat → Value) (E E' : Nat → List Ent) : Prop where
  touch : Touch (RBlk R V E) w w'
  lies : ∀ q, RBlk R V' E' q → RBlk R V E q ∨ w.heap.size ≤ q
theorem RGoes.of_below (h : Below w.heap.size w w') : RGoes w w' R V V E E := ⟨Touch.of_below h (Nat.le_refl _), fun q hq => .inl hq⟩
theorem RGoes.refl (w : World) : RGoes w w R V V E E := RGoes.of_below (Below.refl _ _)
theorem RGoes.trans {w1 w2 : World} {V1 V2 : Nat → Value} {E1 E2 : Nat → List Ent} (h : RGoes w w1 R V V1 E E1) (k : RGoes w1 w2 R V1 V2 E1 E2) : RGoes w w2 R V V2 E E2 :=
  ⟨h.touch.trans' k.touch fun i hi hs => by
    rcases h.lies i hs with h1 | h1
    · exact h1
    · omega,
   fun q hq => by
    rcases k.lies q hq with h1 | h1
    · exact h.lies q h1
    · exact .inr (Nat.le_trans h.touch.size h1)⟩
theorem RGoes.older {w1 w2 : World} {V1 : Nat → Value} {E1 : Nat → List Ent} (h : RGoes w w1 R V V1 E E1) (hb : Below w1.heap.size w1 w2) : RGoes w w2 R V V1 E E1 := h.trans (RGoes.of_below hb)
end
end Kr
end Go.Proofs.YtjijijjkkhpjnaaGreatDoor
end

section
namespace Go.Proofs.YtjijijjkkhpjnaaGreatDoor
open Go.RowKit Pl Ad Go.Maps
set_option maxRecDepth 100000
set_option linter.unusedVariables false
namespace Hy
open A1
/-- A map tells, address by address, the first element from number k on. -/
structure NextM (ps : List PubM) (k : Nat) (D : DataW Unit) : Prop where
  has : ∀ a : Bs, Maps.has D (.string a) = (fstI ps a k).isSome
  at_ : ∀ (a : Bs) (j : Nat), fstI ps a k = some j → ∀ z, D.atKey (.string a) z = .lit (.int .i64 (j : Int))
theorem nextM_start (ps : List PubM) : NextM ps ps.length (.map []) :=
  ⟨fun a => by rw [fstI_end (Nat.le_refl _)]; rfl, fun a j h => by rw [fstI_end (Nat.le_refl _)] at h; cases h⟩
theorem NextM.put {ps : List PubM} {k : Nat} {D : DataW Unit} {p : PubM} (h : NextM ps (k + 1) D) (hm : IsMap D) (hp : ps[k]? = some p) (hk : WideAt.IsKeyLit (.string p.addr)) : NextM ps k (D.put (.string p.addr) (.lit (.int .i64 (k : Int)))) := by
  refine ⟨fun a => ?_, fun a j hj z => ?_⟩
  · by_cases ha : p.addr = a
    · subst ha
      rw [fstI_hit hp rfl, Maps.has_put_same hm hk]; rfl
    · rw [fstI_miss hp ha, Maps.has_put_other (fun e => ha (Lit.string.inj e).symm)]
      exact h.has a
  · by_cases ha : p.addr = a
    · subst ha
      rw [fstI_hit hp rfl] at hj
      cases hj
      exact Maps.atKey_put_same hm hk _ z
    · rw [fstI_miss hp ha] at hj
      rw [Maps.atKey_put_other (fun e => ha (Lit.string.inj e).symm)]
      exact h.at_ a j hj z
/-- How an element of that map reads. -/
def intElem : Value → Option (DataW Unit × List MemPlace)
  | .int .i64 n => some (.lit (.int .i64 n), [])
  | _ => none
theorem intElem_inv {v : Value} {z : DataW Unit × List MemPlace} (h : intElem v = some z) : ∃ n, v = .int .i64 n ∧ z = (.lit (.int .i64 n), []) := by
  unfold intElem at h
  split at h
  · cases h; exact ⟨_, rfl, rfl⟩
  · cases h
theorem keyedS : Keyed Tryz.prog 9 := string_keyed Tryz.underlying9
theorem keyS {s : Bs} (h : s.length ≤ 9223372036854775807) : keyOf Tryz.prog 9 (.string ⟨s.toArray⟩) = some (.string s) := by
  have := Go.WideMaps.keyOf_string_mk (P := Tryz.prog) Tryz.underlying9 (s := ⟨s.toArray⟩) (by unfold maxLen; exact h)
  simpa using this
theorem keyLitS {s : Bs} (h : s.length ≤ 9223372036854775807) : WideAt.IsKeyLit (.string s) := by
  have := keyedS.key (keyS h)
  exact this
theorem zeroI (w : World) : (zeroValue 3).run Tryz.prog w = .ok (.int .i64 0) w := by kernel_rfl
/-- v, ok := next[address] -/
theorem lookS {w : World} {M n k : Nat} {ps : List PubM} {D : DataW Unit} {a : Bs} (h : w.ownsMap Tryz.prog 9 intElem M n D) (hn : NextM ps k D) (ha : a.length ≤ 9223372036854775807) :
    ∃ c : Int, (Instr.lookup 151 (.map (some M)) (.string ⟨a.toArray⟩) true).run Tryz.prog w = .ok (.tuple #[.int .i64 c, .bool (fstI ps a k).isSome]) w ∧ ∀ j, fstI ps a k = some j → c = (j : Int) := by
  obtain ⟨v, pl, hrun, hv⟩ := h.look_ok keyedS Tryz.underlying151 (zeroI w) (zd := .lit (.int .i64 0)) (zp := []) rfl (keyS ha)
  obtain ⟨c, rfl, hc⟩ := intElem_inv hv
  rw [hn.has] at hrun
  refine ⟨c, hrun, fun j hj => ?_⟩
  have := hn.at_ a j hj (.lit (.int .i64 0))
  rw [this] at hc
  simp only [Prod.mk.injEq] at hc
  have hc1 := hc.1
  injection hc1 with hc2
  injection hc2 with _ hc3
  exact hc3.symm
/-- From number k on the spans are written. -/
def SpOut (ps : List PubM) (k : Nat) (cs : Array Value) : Prop := cs.size = ps.length * 3 ∧ ∀ j, k ≤ j → j < ps.length → ∀ q u, (spanR (spanI ps j))[q]? = some u → cs[j * 3 + q]? = some u
theorem SpOut.row {ps : List PubM} {k : Nat} {cs : Array Value} {p : PubM} (h : SpOut ps (k + 1) cs) (hp : ps[k]? = some p) {x y z : Value} (hs : spanR (spanI ps k) = [x, y, z]) : SpOut ps k (((cs.setIfInBounds (k * 3) x).setIfInBounds (k * 3 + 1) y).setIfInBounds (k * 3 + 2) z) := by
  have hk := (List.getElem?_eq_some_iff.1 hp).1
  refine ⟨by simpa using h.1, fun j hj1 hj2 q u hu => ?_⟩
  have h1 := h.1
  by_cases e : j = k
  · subst e
    rw [hs] at hu
    have hq : q = 0 ∨ q = 1 ∨ q = 2 := by
      have := (List.getElem?_eq_some_iff.1 hu).1
      simp at this; omega
    rcases hq with rfl | rfl | rfl
    · simp at hu; subst hu
      rw [Array.getElem?_setIfInBounds_ne (by omega), Array.getElem?_setIfInBounds_ne (by omega)]
      simp [Array.getElem?_setIfInBounds]; omega
    · simp at hu; subst hu
      rw [Array.getElem?_setIfInBounds_ne (by omega)]
      simp [Array.getElem?_setIfInBounds]; omega
    · simp at hu; subst hu
      simp [Array.getElem?_setIfInBounds]; omega
  · have hq : q < 3 := by
      have := (List.getElem?_eq_some_iff.1 hu).1
      simpa [spanR] using this
    rw [Array.getElem?_setIfInBounds_ne (by omega), Array.getElem?_setIfInBounds_ne (by omega), Array.getElem?_setIfInBounds_ne (by omega)]
    exact h.2 j (by omega) hj2 q u hu
/-- All spans. -/
def spansM (ps : List PubM) : List SpanM := (List.range ps.length).map (spanI ps)
theorem spansM_len (ps : List PubM) : (spansM ps).length = ps.length := by simp [spansM]
theorem spansM_get {ps : List PubM} {i : Nat} (h : i < ps.length) : (spansM ps)[i]? = some (spanI ps i) := by simp [spansM, h]
theorem spans_rows {w : World} {ps : List PubM} {b T : Nat} {cs : Array Value} (h : w.heap[b]? = some (.cells cs T (0, 0))) (hs : SpOut ps 0 cs) : RowsV spanR 3 w (.slice (some ⟨b, 0, none⟩) ps.length ps.length) (spansM ps) := by
  refine .inr ⟨b, 0, ps.length, by rw [spansM_len], by rw [spansM_len]; exact Nat.le_refl _, (Array.getElem?_eq_some_iff.1 h).1, fun i x hx j u hu => ?_⟩
  have hi : i < ps.length := by have := (List.getElem?_eq_some_iff.1 hx).1; rwa [spansM_len] at this
  rw [spansM_get hi] at hx
  cases hx
  rw [cell_of_row w b _ cs T (0, 0) h, Nat.zero_add]
  exact hs.2 i (Nat.zero_le _) hi j u hu
end Hy
end Go.Proofs.YtjijijjkkhpjnaaGreatDoor
end

section
namespace Go.Proofs.YtjijijjkkhpjnaaGreatDoor
open Go.RowKit Pl Ad Go.Maps
attribute [local go_sem] ba_get ba_append ba_extract conv_one
set_option maxRecDepth 100000
set_option maxHeartbeats 4000000
set_option linter.unusedVariables false
set_option linter.unusedSimpArgs false
namespace Hy
open A1 Kr
theorem spOut_row {ps : List PubM} {k : Nat} {cs cs' : Array Value} {x y z : Value} (h : SpOut ps (k + 1) cs) (hs : spanR (spanI ps k) = [x, y, z]) (hz : cs'.size = cs.size) (ho : ∀ i, k * 3 + 3 ≤ i → cs'[i]? = cs[i]?) (h0 : cs'[k * 3]? = some x) (h1 : cs'[k * 3 + 1]? = some y) (h2 : cs'[k * 3 + 2]? = some z) : SpOut ps k cs' := by
  refine ⟨by rw [hz]; exact h.1, fun j hj1 hj2 q u hu => ?_⟩
  by_cases e : j = k
  · subst e
    rw [hs] at hu
    have hq : q = 0 ∨ q = 1 ∨ q = 2 := by
      have := (List.getElem?_eq_some_iff.1 hu).1
      simp at this; omega
    rcases hq with rfl | rfl | rfl
    · simp at hu; subst hu; exact h0
    · simp at hu; subst hu; exact h1
    · simp at hu; subst hu; exact h2
  · rw [ho _ (by omega)]
    exact h.2 j (by omega) hj2 q u hu
theorem wpList_make_span {w : World} {ops : Array Oper} {rest : List Oper} {o : Oper} {a : Act} {Q : Exit → Act → World → Prop} (hg : o.guard = none) (l c : Operand) (hop : o.op = Op.makeSlice 129 l c) (n : Nat) (N : Int)
    (hl : a.eval l = .int .i64 N) (hc : a.eval c = .int .i64 N) (hN : N = (n : Int)) (hn : n ≤ 1000000)
    (hK : ∀ cs : Array Value, cs.size = n * 3 → wpList Tryz.prog ops Q rest (a.put o.dst (.slice (some ⟨w.heap.size, 0, none⟩) n n)) (w.alloc (.cells cs 154))) : wpList Tryz.prog ops Q (o :: rest) a w := by
  refine wpList_plain hg fun K hK' => ?_
  obtain ⟨i, h1, h2, h3, h4⟩ := info_parts (show (Tryz.prog.info? 154).map (fun i => (i.zero, i.size, i.bytes)) = some (some (.agg #[.int .i64 0, .int .i64 0, .bool false]), 3, 24) by kernel_rfl)
  have hr := run_make (P := Tryz.prog) w 129 154 i _ Tryz.underlying129 h1 h2 .i64 .i64 N N (by omega) (Int.le_refl _) (by rw [h4]; omega) (by omega)
  rw [h3] at hr
  subst hN
  unfold Oper.wp
  simp only [Int.toNat_natCast] at hr
  simp [execOp, hop, hl, hc, hr, Result.andThen]
  exact hK' _ _ (hK _ (size_madeCells _ _))
theorem spans_any (ps : List PubM) (va : Value) (B : Nat) (w : World) (hp : RowsV pubR 5 w va ps) (hn : ps.length ≤ 1000000) (hpa : ∀ p ∈ ps, PubAt w B p) (hB : B ≤ 9223372036854775807) :
    Calls Tryz.prog 55 #[va] w fun e w' => ∃ v, e = .returned v ∧ RowsV spanR 3 w' v (spansM ps) ∧ Below w.heap.size w w' := by
  obtain ⟨pa, pc, rfl, _⟩ := hp.form
  have HP := Lib.hid hp
  have HPA := Lib.hid hpa
  have HN := Lib.hid hn
  have HBB := Lib.hid hB
  have hmm := @run_makeMap Tryz.prog
  clear hp hpa hB
  go_enter Tryz.func55, Tryz.ntmps55
  go_wp2_with (at_make; refine wpList_make_span rfl _ _ rfl ps.length _ rfl rfl rfl hn ?_; intro cs0 hcs0)
  obtain ⟨w1, hw1⟩ : ∃ z, (w.alloc (.cells cs0 154)).alloc (.map #[] 0) = z := ⟨_, rfl⟩
  have hz1 : (w.alloc (.cells cs0 154)).heap.size = w.heap.size + 1 := by simp
  have hm1 : w1.ownsMap Tryz.prog 9 intElem (w.heap.size + 1) 0 (.map []) := by
    rw [← hw1, ← hz1]
    exact World.ownsMap_made _ Tryz.prog 9 intElem
  have hx1 : Bx w1 w.heap.size 154 cs0 := by
    rw [← hw1]
    exact (Bx.new w _ cs0).older ((Below.refl _ _).alloc (Nat.le_refl _) _)
  have hb1 : Below w.heap.size w w1 := by
    rw [← hw1]
    exact ((Below.refl _ _).alloc (Nat.le_refl _) _).alloc (by simp) _
  rw [hw1]
  have HM1 := Lib.hid hm1
  have HX1 := Lib.hid hx1
  have HB1 := Lib.hid hb1
  have HS1 := Lib.hid (show SpOut ps ps.length cs0 from ⟨hcs0, fun j h1 h2 => by omega⟩)
  obtain ⟨b0, hb0⟩ : ∃ z, w.heap.size = z := ⟨_, rfl⟩
  clear hm1 hx1 hb1 hcs0 hw1 hz1 hmm hn
  rw [hb0] at HM1 HX1 HB1 ⊢
  go_loopg [5] ps.length (fun gq iv wr => ∃ (k : Nat) (D : DataW Unit) (cs : Array Value), iv = .int .i64 ((k : Int) - 1) ∧ k ≤ ps.length ∧ Hid (k ≤ gq) ∧ Hid (NextM ps k D) ∧ Hid (wr.ownsMap Tryz.prog 9 intElem (b0 + 1) (ps.length - k) D) ∧ Hid (Bx wr b0 154 cs) ∧ Hid (SpOut ps k cs) ∧ Hid (Below b0 w wr))
  case atStart => exact ⟨ps.length, _, cs0, rfl, Nat.le_refl _, Lib.hid (Nat.le_refl _), Lib.hid (nextM_start ps), Lib.hid (HM1.out.mono (Nat.zero_le _)), HX1, HS1, HB1⟩
  case round =>
    obtain ⟨k, D, cs, rfl, hk, HQ, HNX, HM, HX, HSP, HB⟩ := hrel
    by_cases hk0 : k = 0
    · subst hk0
      have HR := Lib.hid (spans_rows HX.out HSP.out)
      clear hk
      go_wp2_with fail
      go_ret
      exact ⟨_, rfl, HR.out, by have := HB.out; rwa [← hb0] at this⟩
    · obtain ⟨j, rfl⟩ : ∃ j, k = j + 1 := ⟨k - 1, by omega⟩
      have hj : j < ps.length := by omega
      obtain ⟨p, hpj⟩ : ∃ p, ps[j]? = some p := ⟨_, List.getElem?_eq_getElem hj⟩
      have hpp := HPA.out p (List.mem_of_getElem? hpj)
      obtain ⟨b1, o1, rfl, _, hbl, hrow⟩ := row_at HP.out hpj
      have hbw := HB.out
      rw [← hb0] at hbw
      have HBW := Lib.hid hbw
      clear hbw
      have hal : p.addr.length ≤ 9223372036854775807 := by have := hpp.1; have := HBB.out; omega
      obtain ⟨ba, bc, hbv⟩ := Sg.src_form hpp.2.2.1
      have hsp := spanI_at hpj
      have d0 := keepH HBW.out (hrow 0 _ rfl)
      have d1 := keepH HBW.out (hrow 1 _ rfl)
      have d2 := keepH HBW.out (hrow 2 _ rfl)
      have d3 := keepH HBW.out (hrow 3 _ rfl)
      have d4 := keepH HBW.out (hrow 4 _ rfl)
      rw [Nat.add_zero] at d0
      rw [hbv] at d4
      have hfit : j * 3 + 2 < cs.size := by rw [HSP.out.1]; omega
      obtain ⟨z0, c0⟩ : ∃ z, wr.cell? ⟨b0, j * 3, none⟩ = some z := ⟨_, HX.out.cell (Array.getElem?_eq_getElem (by omega))⟩
      obtain ⟨z1, c1⟩ : ∃ z, wr.cell? ⟨b0, j * 3 + 1, none⟩ = some z := ⟨_, HX.out.cell (Array.getElem?_eq_getElem (by omega))⟩
      obtain ⟨z2, c2⟩ : ∃ z, wr.cell? ⟨b0, j * 3 + 2, none⟩ = some z := ⟨_, HX.out.cell (Array.getElem?_eq_getElem (by omega))⟩
      have f0 := HX.out.frz (j * 3)
      have f1 := HX.out.frz (j * 3 + 1)
      have f2 := HX.out.frz (j * 3 + 2)
      have hbz : b1 < wr.heap.size := World.block_lt_of_cell? wr _ d0
      have hxz := HX.out.lt
      have hw : IntKind.i64.wrap ((j : Int) - 1) = (j : Int) - 1 := IntWalk.i64_in _ (by have := HN.out; omega)
      have e1 : (((j + 1 : Nat)) : Int) - 1 = (j : Int) := by omega
      rw [e1]
      have e2 : ¬ ((j : Int) < 0) := by omega
      have HPB : Hid (p.bodyV = .slice ba p.body.length bc) := Lib.hid hbv
      obtain ⟨pat, plim, padr, ptag, pbv, pbody⟩ := p
      simp only at d0 d1 d2 d3 d4 hal hsp
      have HM2 := Lib.hid (HM.out.alloc (.cells #[.int .i64 pat, .int .i64 plim, .string ⟨padr.toArray⟩, .string ⟨ptag.toArray⟩, .slice ba pbody.length bc] 86))
      obtain ⟨c, hrun, hc⟩ := lookS HM2.out HNX.out hal
      have HNP := Lib.hid (HNX.out.put HM.out.isMap hpj (keyLitS hal))
      have HJ := Lib.hid hj
      have HFIT := Lib.hid hfit
      have HAL := Lib.hid hal
      cases hf : fstI ps padr (j + 1) with
      | none =>
        have hS : spanR (spanI ps j) = [.int .i64 pat, .int .i64 0, .bool false] := by
          rw [hsp, endO_none hpj hf]; rfl
        have HS := Lib.hid hS
        rw [hf] at hrun
        clear hS hsp hf hc hpj hpp hrow hbv hfit hal hj
        simp only [Option.isSome_none] at hrun
        go_wp2_with (at_mapUpdate; go_must (refine wpList_mapUpdate_own _ (by rfl) _ _ _ _ (by rfl) 9 3 keyedS Tryz.underlying151 intElem (b0 + 1) (ps.length - (j + 1)) D (by rfl) (World.ownsMap.alloc (World.ownsMap.setCell (World.ownsMap.setCell (World.ownsMap.setCell HM.out (by simp) _) (by simp) _) (by simp) _) _) (by unfold maxLen; have := HN.out; omega) _ _ (.string padr) (by rfl) (by rfl) (keyS HAL.out) (.lit (.int .i64 (j : Int))) [] (by rfl) ?_); intro w4 hm4 hg4; have HM4 := Lib.hid hm4; have HG4 := Lib.hid hg4; clear hm4 hg4)
        have HT4 := Lib.hid (Touch.trans (((((Touch.refl (fun q => b0 ≤ q) wr).setCell (show b0 ≤ _ from Nat.le_refl b0) _).setCell (show b0 ≤ _ from Nat.le_refl b0) _).setCell (show b0 ≤ _ from Nat.le_refl b0) _).alloc _) (Touch.of_grown (S := fun q => b0 ≤ q) HG4.out (fun k hk => by cases hk; exact Nat.le_succ b0)))
        have HX4 := Lib.hid (((((HX.out.set (j * 3) (.int .i64 pat)).set (j * 3 + 1) (.int .i64 0)).set (j * 3 + 2) (.bool false)).older ((Below.refl _ _).alloc (Nat.le_refl _) _)).touch (Touch.of_grown (S := fun q => q = b0 + 1) HG4.out (fun k hk => by cases hk; rfl)) (by omega))
        go_roundg (gk - 1)
        case rel => exact ⟨j, _, _, by go_num, by omega, Lib.hid (by have := HQ.out; omega), Lib.hid HNP.out, Lib.hid (HM4.out.mono (by have := HJ.out; omega)), Lib.hid HX4.out, Lib.hid (spOut_row HSP.out HS.out (by simp) (fun i hi => by (repeat rw [Array.getElem?_setIfInBounds_ne (by omega)])) (by simp [Array.getElem?_setIfInBounds]; have := HFIT.out; omega) (by simp [Array.getElem?_setIfInBounds]; have := HFIT.out; omega) (by simp [Array.getElem?_setIfInBounds]; have := HFIT.out; omega)), Lib.hid (HB.out.trans (HT4.out.below (by omega) (fun i hi => hi)))⟩
        case measure => have := HQ.out; omega
      | some t =>
        obtain ⟨_, htl⟩ := fstI_lt hf
        obtain ⟨q, hqt⟩ : ∃ q, ps[t]? = some q := ⟨_, List.getElem?_eq_getElem htl⟩
        have hS : spanR (spanI ps j) = [.int .i64 pat, .int .i64 q.at_, .bool true] := by
          rw [hsp, endO_some hpj hf hqt]; rfl
        have HS := Lib.hid hS
        obtain ⟨b2, o2, e3, _, _, hrow2⟩ := row_at HP.out hqt
        cases e3
        have g0 := keepH HBW.out (hrow2 0 _ rfl)
        rw [Nat.add_zero] at g0
        obtain rfl := hc t hf
        rw [hf] at hrun
        have htn : (t : Int) < (ps.length : Int) := by omega
        clear hS hsp hf hc hpj hpp hrow hbv hfit hal hj hrow2 hqt
        simp only [Option.isSome_some] at hrun
        go_wp2_with (at_mapUpdate; go_must (refine wpList_mapUpdate_own _ (by rfl) _ _ _ _ (by rfl) 9 3 keyedS Tryz.underlying151 intElem (b0 + 1) (ps.length - (j + 1)) D (by rfl) (World.ownsMap.alloc (World.ownsMap.setCell (World.ownsMap.setCell (World.ownsMap.setCell (World.ownsMap.setCell (World.ownsMap.setCell HM.out (by simp) _) (by simp) _) (by simp) _) (by simp) _) (by simp) _) _) (by unfold maxLen; have := HN.out; omega) _ _ (.string padr) (by rfl) (by rfl) (keyS HAL.out) (.lit (.int .i64 (j : Int))) [] (by rfl) ?_); intro w4 hm4 hg4; have HM4 := Lib.hid hm4; have HG4 := Lib.hid hg4; clear hm4 hg4)
        have HT4 := Lib.hid (Touch.trans (((((((Touch.refl (fun q => b0 ≤ q) wr).setCell (show b0 ≤ _ from Nat.le_refl b0) _).setCell (show b0 ≤ _ from Nat.le_refl b0) _).setCell (show b0 ≤ _ from Nat.le_refl b0) _).setCell (show b0 ≤ _ from Nat.le_refl b0) _).setCell (show b0 ≤ _ from Nat.le_refl b0) _).alloc _) (Touch.of_grown (S := fun q => b0 ≤ q) HG4.out (fun k hk => by cases hk; exact Nat.le_succ b0)))
        have HX4 := Lib.hid (((((((HX.out.set (j * 3) (.int .i64 pat)).set (j * 3 + 1) (.int .i64 0)).set (j * 3 + 2) (.bool false)).set (j * 3 + 1) (.int .i64 q.at_)).set (j * 3 + 2) (.bool true)).older ((Below.refl _ _).alloc (Nat.le_refl _) _)).touch (Touch.of_grown (S := fun q => q = b0 + 1) HG4.out (fun k hk => by cases hk; rfl)) (by omega))
        go_roundg (gk - 1)
        case rel => exact ⟨j, _, _, by go_num, by omega, Lib.hid (by have := HQ.out; omega), Lib.hid HNP.out, Lib.hid (HM4.out.mono (by have := HJ.out; omega)), Lib.hid HX4.out, Lib.hid (spOut_row HSP.out HS.out (by simp) (fun i hi => by (repeat rw [Array.getElem?_setIfInBounds_ne (by omega)])) (by simp [Array.getElem?_setIfInBounds]; have := HFIT.out; omega) (by simp [Array.getElem?_setIfInBounds]; have := HFIT.out; omega) (by simp [Array.getElem?_setIfInBounds]; have := HFIT.out; omega)), Lib.hid (HB.out.trans (HT4.out.below (by omega) (fun i hi => hi)))⟩
        case measure => have := HQ.out; omega
end Hy
end Go.Proofs.YtjijijjkkhpjnaaGreatDoor
end

section
namespace Go.Proofs.YtjijijjkkhpjnaaGreatDoor
open Go
namespace Hd
section
variable {P : Program} {ops : Array Oper} {Q : Exit → Act → World → Prop} {md : Region.Mode} {S : World → Prop} {oi : Oper} {v : Value} {fuel : Nat} {listed : Array Bool} {a : Act} {w : World}
/-- Take number i first: it yields v. -/
theorem tk (i : Nat) (h : wpAnyH P md ops Q S fuel (listed.setIfInBounds i true) (a.put oi.dst v) w)
    (hi : ops[i]? = some oi := by simp only [List.getElem?_toArray, List.getElem?_cons_succ, List.getElem?_cons_zero]; rfl)
    (hs : Region.noSelect ops = true := by kernel_rfl) (hf : Region.free md ops listed i = true := by kernel_rfl) (hr : (Region.ready md ops listed).contains i = true := by kernel_rfl)
    (hQ : ∀ c a w, Q (.panic c) (a.put oi.dst v) w → Q (.panic c) a w := by intro _ _ _ h; exact h) (hw : Region.wanted oi (yielded ops a.tmps) = true := by rfl) (hS : S w := by assumption)
    (hv : ∀ w, S w → (execOp a.eval oi).run P w = .ok (.value v) w := by intro wT hT; (try dsimp only at hT); go_simp; try with_reducible rfl) :
    wpAnyH P md ops Q S (fuel + 1) listed a w := wpAnyH_take hi hs hf hr hQ (Or.inl ⟨hw, hv⟩) hS h
/-- Pass number i over: its guard shuts it out. -/
theorem sk (i : Nat) (h : wpAnyH P md ops Q S fuel (listed.setIfInBounds i true) (a.put oi.dst undef) w)
    (hi : ops[i]? = some oi := by simp only [List.getElem?_toArray, List.getElem?_cons_succ, List.getElem?_cons_zero]; rfl)
    (hs : Region.noSelect ops = true := by kernel_rfl) (hf : Region.free md ops listed i = true := by kernel_rfl) (hr : (Region.ready md ops listed).contains i = true := by kernel_rfl)
    (hQ : ∀ c a w, Q (.panic c) (a.put oi.dst undef) w → Q (.panic c) a w := by intro _ _ _ h; exact h) (hw : Region.wanted oi (yielded ops a.tmps) = false := by rfl) (hS : S w := by assumption) :
    wpAnyH P md ops Q S (fuel + 1) listed a w := wpAnyH_take hi hs hf hr hQ (Or.inr ⟨hw, rfl⟩) hS h
end
end Hd
end Go.Proofs.YtjijijjkkhpjnaaGreatDoor
end

