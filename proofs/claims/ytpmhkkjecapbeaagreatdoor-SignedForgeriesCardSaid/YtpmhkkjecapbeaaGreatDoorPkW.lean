/- Contracts and plain facts that the statement's proof leans on (texts joined). No condition beyond those that each names. -/
import Derived.Deep.Slices
import Derived.Deep.Fields
import Derived.ChangeSame
import Derived.Lib.SmallJoins
import Derived.Below
import Derived.SliceStrings
import Derived.Test.YtpmhkkjecapbeaaGreatDoorPkA
import Derived.Test.YtpmhkkjecapbeaaGreatDoorPkG
section
section
namespace Go.Proofs.YtpmhkkjecapbeaaGreatDoor.Op
open Go.ChangeShapes Go.WideShapes Go.Deep

theorem list_of {α : Type} {R : Nat → α → Prop} : ∀ (n : Nat), (∀ i, i < n → ∃ x, R i x) → ∃ l : List α, l.length = n ∧ ∀ (i : Nat) (h : i < l.length), R i l[i]
  | 0, _ => ⟨[], rfl, fun i h => absurd h (Nat.not_lt_zero _)⟩
  | n + 1, h => by
    obtain ⟨l, hl, hR⟩ := list_of n fun i hi => h i (by omega)
    obtain ⟨x, hx⟩ := h n (by omega)
    refine ⟨l ++ [x], by simp [hl], fun i hi => ?_⟩
    by_cases hn : i < l.length
    · rw [List.getElem_append_left hn]; exact hR i hn
    · have e : i = n := by simp at hi; omega
      subst e
      rw [List.getElem_append_right (by omega)]
      simpa using hx

theorem cell_lt {w : World} {b o : Nat} {v : Value} (h : w.cell? ⟨b, o, none⟩ = some v) : b < w.heap.size := by
  unfold World.cell? at h
  split at h
  · rename_i h3; exact (Array.getElem?_eq_some_iff.1 h3).1
  · cases h

section
variable {H : Type} {enc : TypeId × Value → H} {P : Program} {w : World} {base : Nat} {spare : Nat → Bool} {held : Bool}
end

theorem add_off {b o k : Nat} : (⟨b, o, none⟩ : Addr).add k = ⟨b, o + k, none⟩ := by unfold Addr.add; split <;> simp_all
end Go.Proofs.YtpmhkkjecapbeaaGreatDoor.Op
end

section
namespace Go.Proofs.YtpmhkkjecapbeaaGreatDoor.Op
open Go.ChangeShapes Go.WideShapes Go.Deep Go.RowKit Pl A1
end Go.Proofs.YtpmhkkjecapbeaaGreatDoor.Op
end

section
namespace Go.Proofs.YtpmhkkjecapbeaaGreatDoor.Op
open Go.ChangeShapes Go.WideShapes Go.Deep Go.RowKit Pl A1
set_option maxRecDepth 100000
end Go.Proofs.YtpmhkkjecapbeaaGreatDoor.Op
end
end

section
namespace Go.Proofs.YtpmhkkjecapbeaaGreatDoor
open Go.RowKit Pl
namespace A1
/-- A value holds these rows: R tells an element's cells, k how many. -/
def RowsV {α : Type} (R : α → List Value) (k : Nat) (w : World) (v : Value) (xs : List α) : Prop :=
  (xs = [] ∧ (v = .slice none 0 0 ∨ ∃ a c, v = .slice (some a) 0 c)) ∨
  ∃ b o c : Nat, v = .slice (some ⟨b, o, none⟩) xs.length c ∧ xs.length ≤ c ∧ b < w.heap.size ∧ ∀ i x, xs[i]? = some x → ∀ j u, (R x)[j]? = some u → w.cell? ⟨b, o + (i * k + j), none⟩ = some u
section
variable {α : Type} {R : α → List Value} {k : Nat} {w w' : World} {v : Value} {xs : List α}
theorem RowsV.below (h : RowsV R k w v xs) (hb : Below w.heap.size w w') : RowsV R k w' v xs := by
  rcases h with h | ⟨b, o, c, h1, h2, h3, h4⟩
  · exact .inl h
  · exact .inr ⟨b, o, c, h1, h2, Nat.lt_of_lt_of_le h3 hb.size, fun i x hx j u hu => by rw [hb.cell (p := ⟨b, _, none⟩) h3]; exact h4 i x hx j u hu⟩
theorem RowsV.drew (h : RowsV R k w v xs) : RowsV R k w.drew v xs := h.below (Below.refl _ _).drew
theorem RowsV.drewN (h : RowsV R k w v xs) (q : Nat) : RowsV R k (w.drewN q) v xs := h.below (below_drewN (Below.refl _ _) q)
theorem RowsV.alloc (h : RowsV R k w v xs) (o : Obj) : RowsV R k (w.alloc o) v xs := h.below ((Below.refl _ _).alloc (Nat.le_refl _) o)
theorem RowsV.form (h : RowsV R k w v xs) : ∃ a c, v = .slice a xs.length c ∧ xs.length ≤ c := by
  rcases h with ⟨rfl, rfl | ⟨a, c, rfl⟩⟩ | ⟨b, o, c, rfl, h, _⟩
  · exact ⟨_, _, rfl, Nat.le_refl _⟩
  · exact ⟨_, _, rfl, Nat.zero_le _⟩
  · exact ⟨_, _, rfl, h⟩
theorem RowsV.nil : RowsV R k w (.slice none 0 0) [] := .inl ⟨rfl, .inl rfl⟩
theorem RowsV.touch {S : Nat → Prop} (h : RowsV R k w v xs) (ht : Touch S w w') (hn : ∀ q, v.ownBlock = some q → ¬ S q) : RowsV R k w' v xs := by
  rcases h with h | ⟨b, o, c, h1, h2, h3, h4⟩
  · exact .inl h
  · refine .inr ⟨b, o, c, h1, h2, Nat.lt_of_lt_of_le h3 ht.size, fun i x hx j u hu => ht.cell (h4 i x hx j u hu) (hn b ?_)⟩
    rw [h1]; rfl
end
end A1
namespace Op
open Go.ChangeShapes Go.WideShapes Go.Deep A1
set_option maxRecDepth 100000
/-- An argument that is a slice of structs: each row's form is told by hrow; K is what else is known of an element. -/
theorem open_rows {α H : Type} {enc : TypeId × Value → H} {P : Program} {w : World} {base : Nat} {spare : Nat → Bool} {held : Bool} {R : α → List Value} {k : Nat} (K : α → Prop) {t e : TypeId} {fuel : Nat} {v : Value} {x : DataW H × List MemPlace}
    (ht : P.underlying t = some (.slice e)) (hC : P.cellsOf e = k) (hk : 0 < k)
    (hrow : ∀ n cs y, cs.length = k → DataW.trod enc P w base spare held n e cs = some y → ∃ x : α, cs = R x ∧ K x)
    (h : DataW.trod enc P w base spare held fuel t [v] = some x) : ∃ xs : List α, RowsV R k w v xs ∧ xs.length ≤ 9223372036854775807 ∧ ∀ x ∈ xs, K x := by
  rcases open_slice ht h with ⟨h1, _⟩ | ⟨a, len, cap, m, n, D, Pl, hcs, hb, hl, hm, hmm, _, hi⟩
  · simp only [List.cons.injEq, and_true] at h1
    exact ⟨[], .inl ⟨rfl, .inl h1⟩, by simp, fun x hx => by cases hx⟩
  · simp only [List.cons.injEq, and_true] at hcs
    subst hcs
    have hmax : maxLen = 9223372036854775807 := rfl
    rcases Nat.eq_zero_or_pos len with h0 | h0
    · subst h0
      exact ⟨[], .inl ⟨rfl, .inr ⟨a, cap, rfl⟩⟩, by simp, fun x hx => by cases hx⟩
    · have hle : len ≤ m := by rw [hmm]; split <;> omega
      have hg : ∀ i, i < len → ∃ x : α, K x ∧ ∀ j u, (R x)[j]? = some u → w.cell? (a.add (i * k + j)) = some u := fun i hil => by
        obtain ⟨cs', hc, ht'⟩ := hi i (by omega)
        rw [hC] at hc
        obtain ⟨_, hcl, hat⟩ := World.cells?_some hc
        obtain ⟨x, hx, hkx⟩ := hrow n cs' _ hcl ht'
        refine ⟨x, hkx, fun j u hu => ?_⟩
        have hj : j < k := by
          have := (List.getElem?_eq_some_iff.1 hu).1
          rw [← hx, hcl] at this; exact this
        rw [← Go.Deep.add_add, hat j hj, hx]; exact hu
      obtain ⟨xs, hxl, hxs⟩ := list_of len hg
      obtain ⟨b, o, sp⟩ := a
      obtain ⟨x0, _, hx0⟩ := hg 0 h0
      obtain ⟨cs0, hc0, ht0⟩ := hi 0 (by omega)
      rw [hC] at hc0
      obtain ⟨_, hcl0, hat0⟩ := World.cells?_some hc0
      have h00 := hat0 0 hk
      have hsome : w.cell? ((Addr.add (Addr.add ⟨b, o, sp⟩ (0 * k)) 0)) = some (cs0[0]'(by omega)) := by rw [h00]; exact List.getElem?_eq_getElem (by omega)
      rw [Go.Deep.add_add] at hsome
      obtain rfl : sp = none := by simpa [Addr.add] using World.cell?_spot hsome
      rw [add_off] at hsome
      refine ⟨xs, .inr ⟨b, o, cap, by rw [hxl], by omega, cell_lt hsome, fun i x hx j u hu => ?_⟩, by omega, fun x hx => ?_⟩
      · obtain ⟨hil, hix⟩ := List.getElem?_eq_some_iff.1 hx
        have := (hxs i hil).2 j u (by rw [hix]; exact hu)
        rw [add_off] at this
        exact this
      · obtain ⟨i, hil, rfl⟩ := List.getElem_of_mem hx
        exact (hxs i hil).1
end Op
end Go.Proofs.YtpmhkkjecapbeaaGreatDoor
end

section
namespace Go.Proofs.YtpmhkkjecapbeaaGreatDoor
open Go.RowKit Pl
namespace Sg
open Go.ChangeShapes Go.WideShapes Go.Deep A1
set_option maxRecDepth 100000
theorem sized_tok {H : Type} {P : Program} {ts : List TypeId} {ds : List (DataW H)} (h : (DataW.weightsEach P ts ds).all (· ≤ reachBytes) = true) {j : Nat} {t : TypeId} {a b : Int} {l : List UInt8} {f0 f1 f2 : Field} (ht : ts[j]? = some t)
    (hd : ds[j]? = some (.agg [.lit (.string l), .lit (.int .i64 a), .lit (.int .i64 b)])) (hu : P.underlying t = some (.struct #[f0, f1, f2])) : l.length ≤ reachBytes := by
  have k := fun n hn => List.all_eq_true.1 h _ (DataW.weights_mem_each ht hd n hn)
  simpa using k l.length (by simp [DataW.weights, DataW.weightsEach, hu])
def byteC (b : UInt8) : List Value := [.int .u8 (b.toNat : Int)]
theorem rows_src {w : World} {v : Value} {xs : Bs} (h : RowsV byteC 1 w v xs) : SrcAt w v xs.length (bvals xs) := by
  rcases h with ⟨rfl, rfl | ⟨a, c, rfl⟩⟩ | ⟨b, o, c, rfl, hc, _, hcell⟩
  · exact .inl ⟨rfl, rfl, rfl⟩
  · exact .inr ⟨a, c, rfl, fun j x hx => by simp [bvals] at hx⟩
  · refine .inr ⟨⟨b, o, none⟩, c, rfl, fun j x hx => ?_⟩
    simp only [bvals, List.getElem?_map, Option.map_eq_some_iff] at hx
    obtain ⟨y, hy, rfl⟩ := hx
    have h9 := hcell j y hy 0 _ rfl
    rw [Op.add_off]
    simpa using h9
theorem src_form {w : World} {v : Value} {m : Nat} {C : List Value} (h : SrcAt w v m C) : ∃ a c, v = .slice a m c := by
  rcases h with ⟨rfl, rfl, _⟩ | ⟨a, c, rfl, _⟩
  · exact ⟨_, _, rfl⟩
  · exact ⟨_, _, rfl⟩
theorem byte_trod {H : Type} {enc : TypeId × Value → H} {w : World} {base n : Nat} {spare : Nat → Bool} {held : Bool} {cs : List Value} {y : DataW H × List MemPlace} (_hl : cs.length = 1)
    (h : DataW.trod enc Tryz.prog w base spare held n 5 cs = some y) : ∃ b : UInt8, cs = byteC b := by
  obtain ⟨d, p⟩ := y
  obtain ⟨k, e, _, hw⟩ := DataW.trod_int Tryz.underlying5 h
  have e1 : IntKind.min .u8 = 0 := rfl
  have e2 : IntKind.max .u8 = 255 := rfl
  simp only [Lit.wf, Bool.and_eq_true, decide_eq_true_eq, e1, e2] at hw
  refine ⟨UInt8.ofNat k.toNat, ?_⟩
  rw [e]
  unfold byteC
  rw [UInt8.toNat_ofNat', Nat.mod_eq_of_lt (by omega), Int.toNat_of_nonneg (by omega)]
theorem open_bytes {H : Type} {enc : TypeId × Value → H} {w : World} {base fuel : Nat} {spare : Nat → Bool} {held : Bool} {v : Value} {d : DataW H} {p : List MemPlace}
    (h : DataW.trod enc Tryz.prog w base spare held fuel 45 [v] = some (d, p)) : ∃ xs : Bs, SrcAt w v xs.length (bvals xs) ∧ (xs = [] ∨ ∃ es sp, d = .slice es sp ∧ es.length = xs.length) := by
  obtain ⟨xs, h1, _, _⟩ := Op.open_rows (R := byteC) (k := 1) (fun _ => True) Tryz.underlying45 (by kernel_rfl) (by decide) (fun n cs y hl h => by obtain ⟨b, hb⟩ := byte_trod hl h; exact ⟨b, hb, trivial⟩) h
  refine ⟨xs, rows_src h1, ?_⟩
  rcases open_slice Tryz.underlying45 h with ⟨h2, _⟩ | ⟨a, len, cap, m, n, D, Pl, hcs, _, _, _, _, hx, _⟩
  · simp only [List.cons.injEq, and_true] at h2
    obtain ⟨a, c, h3⟩ := src_form (rows_src h1)
    rw [h2] at h3
    injection h3 with _ h4 _
    exact .inl (List.eq_nil_of_length_eq_zero h4.symm)
  · simp only [List.cons.injEq, and_true] at hcs
    obtain ⟨a', c', h3⟩ := src_form (rows_src h1)
    rw [hcs] at h3
    injection h3 with _ h4 _
    have h5 := congrArg Prod.fst hx
    exact .inr ⟨_, _, h5, by rw [List.length_map, List.length_range, h4]⟩
theorem bytes_len {H : Type} {ts : List TypeId} {ds : List (DataW H)} (h : (DataW.weightsEach Tryz.prog ts ds).all (· ≤ reachBytes) = true) {j : Nat} {d : DataW H} {xs : Bs} (ht : ts[j]? = some 45) (hd : ds[j]? = some d) (hx : xs = [] ∨ ∃ es sp, d = .slice es sp ∧ es.length = xs.length) : xs.length ≤ 140737488351232 := by
  rcases hx with rfl | ⟨es, sp, rfl, he⟩
  · simp
  · have h9 := sized_slice h ht hd Tryz.underlying45
    rw [show Tryz.prog.bytesOf 5 = 1 by kernel_rfl] at h9
    have e1 : reachBytes = 140737488351232 := rfl
    omega
theorem open_check {H : Type} {enc : TypeId × Value → H} {w : World} {base : Nat} {spare : Nat → Bool} {held : Bool} {v : Value} {d : DataW H} {p : List MemPlace} {r : Reach} {b0 : Nat}
    (hv : Value.okWide Tryz.prog w r b0 76 v) (h : DataW.Trod enc Tryz.prog w base spare held 76 v d p) :
    ∃ (lh lp lq : Bs) (lb : Bool) (sec : Bs) (u : Value) (kn : Bool) (now : Int) (ds : DataW H), v = .agg #[.string ⟨lh.toArray⟩, .string ⟨lp.toArray⟩, .string ⟨lq.toArray⟩, .bool lb, u, .bool kn, .int .i64 now] ∧ SrcAt w u sec.length (bvals sec) ∧
      d = .agg [.agg [.lit (.string lh), .lit (.string lp), .lit (.string lq), .lit (.bool lb)], ds, .lit (.bool kn), .lit (.int .i64 now)] ∧ (sec = [] ∨ ∃ es sp, ds = .slice es sp ∧ es.length = sec.length) := by
  obtain ⟨cs, rfl, hsz⟩ : ∃ cs, v = .agg cs ∧ cs.size = 7 := by
    unfold Value.okWide at hv
    rw [Tryz.underlying76] at hv
    obtain ⟨cs, h1, h2, _⟩ := hv
    exact ⟨cs, h1, h2.trans (by kernel_rfl)⟩
  obtain ⟨fuel, hf⟩ := h
  obtain ⟨y0, y1, y2, y3, m, hx, _, h0, h1, h2, h3⟩ := Go.Joins.trod_struct4 Tryz.underlying76 hf
  obtain ⟨l⟩ := cs
  have hl : l.length = 7 := hsz
  match l, hl with
  | [a0, a1, a2, a3, a4, a5, a6], _ =>
    have h0' : DataW.trod enc Tryz.prog w base spare held m 62 [a0, a1, a2, a3] = some y0 := h0
    obtain ⟨z0, z1, z2, z3, n, hz, _, k0, k1, k2, k3⟩ := Go.Joins.trod_struct4 Tryz.underlying62 h0'
    obtain ⟨⟨⟨lh⟩⟩, e0, f0, _⟩ := DataW.trod_string Tryz.underlying9 k0
    obtain ⟨⟨⟨lp⟩⟩, e1, f1, _⟩ := DataW.trod_string Tryz.underlying9 k1
    obtain ⟨⟨⟨lq⟩⟩, e2, f2, _⟩ := DataW.trod_string Tryz.underlying9 k2
    obtain ⟨lb, e3, f3⟩ := DataW.trod_bool Tryz.underlying4 k3
    have h1' : DataW.trod enc Tryz.prog w base spare held m 45 [a4] = some (y1.1, y1.2) := h1
    obtain ⟨sec, hs, hd⟩ := open_bytes h1'
    obtain ⟨kn, e5, f5⟩ := DataW.trod_bool Tryz.underlying4 h2
    obtain ⟨now, e6, f6, _⟩ := DataW.trod_int Tryz.underlying3 h3
    have e0' : [a0] = [Value.string ⟨⟨lh⟩⟩] := e0
    have e1' : [a1] = [Value.string ⟨⟨lp⟩⟩] := e1
    have e2' : [a2] = [Value.string ⟨⟨lq⟩⟩] := e2
    have e3' : [a3] = [Value.bool lb] := e3
    have e5' : [a5] = [Value.bool kn] := e5
    have e6' : [a6] = [Value.int .i64 now] := e6
    cases e0'; cases e1'; cases e2'; cases e3'; cases e5'; cases e6'
    refine ⟨lh, lp, lq, lb, sec, a4, kn, now, y1.1, rfl, hs, ?_, hd⟩
    have g1 := congrArg Prod.fst hx
    have g2 := congrArg Prod.fst hz
    simp only at g1 g2
    rw [g1, g2, f0, f1, f2, f3, f5, f6]
theorem check_lens {H : Type} {ts : List TypeId} {ds : List (DataW H)} (h : (DataW.weightsEach Tryz.prog ts ds).all (· ≤ reachBytes) = true) {j : Nat} {lh lp lq : Bs} {lb kn : Bool} {now : Int} {e : DataW H} {xs : Bs} (ht : ts[j]? = some 76)
    (hd : ds[j]? = some (.agg [.agg [.lit (.string lh), .lit (.string lp), .lit (.string lq), .lit (.bool lb)], e, .lit (.bool kn), .lit (.int .i64 now)])) (hx : xs = [] ∨ ∃ es sp, e = .slice es sp ∧ es.length = xs.length) :
    lh.length ≤ 140737488351232 ∧ lp.length ≤ 140737488351232 ∧ lq.length ≤ 140737488351232 ∧ xs.length ≤ 140737488351232 := by
  have k := fun n hn => List.all_eq_true.1 h _ (DataW.weights_mem_each ht hd n hn)
  have e1 : reachBytes = 140737488351232 := rfl
  have g : ∀ n, n ∈ DataW.weights Tryz.prog 76 (.agg [.agg [.lit (.string lh), .lit (.string lp), .lit (.string lq), .lit (.bool lb)], e, .lit (.bool kn), .lit (.int .i64 now)]) → n ≤ 140737488351232 := fun n hn => by simpa [e1] using k n hn
  have u1 := Tryz.underlying76
  have u2 := Tryz.underlying62
  have u3 := Tryz.underlying45
  refine ⟨g _ (by simp [DataW.weights, DataW.weightsEach, u1, u2]), g _ (by simp [DataW.weights, DataW.weightsEach, u1, u2]), g _ (by simp [DataW.weights, DataW.weightsEach, u1, u2]), ?_⟩
  rcases hx with rfl | ⟨es, sp, rfl, he⟩
  · simp
  · have h9 := g ((es.length + sp.length) * Tryz.prog.bytesOf 5) (by simp [DataW.weights, DataW.weightsEach, u1, u2, u3])
    rw [show Tryz.prog.bytesOf 5 = 1 by kernel_rfl] at h9
    omega
theorem u16_range {n : Int} (h : (Lit.int .u16 n).wf = true) : 0 ≤ n ∧ n < 65536 := by
  have e1 : IntKind.min .u16 = 0 := rfl
  have e2 : IntKind.max .u16 = 65535 := rfl
  simp only [Lit.wf, Bool.and_eq_true, decide_eq_true_eq, e1, e2] at h
  omega
theorem u8_range {n : Int} (h : (Lit.int .u8 n).wf = true) : 0 ≤ n ∧ n < 256 := by
  have e1 : IntKind.min .u8 = 0 := rfl
  have e2 : IntKind.max .u8 = 255 := rfl
  simp only [Lit.wf, Bool.and_eq_true, decide_eq_true_eq, e1, e2] at h
  omega
end Sg
end Go.Proofs.YtpmhkkjecapbeaaGreatDoor
end

