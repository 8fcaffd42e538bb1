/- Contracts and plain facts that the statement's proof leans on (texts joined). No condition beyond those that each names. -/
import Derived.Test.YtjijijjkkhpjnaaGreatDoorQdG
import Derived.Test.YtjijijjkkhpjnaaGreatDoorQdM
import Derived.Test.YtjijijjkkhpjnaaGreatDoorQdN
section
namespace Go.Proofs.YtjijijjkkhpjnaaGreatDoor
open Go.RowKit Pl Ad
set_option maxRecDepth 100000
set_option linter.unusedVariables false
namespace Hy
open A1 Kr
/-- What a slice type's tables say. -/
structure WideTy (P : Program) (T e : TypeId) (size bytes : Nat) : Prop where
  under : P.underlying T = some (.slice e)
  info : ∃ i z, P.info? e = some i ∧ i.zero = some z ∧ i.size = size ∧ i.bytes = bytes ∧ z.cells.size = size
  pos : 0 < size
  small : bytes ≤ 1024
section
variable {P : Program} {T e : TypeId} {size bytes : Nat} (ty : WideTy P T e size bytes)
include ty
theorem wp_appB {o : Oper} {a : Act} {w : World} {K : Act → World → Prop} {Q : Exit → Act → World → Prop} (s x : Operand)
    (ho : o.op = .call { callee := .builtin .append, args := #[s, x], argTypes := #[T, T] })
    (B : Nat) (v : Value) (n : Nat) (xs : List Value) (hs : a.eval s = v) (hown : OwnWin w B e size v n xs) (hB : B ≤ w.heap.size)
    (u : Value) (m : Nat) (C : List Value) (hx : a.eval x = u) (hC : SrcAt w u m C) (hl : C.length = m * size) (h1 : ∀ u ∈ C, u.oneCell' = true)
    (hn : n + m ≤ 100000000)
    (h : ∀ v' w', OwnWin w' B e size v' (n + m) (xs ++ C) → w.grownBy w' v.ownBlock → (v'.ownBlock = v.ownBlock ∨ v'.ownBlock = some w.heap.size) → K (a.put o.dst v') w') : o.wp P a w K Q := by
  obtain ⟨i, z, hi, hz, hsize, hby, hzs⟩ := ty.info
  have hsm := ty.small
  obtain ⟨v', w', hr, h2, h3, h4, _⟩ := run_append_win (P := P) w B T o.type e i z size bytes ty.under hi hz hsize hby hzs ty.pos v n xs hown u m C hl hC h1 (by unfold maxLen; omega) (by
    calc (n + m) * bytes ≤ 100000000 * 1024 := Nat.mul_le_mul hn hsm
      _ ≤ 140737488355328 := by decide) hB
  unfold Oper.wp execOp
  simp only [ho, resolve, invoke, builtin, Sem.run_bind, Sem.run_pure, Result.andThen_ok, List.map_toArray, List.map_cons, List.map_nil, hs, hx, hr]
  exact h v' w' h2 h3 h4
theorem wpList_appB {ops : Array Oper} {rest : List Oper} {o : Oper} {a : Act} {w : World} {Q : Exit → Act → World → Prop} (hg : o.guard = none) (s x : Operand)
    (ho : o.op = .call { callee := .builtin .append, args := #[s, x], argTypes := #[T, T] })
    (B : Nat) (v : Value) (n : Nat) (xs : List Value) (hs : a.eval s = v) (hown : OwnWin w B e size v n xs) (hB : B ≤ w.heap.size)
    (u : Value) (m : Nat) (C : List Value) (hx : a.eval x = u) (hC : SrcAt w u m C) (hl : C.length = m * size) (h1 : ∀ u ∈ C, u.oneCell' = true)
    (hn : n + m ≤ 100000000)
    (h : ∀ v' w', OwnWin w' B e size v' (n + m) (xs ++ C) → w.grownBy w' v.ownBlock → (v'.ownBlock = v.ownBlock ∨ v'.ownBlock = some w.heap.size) → wpList P ops Q rest (a.put o.dst v') w') : wpList P ops Q (o :: rest) a w :=
  wpList_plain hg fun _ hK => wp_appB ty s x ho B v n xs hs hown hB u m C hx hC hl h1 hn fun v' w' h2 h3 h4 => hK _ _ (h v' w' h2 h3 h4)
theorem step_appB {ops : Array Oper} {o : Oper} {a : Act} {w : World} {K : Act → World → Prop} {Q : Exit → Act → World → Prop} {E : Prop} (hgd : o.guard = none) (s x : Operand)
    (ho : o.op = .call { callee := .builtin .append, args := #[s, x], argTypes := #[T, T] })
    (B : Nat) (v : Value) (n : Nat) (xs : List Value) (hs : a.eval s = v) (hown : OwnWin w B e size v n xs) (hB : B ≤ w.heap.size)
    (u : Value) (m : Nat) (C : List Value) (hx : a.eval x = u) (hC : SrcAt w u m C) (hl : C.length = m * size) (h1 : ∀ u ∈ C, u.oneCell' = true)
    (hn : n + m ≤ 100000000)
    (h : ∀ v' w', OwnWin w' B e size v' (n + m) (xs ++ C) → w.grownBy w' v.ownBlock → (v'.ownBlock = v.ownBlock ∨ v'.ownBlock = some w.heap.size) → K (a.put o.dst v') w') :
    if Region.wanted o (yielded ops a.tmps) = true then Oper.wp P o a w K Q else E := by
  have hw : Region.wanted o (yielded ops a.tmps) = true := by simp [Region.wanted, hgd]
  rw [if_pos hw]
  exact wp_appB ty s x ho B v n xs hs hown hB u m C hx hC hl h1 hn h
end
theorem tyFet : WideTy Tryz.prog 66 102 6 72 :=
  ⟨Tryz.underlying66, by
    obtain ⟨i, h1, h2, h3, h4⟩ := info_parts (show (Tryz.prog.info? 102).map (fun i => (i.zero, i.size, i.bytes)) = some (some (.agg #[.string ⟨#[]⟩, .string ⟨#[]⟩, .string ⟨#[]⟩, .int .i64 0, .int .i64 0, .bool false]), 6, 72) by kernel_rfl)
    exact ⟨i, _, h1, h2, h3, h4, rfl⟩, by decide, by decide⟩
theorem tySrv : WideTy Tryz.prog 65 82 11 144 :=
  ⟨Tryz.underlying65, by
    obtain ⟨i, h1, h2, h3, h4⟩ := info_parts (show (Tryz.prog.info? 82).map (fun i => (i.zero, i.size, i.bytes)) = some (some (.agg #[.string ⟨#[]⟩, .string ⟨#[]⟩, .string ⟨#[]⟩, .int .i64 0, .int .i64 0, .int .i64 0, .int .i64 0, .int .i64 0, .slice none 0 0, .slice none 0 0, .bool false]), 11, 144) by kernel_rfl)
    exact ⟨i, _, h1, h2, h3, h4, rfl⟩, by decide, by decide⟩
theorem tyPart : WideTy Tryz.prog 80 88 3 40 :=
  ⟨Tryz.underlying80, by
    obtain ⟨i, h1, h2, h3, h4⟩ := info_parts (show (Tryz.prog.info? 88).map (fun i => (i.zero, i.size, i.bytes)) = some (some (.agg #[.int .i64 0, .int .i64 0, .slice none 0 0]), 3, 40) by kernel_rfl)
    exact ⟨i, _, h1, h2, h3, h4, rfl⟩, by decide, by decide⟩
theorem tyPrg : WideTy Tryz.prog 64 97 3 32 :=
  ⟨Tryz.underlying64, by
    obtain ⟨i, h1, h2, h3, h4⟩ := info_parts (show (Tryz.prog.info? 97).map (fun i => (i.zero, i.size, i.bytes)) = some (some (.agg #[.string ⟨#[]⟩, .int .i64 0, .int .i64 0]), 3, 32) by kernel_rfl)
    exact ⟨i, _, h1, h2, h3, h4, rfl⟩, by decide, by decide⟩
end Hy
end Go.Proofs.YtjijijjkkhpjnaaGreatDoor
end

section
namespace Go.Proofs.YtjijijjkkhpjnaaGreatDoor
open Go.RowKit Pl
set_option maxRecDepth 100000
set_option maxHeartbeats 1000000
set_option linter.unusedVariables false
namespace Hy
open Go.ChangeShapes Go.WideShapes Go.Deep A1
theorem open_his {H : Type} {enc : TypeId × Value → H} {w : World} {base B : Nat} {spare : Nat → Bool} {held : Bool} {v : Value} {d : DataW H} {p : List MemPlace} {r : Reach} {b0 : Nat}
    (hv : Value.okWide Tryz.prog w r b0 69 v) (h : DataW.Trod enc Tryz.prog w base spare held 69 v d p) (hB : Rows.uptoBulk d ≤ B) :
    ∃ (va vb vc vd ve : Value) (h : HisM), v = .agg #[va, vb, vc, vd, ve, .int .i64 h.bound, .int .i64 h.fin] ∧ HisAt w B va vb vc vd ve h := by
  obtain ⟨cs, rfl, hsz⟩ := okWide_struct Tryz.underlying69 hv
  obtain ⟨fuel, hf0⟩ := h
  obtain ⟨xs, m, _, hy, _, hlen, hf⟩ := DataW.trod_struct Tryz.underlying69 hf0
  obtain ⟨l⟩ := cs
  have hl : l.length = 7 := (show l.length = _ from by simpa using hsz).trans (show Tryz.prog.cellsOf 69 = 7 by kernel_rfl)
  match l, hl with
  | [c0, c1, c2, c3, c4, c5, c6], _ =>
    have hln : xs.length = 7 := hlen
    match xs, hln with
    | [y0, y1, y2, y3, y4, y5, y6], _ =>
      have g0 : DataW.trod enc Tryz.prog w base spare held m 63 [c0] = some y0 := hf 0 _ rfl
      have g1 : DataW.trod enc Tryz.prog w base spare held m 64 [c1] = some y1 := hf 1 _ rfl
      have g2 : DataW.trod enc Tryz.prog w base spare held m 65 [c2] = some y2 := hf 2 _ rfl
      have g3 : DataW.trod enc Tryz.prog w base spare held m 66 [c3] = some y3 := hf 3 _ rfl
      have g4 : DataW.trod enc Tryz.prog w base spare held m 67 [c4] = some y4 := hf 4 _ rfl
      have g5 : DataW.trod enc Tryz.prog w base spare held m 3 [c5] = some y5 := hf 5 _ rfl
      have g6 : DataW.trod enc Tryz.prog w base spare held m 3 [c6] = some y6 := hf 6 _ rfl
      have hb : Rows.uptoBulk (DataW.agg [y0.1, y1.1, y2.1, y3.1, y4.1, y5.1, y6.1] : DataW H) ≤ B := by have h9 := congrArg Prod.fst hy; simp only [List.map_cons, List.map_nil] at h9; rw [← h9]; exact hB
      simp only [Rows.uptoBulk, Rows.uptoBulkAll] at hb
      obtain ⟨x0, r0, l0, k0⟩ := Op.pubs_trodB g0 (B := B) (by omega)
      obtain ⟨x1, r1, l1, k1⟩ := Op.prgs_trodB g1 (B := B) (by omega)
      obtain ⟨x2, r2, l2, k2⟩ := Op.srvs_trodB g2 (B := B) (by omega)
      obtain ⟨x3, r3, l3, k3⟩ := Op.fets_trodB g3 (B := B) (by omega)
      obtain ⟨x4, r4, l4, k4⟩ := Op.dros_trodB g4 (B := B) (by omega)
      obtain ⟨k5, e5, _, _⟩ := DataW.trod_int Tryz.underlying3 g5
      have e5' : [c5] = [Value.int .i64 k5] := e5
      cases e5'
      obtain ⟨k6, e6, _, _⟩ := DataW.trod_int Tryz.underlying3 g6
      have e6' : [c6] = [Value.int .i64 k6] := e6
      cases e6'
      exact ⟨c0, c1, c2, c3, c4, ⟨x0, x1, x2, x3, x4, k5, k6⟩, rfl, ⟨r0, l0, k0, r1, l1, k1, r2, l2, k2, r3, l3, k3, r4, l4, k4⟩⟩
end Hy
end Go.Proofs.YtjijijjkkhpjnaaGreatDoor
end

section
namespace Go.Proofs.YtjijijjkkhpjnaaGreatDoor
open Go.RowKit Pl Ad
set_option maxRecDepth 100000
set_option maxHeartbeats 1000000
set_option linter.unusedVariables false
namespace Hy
open A1 Kr
section
variable {α : Type} {F : α → List Value} {K : Nat} {w : World} {xs : List α}
theorem rows_pre {a : Option Addr} {n c k : Nat} (h : RowsV F K w (.slice a n c) xs) (hF : ∀ x, (F x).length = K) (hK : 0 < K) (hk : k ≤ xs.length) : SrcAt w (.slice a k c) k ((xs.take k).flatMap F) := by
  have hs := rows_src h hF hK
  rcases hs with ⟨h1, h2, h3⟩ | ⟨a', c', h1, h2⟩
  · cases h1
    obtain rfl := List.eq_nil_of_length_eq_zero h2
    simp only [List.length_nil] at hk
    obtain rfl : k = 0 := by omega
    exact .inl ⟨rfl, rfl, rfl⟩
  · cases h1
    refine .inr ⟨_, _, rfl, fun j u hu => h2 j u ?_⟩
    have hx : xs.flatMap F = (xs.take k).flatMap F ++ (xs.drop k).flatMap F := by rw [← List.flatMap_append, List.take_append_drop]
    rw [hx, List.getElem?_append_left (List.getElem?_eq_some_iff.1 hu).1]
    exact hu
theorem rows_suf {b o n c k : Nat} (h : RowsV F K w (.slice (some ⟨b, o, none⟩) n c) xs) (hF : ∀ x, (F x).length = K) (hK : 0 < K) (hk : k ≤ xs.length) {m c' : Nat} (hm : m = n - k) : SrcAt w (.slice (some ⟨b, o + k * K, none⟩) m c') m ((xs.drop k).flatMap F) := by
  subst hm
  have hs := rows_src h hF hK
  rcases hs with ⟨h1, _⟩ | ⟨a', c', h1, h2⟩
  · cases h1
  · cases h1
    refine .inr ⟨_, _, rfl, fun j u hu => ?_⟩
    have hx : xs.flatMap F = (xs.take k).flatMap F ++ (xs.drop k).flatMap F := by rw [← List.flatMap_append, List.take_append_drop]
    have hl : ((xs.take k).flatMap F).length = k * K := by rw [flat_len hF, List.length_take, Nat.min_eq_left hk]
    have := h2 (k * K + j) u (by rw [hx, List.getElem?_append_right (by omega), hl, Nat.add_sub_cancel_left]; exact hu)
    rw [Addr.add_lit] at this ⊢
    rw [Nat.add_assoc]
    exact this
theorem rows_sufI {b o n c k : Nat} (h : RowsV F K w (.slice (some ⟨b, o, none⟩) n c) xs) (hF : ∀ x, (F x).length = K) (hK : 0 < K) (hn : n = xs.length) (hk : k ≤ xs.length) (hc : n ≤ c) {m c' : Nat} (hm : m = n - k) : SrcAt w (.slice (if c = k then some ⟨b, o, none⟩ else some ⟨b, o + k * K, none⟩) m c') m ((xs.drop k).flatMap F) := by
  by_cases hck : c = k
  · rw [if_pos hck]
    obtain rfl : m = 0 := by omega
    rw [List.drop_eq_nil_of_le (by omega)]
    exact .inr ⟨_, _, rfl, fun j x hx => by simp at hx⟩
  · rw [if_neg hck]
    exact rows_suf h hF hK hk hm
theorem rows_take {a : Option Addr} {n c m : Nat} (h : RowsV F K w (.slice a n c) xs) (hm : m ≤ xs.length) : RowsV F K w (.slice a m c) (xs.take m) := by
  rcases h with ⟨rfl, h1⟩ | ⟨b, o, c', e, h2, h3, h4⟩
  · obtain rfl : m = 0 := by simpa using hm
    rcases h1 with h1 | ⟨a', c', h1⟩
    · cases h1; exact .inl ⟨rfl, .inl rfl⟩
    · cases h1; exact .inl ⟨rfl, .inr ⟨_, _, rfl⟩⟩
  · cases e
    refine .inr ⟨b, o, c, by rw [List.length_take, Nat.min_eq_left hm], by rw [List.length_take]; omega, h3, fun i x hx j u hu => h4 i x ?_ j u hu⟩
    have hi := (List.getElem?_eq_some_iff.1 hx).1
    rw [List.length_take] at hi
    rw [List.getElem?_take_of_lt (by omega)] at hx
    exact hx
/-- The list without an element, as its cells. -/
theorem flat_without (i : Nat) : (xs.take i).flatMap F ++ (xs.drop (i + 1)).flatMap F = (without xs i).flatMap F := by unfold without; rw [List.flatMap_append]
theorem without_len {i : Nat} (hi : i < xs.length) : (without xs i).length = i + (xs.length - (i + 1)) := by unfold without; simp; omega
end
theorem one_strs {w : World} {v : Value} {l : List Bs} (h : StrsV w v l) : v.oneCell' = true := by
  rcases h with ⟨_, rfl | ⟨_, _, rfl⟩⟩ | ⟨_, _, _, rfl, _⟩ <;> rfl
theorem one_rows {α : Type} {F : α → List Value} {K : Nat} {w : World} {v : Value} {xs : List α} (h : RowsV F K w v xs) : v.oneCell' = true := by
  obtain ⟨_, _, rfl, _⟩ := h.form; rfl
theorem one_src {w : World} {v : Value} {m : Nat} {C : List Value} (h : SrcAt w v m C) : v.oneCell' = true := by
  rcases h with ⟨rfl, _⟩ | ⟨_, _, rfl, _⟩ <;> rfl
theorem one_srv {w : World} {B : Nat} {xs : List SrvM} (h : ∀ s ∈ xs, SrvAt w B s) : ∀ u ∈ xs.flatMap srvR, u.oneCell' = true := fun u hu => by
  obtain ⟨s, hs, hu⟩ := List.mem_flatMap.1 hu
  obtain ⟨_, _, _, h4, _, _, h7, _⟩ := h s hs
  simp only [srvR, List.mem_cons, List.not_mem_nil, or_false] at hu
  rcases hu with rfl | rfl | rfl | rfl | rfl | rfl | rfl | rfl | rfl | rfl | rfl
  all_goals first | rfl | exact one_strs h4 | exact one_rows h7
theorem one_prg {xs : List PrgM} : ∀ u ∈ xs.flatMap prgR, u.oneCell' = true := fun u hu => by
  obtain ⟨s, hs, hu⟩ := List.mem_flatMap.1 hu
  simp only [prgR, List.mem_cons, List.not_mem_nil, or_false] at hu
  rcases hu with rfl | rfl | rfl <;> rfl
theorem one_fet {xs : List FetM} : ∀ u ∈ xs.flatMap fetR, u.oneCell' = true := fun u hu => by
  obtain ⟨s, hs, hu⟩ := List.mem_flatMap.1 hu
  simp only [fetR, List.mem_cons, List.not_mem_nil, or_false] at hu
  rcases hu with rfl | rfl | rfl | rfl | rfl | rfl <;> rfl
theorem one_part {w : World} {B : Nat} {xs : List PartM} (h : ∀ x ∈ xs, PartAt w B x) : ∀ u ∈ xs.flatMap partR, u.oneCell' = true := fun u hu => by
  obtain ⟨s, hs, hu⟩ := List.mem_flatMap.1 hu
  simp only [partR, List.mem_cons, List.not_mem_nil, or_false] at hu
  rcases hu with rfl | rfl | rfl
  all_goals first | rfl | exact one_src (h s hs).1
/-- A history's parts changed: the small bounds stay. -/
theorem Small.srvs {h : HisM} (k : h.Small) {l : List SrvM} (hl : l.length ≤ 1000) (hs : ∀ s ∈ l, inB s.at_ ∧ inB s.ask ∧ ∀ x ∈ s.parts, inB x.at_) : ({ h with srvs := l } : HisM).Small :=
  ⟨k.pubs, k.prgs, hs, k.fets, k.dros, k.bound, k.fin, k.npub, k.nprg, hl, k.nfet, k.ndro⟩
theorem Small.prgs {h : HisM} (k : h.Small) {l : List PrgM} (hl : l.length ≤ 1000) (hs : ∀ g ∈ l, inB g.ord ∧ inB g.stl) : ({ h with prgs := l } : HisM).Small :=
  ⟨k.pubs, hs, k.srvs, k.fets, k.dros, k.bound, k.fin, k.npub, hl, k.nsrv, k.nfet, k.ndro⟩
theorem Small.fets {h : HisM} (k : h.Small) {l : List FetM} (hl : l.length ≤ 1000) (hs : ∀ g ∈ l, inB g.at_) : ({ h with fets := l } : HisM).Small :=
  ⟨k.pubs, k.prgs, k.srvs, hs, k.dros, k.bound, k.fin, k.npub, k.nprg, k.nsrv, hl, k.ndro⟩
theorem HisAt.srvsTo {w : World} {B : Nat} {va vb vc vd ve vc' : Value} {h : HisM} (k : HisAt w B va vb vc vd ve h) {l : List SrvM} (hr : RowsV srvR 11 w vc' l) (hl : l.length ≤ B) (hs : ∀ s ∈ l, SrvAt w B s) : HisAt w B va vb vc' vd ve { h with srvs := l } :=
  ⟨k.pubs, k.npub, k.pub, k.prgs, k.nprg, k.prg, hr, hl, hs, k.fets, k.nfet, k.fet, k.dros, k.ndro, k.dro⟩
theorem HisAt.prgsTo {w : World} {B : Nat} {va vb vc vd ve vb' : Value} {h : HisM} (k : HisAt w B va vb vc vd ve h) {l : List PrgM} (hr : RowsV prgR 3 w vb' l) (hl : l.length ≤ B) (hs : ∀ s ∈ l, PrgAt w B s) : HisAt w B va vb' vc vd ve { h with prgs := l } :=
  ⟨k.pubs, k.npub, k.pub, hr, hl, hs, k.srvs, k.nsrv, k.srv, k.fets, k.nfet, k.fet, k.dros, k.ndro, k.dro⟩
theorem HisAt.fetsTo {w : World} {B : Nat} {va vb vc vd ve vd' : Value} {h : HisM} (k : HisAt w B va vb vc vd ve h) {l : List FetM} (hr : RowsV fetR 6 w vd' l) (hl : l.length ≤ B) (hs : ∀ s ∈ l, FetAt w B s) : HisAt w B va vb vc vd' ve { h with fets := l } :=
  ⟨k.pubs, k.npub, k.pub, k.prgs, k.nprg, k.prg, k.srvs, k.nsrv, k.srv, hr, hl, hs, k.dros, k.ndro, k.dro⟩
end Hy
end Go.Proofs.YtjijijjkkhpjnaaGreatDoor
end

section
namespace Go.Proofs.YtjijijjkkhpjnaaGreatDoor
open Go.RowKit Pl
set_option maxRecDepth 100000
set_option maxHeartbeats 1000000
set_option linter.unusedVariables false
namespace Hy
open Go.ChangeShapes Go.WideShapes Go.Deep A1
theorem byte_trod3 {H : Type} {enc : TypeId × Value → H} {w : World} {base n : Nat} {spare : Nat → Bool} {held : Bool} {c : Value} {y : DataW H × List MemPlace}
    (h : DataW.trod enc Tryz.prog w base spare held n 5 [c] = some y) : ∃ b : Nat, c = .int .u8 (b : Int) ∧ b < 256 := by
  obtain ⟨d, p⟩ := y
  obtain ⟨k, e, _, hw⟩ := DataW.trod_int Tryz.underlying5 h
  have e1 : IntKind.min .u8 = 0 := rfl
  have e2 : IntKind.max .u8 = 255 := rfl
  simp only [Lit.wf, Bool.and_eq_true, decide_eq_true_eq, e1, e2] at hw
  refine ⟨k.toNat, ?_, by omega⟩
  rw [(List.cons.inj e).1, Int.toNat_of_nonneg (by omega)]
theorem open_tri {H : Type} {enc : TypeId × Value → H} {w : World} {base n : Nat} {spare : Nat → Bool} {held : Bool} {c0 c1 c2 : Value} {x : DataW H × List MemPlace}
    (h : DataW.trod enc Tryz.prog w base spare held n 24 [c0, c1, c2] = some x) : ∃ a b c : Nat, c0 = .int .u8 (a : Int) ∧ c1 = .int .u8 (b : Int) ∧ c2 = .int .u8 (c : Int) ∧ (a < 256 ∧ b < 256 ∧ c < 256) := by
  match n, h with
  | k + 1, h =>
    unfold DataW.trod at h
    rw [Tryz.underlying24] at h
    have r2 : List.range 3 = [0, 1, 2] := rfl
    have hce : Tryz.prog.cellsOf 5 = 1 := by kernel_rfl
    simp [r2, hce] at h
    obtain ⟨_, h⟩ := h
    match h0 : DataW.trod enc Tryz.prog w base spare held k 5 [c0], h1 : DataW.trod enc Tryz.prog w base spare held k 5 [c1], h2 : DataW.trod enc Tryz.prog w base spare held k 5 [c2] with
    | none, _, _ => simp [h0] at h
    | some y0, none, _ => simp [h0, h1] at h
    | some y0, some y1, none => simp [h0, h1, h2] at h
    | some y0, some y1, some y2 =>
      obtain ⟨a, ha, la⟩ := byte_trod3 h0
      obtain ⟨b, hb, lb⟩ := byte_trod3 h1
      obtain ⟨c, hc, lc⟩ := byte_trod3 h2
      exact ⟨a, b, c, ha, hb, hc, la, lb, lc⟩
theorem open_tri_arg {H : Type} {enc : TypeId × Value → H} {w : World} {base : Nat} {spare : Nat → Bool} {held : Bool} {v : Value} {d : DataW H} {p : List MemPlace} {r : Reach} {b0 : Nat}
    (hv : Value.okWide Tryz.prog w r b0 24 v) (h : DataW.Trod enc Tryz.prog w base spare held 24 v d p) : ∃ a b c : Nat, v = .agg #[.int .u8 (a : Int), .int .u8 (b : Int), .int .u8 (c : Int)] ∧ (a < 256 ∧ b < 256 ∧ c < 256) := by
  simp only [Value.okWide, Tryz.underlying24] at hv
  obtain ⟨cs, rfl, h2, _⟩ := hv
  obtain ⟨c0, c1, c2, c3, rfl⟩ : ∃ c0 c1 c2, cs = #[c0, c1, c2] := by
    obtain ⟨l⟩ := cs
    have h3 : l.length = 3 := (show l.length = _ from by simpa using h2).trans (show Tryz.prog.cellsOf 24 = 3 by kernel_rfl)
    match l, h3 with
    | [x, y, z], _ => exact ⟨x, y, z, rfl⟩
  obtain ⟨fuel, hf⟩ := h
  obtain ⟨a, b, c, e0, e1, e2, l⟩ := open_tri (by simpa [Value.cells] using hf)
  exact ⟨a, b, c, by rw [e0, e1, e2], l⟩
end Hy
end Go.Proofs.YtjijijjkkhpjnaaGreatDoor
end

