/- Plain Lean: a node's gate, and that the reference's and the program's ways agree. No condition. -/
import Derived.Test.YtnppicekfjdefaaGreatDoorPurgP
namespace Go.Proofs.YtnppicekfjdefaaGreatDoor.Ad
open Pl

/-- A gate: the kept purges have the numbers floor + 1 to applied; aside is ascending. -/
structure GateM where
  win : Nat
  applied : Int
  floor : Int
  kept : List Pg
  aside : List (Int × Pg)
namespace GateM
def start (n : Nat) : GateM := ⟨n, 0, 0, [], []⟩
/-- The entry applied + 1 comes. -/
def push (g : GateM) (p : Pg) : GateM :=
  if g.win < g.kept.length + 1 then ⟨g.win, g.applied + 1, g.floor + 1, (g.kept ++ [p]).drop 1, g.aside⟩ else ⟨g.win, g.applied + 1, g.floor, g.kept ++ [p], g.aside⟩
def withA (g : GateM) (l : List (Int × Pg)) : GateM := ⟨g.win, g.applied, g.floor, g.kept, l⟩
/-- The entries aside that come next are applied, those that are applied are dropped. -/
def follow (g : GateM) : List (Int × Pg) → GateM
  | [] => g.withA []
  | (n, p) :: r => if n ≤ g.applied then follow g r else if n = g.applied + 1 then follow (g.push p) r else g.withA ((n, p) :: r)
def keep (g : GateM) (p : Pg) : GateM := (g.push p).follow g.aside
/-- An entry is put aside. -/
def ins (n : Int) (p : Pg) : List (Int × Pg) → List (Int × Pg)
  | [] => [(n, p)]
  | (k, q) :: r => if k < n then (k, q) :: ins n p r else (n, p) :: (k, q) :: r
def hasK (n : Int) (l : List (Int × Pg)) : Bool := l.any fun e => e.1 == n
def put (g : GateM) (n : Int) (p : Pg) : GateM := if hasK n g.aside then g else g.withA ((ins n p g.aside).take g.win)
/-- One entry of an Apply (n its number). -/
def one (g : GateM) (n : Int) (p : Pg) : GateM := if n ≤ g.applied then g else if n = g.applied + 1 then g.keep p else g.put n p
def apply (g : GateM) (n : Int) : List Pg → GateM
  | [] => g
  | p :: r => if checkN p = 0 ∧ n ≤ 1099511627776 then (g.one n p).apply (n + 1) r else g
def jump (g : GateM) (n : Int) : GateM := if n ≤ g.applied ∨ 1099511627776 < n then g else GateM.follow ⟨g.win, n, n, [], []⟩ g.aside
def missTo (g : GateM) : Int := match g.aside with
  | [] => g.applied
  | e :: _ => e.1 - 1
def acceptC (g : GateM) (x : It) (n : Int) : Int := if n < 0 ∨ g.applied < n then 1 else if n < g.floor then 18 else if (g.kept.drop (n - g.floor).toNat).any (fun p => matchB p x) then 18 else 0
def recentC (g : GateM) (n : Int) : Int := if n < 0 then 1 else if g.applied ≤ n then 0 else if n < g.floor then 15 else 0
def recent (g : GateM) (n : Int) : List Pg := if n < 0 ∨ g.applied ≤ n ∨ n < g.floor then [] else g.kept.drop (n - g.floor).toNat

def Asc (l : List (Int × Pg)) : Prop := l.Pairwise (fun a b => a.1 < b.1)
/-- Settled: what is aside is not next. -/
structure Ok (g : GateM) : Prop where
  win1 : 1 ≤ g.win
  win2 : g.win ≤ 1024
  lo : 0 ≤ g.floor
  hi : g.applied ≤ 1099511627776
  len : (g.kept.length : Int) = g.applied - g.floor
  room : g.kept.length ≤ g.win
  asc : Asc g.aside
  far : ∀ e ∈ g.aside, g.applied + 1 < e.1 ∧ e.1 ≤ 1099511627776
  few : g.aside.length ≤ g.win
  size : ∀ p ∈ g.kept, p.value.length ≤ 134217728
  sizeA : ∀ e ∈ g.aside, e.2.value.length ≤ 134217728

/-- The same, but what is aside may be next, or be there already. -/
structure Near (g : GateM) (l : List (Int × Pg)) : Prop where
  win1 : 1 ≤ g.win
  win2 : g.win ≤ 1024
  lo : 0 ≤ g.floor
  hi : g.applied ≤ 1099511627776
  len : (g.kept.length : Int) = g.applied - g.floor
  room : g.kept.length ≤ g.win
  asc : Asc l
  hiA : ∀ e ∈ l, e.1 ≤ 1099511627776
  few : l.length ≤ g.win
  size : ∀ p ∈ g.kept, p.value.length ≤ 134217728
  sizeA : ∀ e ∈ l, e.2.value.length ≤ 134217728
theorem Ok.near {g : GateM} (h : g.Ok) : Near g g.aside := ⟨h.win1, h.win2, h.lo, h.hi, h.len, h.room, h.asc, fun e he => (h.far e he).2, h.few, h.size, h.sizeA⟩
theorem push_win (g : GateM) (p : Pg) : (g.push p).win = g.win ∧ (g.push p).applied = g.applied + 1 ∧ (g.push p).aside = g.aside := by
  unfold push
  split <;> exact ⟨rfl, rfl, rfl⟩
theorem Near.push {g : GateM} {l : List (Int × Pg)} (h : Near g l) {p : Pg} (hp : p.value.length ≤ 134217728) (ha : g.applied + 1 ≤ 1099511627776) : Near (g.push p) l := by
  obtain ⟨h1, h2, h3, h4, h5, h6, h7, h8, h9, h10, h11⟩ := h
  have hs : ∀ q ∈ g.kept ++ [p], q.value.length ≤ 134217728 := fun q hq => by
    rcases List.mem_append.1 hq with hq | hq
    · exact h10 q hq
    · rw [List.mem_singleton.1 hq]; exact hp
  unfold GateM.push
  split
  · exact ⟨h1, h2, by show 0 ≤ g.floor + 1; omega, ha, by simp; omega, by simp; omega, h7, h8, h9, fun q hq => hs q (List.mem_of_mem_drop hq), h11⟩
  · exact ⟨h1, h2, h3, ha, by simp; omega, by simp; omega, h7, h8, h9, hs, h11⟩
theorem Near.tail {g : GateM} {e : Int × Pg} {l : List (Int × Pg)} (h : Near g (e :: l)) : Near g l := by
  obtain ⟨h1, h2, h3, h4, h5, h6, h7, h8, h9, h10, h11⟩ := h
  exact ⟨h1, h2, h3, h4, h5, h6, (List.pairwise_cons.1 h7).2, fun x hx => h8 x (List.mem_cons_of_mem _ hx), by simp at h9; omega, h10, fun x hx => h11 x (List.mem_cons_of_mem _ hx)⟩
theorem follow_ok : ∀ (l : List (Int × Pg)) (g : GateM), Near g l → (g.follow l).Ok ∧ (g.follow l).win = g.win ∧ g.applied ≤ (g.follow l).applied ∧ g.floor ≤ (g.follow l).floor
  | [], g, h => ⟨⟨h.win1, h.win2, h.lo, h.hi, h.len, h.room, List.Pairwise.nil, (fun e he => by cases he), by simp [follow, withA], h.size, (fun e he => by cases he)⟩, rfl, Int.le_refl _, Int.le_refl _⟩
  | (n, p) :: r, g, h => by
    unfold follow
    split
    · exact follow_ok r g h.tail
    · split
      · rename_i h1 h2
        have hn := h.hiA (n, p) (by simp)
        have hs := h.sizeA (n, p) (by simp)
        have hp := push_win g p
        obtain ⟨i1, i2, i3, i4⟩ := follow_ok r (g.push p) (h.tail.push hs (by simp only at hn; omega))
        refine ⟨i1, i2.trans hp.1, by omega, ?_⟩
        have : g.floor ≤ (g.push p).floor := by unfold GateM.push; split <;> simp only <;> omega
        omega
      · rename_i h1 h2
        have ha := List.pairwise_cons.1 h.asc
        exact ⟨⟨h.win1, h.win2, h.lo, h.hi, h.len, h.room, h.asc, fun e he => ⟨by
          rcases List.mem_cons.1 he with rfl | he
          · simp only [withA]; omega
          · have := ha.1 e he; simp only [withA] at this ⊢; omega, h.hiA e he⟩, h.few, h.size, h.sizeA⟩, rfl, Int.le_refl _, Int.le_refl _⟩
theorem ok_start {n : Nat} (h1 : 1 ≤ n) (h2 : n ≤ 1024) : (start n).Ok := ⟨h1, h2, Int.le_refl _, by simp [start], by simp [start], by simp [start], List.Pairwise.nil, (fun e he => by cases he), by simp [start], (fun e he => by cases he), (fun e he => by cases he)⟩
theorem ok_keep {g : GateM} (h : g.Ok) {p : Pg} (hp : p.value.length ≤ 134217728) (ha : g.applied + 1 ≤ 1099511627776) : (g.keep p).Ok := (follow_ok _ _ (h.near.push hp ha)).1
theorem mem_ins {n : Int} {p : Pg} {e : Int × Pg} : ∀ {l : List (Int × Pg)}, e ∈ ins n p l → e = (n, p) ∨ e ∈ l
  | [], h => by simp [ins] at h; exact .inl h
  | (k, q) :: r, h => by
    unfold ins at h
    split at h
    · rcases List.mem_cons.1 h with h | h
      · exact .inr (by simp [h])
      · rcases mem_ins h with h | h
        · exact .inl h
        · exact .inr (List.mem_cons_of_mem _ h)
    · rcases List.mem_cons.1 h with h | h
      · exact .inl h
      · exact .inr h
theorem asc_ins {n : Int} {p : Pg} : ∀ {l : List (Int × Pg)}, Asc l → hasK n l = false → Asc (ins n p l)
  | [], _, _ => by simp [ins, Asc]
  | (k, q) :: r, h, hn => by
    have hc := List.pairwise_cons.1 h
    simp only [hasK, List.any_cons, Bool.or_eq_false_iff, beq_eq_false_iff_ne] at hn
    unfold ins
    split
    · rename_i hk
      refine List.pairwise_cons.2 ⟨fun e he => ?_, asc_ins hc.2 hn.2⟩
      rcases mem_ins he with rfl | he
      · exact hk
      · exact hc.1 e he
    · rename_i hk
      refine List.pairwise_cons.2 ⟨fun e he => ?_, h⟩
      rcases List.mem_cons.1 he with rfl | he
      · simp only; omega
      · have := hc.1 e he; simp only at this ⊢; omega
theorem ok_put {g : GateM} (h : g.Ok) {n : Int} {p : Pg} (hp : p.value.length ≤ 134217728) (h1 : g.applied + 1 < n) (h2 : n ≤ 1099511627776) : (g.put n p).Ok := by
  unfold put
  split
  · exact h
  · rename_i hk
    have hm : ∀ e ∈ (ins n p g.aside).take g.win, e = (n, p) ∨ e ∈ g.aside := fun e he => mem_ins (List.mem_of_mem_take he)
    refine ⟨h.win1, h.win2, h.lo, h.hi, h.len, h.room, (asc_ins h.asc (by simpa using hk)).sublist (List.take_sublist _ _), fun e he => ?_, List.length_take_le _ _, h.size, fun e he => ?_⟩
    · rcases hm e he with rfl | he
      · exact ⟨h1, h2⟩
      · exact h.far e he
    · rcases hm e he with rfl | he
      · exact hp
      · exact h.sizeA e he
theorem ok_one {g : GateM} (h : g.Ok) {n : Int} {p : Pg} (hp : p.value.length ≤ 134217728) (h2 : n ≤ 1099511627776) : (g.one n p).Ok := by
  unfold one
  split
  · exact h
  · split
    · exact ok_keep h hp (by omega)
    · exact ok_put h hp (by omega) h2
theorem ok_apply : ∀ {l : List Pg} {g : GateM} {n : Int}, g.Ok → (∀ p ∈ l, p.value.length ≤ 134217728) → (g.apply n l).Ok
  | [], _, _, h, _ => h
  | p :: r, g, n, h, hl => by
    unfold apply
    split
    · rename_i hc
      exact ok_apply (ok_one h (hl p (by simp)) hc.2) (fun q hq => hl q (by simp [hq]))
    · exact h
theorem ok_jump {g : GateM} (h : g.Ok) (n : Int) : (g.jump n).Ok := by
  unfold jump
  split
  · exact h
  · rename_i hn
    have := h.len
    have := h.lo
    exact (follow_ok _ ⟨g.win, n, n, [], []⟩ ⟨h.win1, h.win2, by show 0 ≤ n; omega, by show n ≤ 1099511627776; omega, by simp, by simp, h.asc, (fun e he => (h.far e he).2), h.few, (fun e he => by cases he), h.sizeA⟩).1
end GateM
end Go.Proofs.YtnppicekfjdefaaGreatDoor.Ad
