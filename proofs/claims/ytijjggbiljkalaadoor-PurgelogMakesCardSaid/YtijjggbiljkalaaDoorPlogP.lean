/- Plain Lean: the log of purges, and that the reference's and the program's ways agree. No condition. -/
import Derived.Test.YtijjggbiljkalaaDoorPurgP
namespace Go.Proofs.YtijjggbiljkalaaDoor.Ad
open Pl

/-- A log: its window, all purges that were accepted, how many of them are dropped. -/
structure LogM where
  win : Nat
  all : List Pg
  dropped : Nat
namespace LogM
def kept (L : LogM) : List Pg := L.all.drop L.dropped
structure Ok (L : LogM) : Prop where
  win1 : 1 ≤ L.win
  win2 : L.win ≤ 1024
  drop : L.dropped ≤ L.all.length
  room : L.all.length - L.dropped ≤ L.win
  size : ∀ p ∈ L.all, p.value.length ≤ 134217728
  good : ∀ p ∈ L.all, checkN p = 0
def start (n : Nat) : LogM := ⟨n, [], 0⟩
def push (L : LogM) (p : Pg) : LogM := ⟨L.win, L.all ++ [p], max L.dropped (L.all.length + 1 - L.win)⟩
def app (L : LogM) (p : Pg) : LogM := if checkN p = 0 then L.push p else L
def appN (L : LogM) (p : Pg) : Int := if checkN p = 0 then (L.all.length + 1 : Nat) else 0
def cut (L : LogM) (n : Int) : LogM := ⟨L.win, L.all, max L.dropped (min n (L.all.length : Int)).toNat⟩
def getC (L : LogM) (n : Int) : Int := if n < 1 ∨ (L.all.length : Int) < n then 3 else if n ≤ L.dropped then 15 else 0
def sinceC (L : LogM) (n : Int) : Int := if n < 0 then 1 else if (L.all.length : Int) ≤ n then 0 else if n < L.dropped then 15 else 0
def since (L : LogM) (n : Int) : List Pg := if n < 0 ∨ (L.all.length : Int) ≤ n ∨ n < L.dropped then [] else L.all.drop n.toNat
/-- The place of the first purge of a list that matches an item. -/
def hit (x : It) : List Pg → Option Nat
  | [] => none
  | p :: r => if matchB p x then some 0 else (hit x r).map (· + 1)
def covN (L : LogM) (x : It) (n : Int) : Int := match hit x (L.since n) with
  | some k => n + 1 + k
  | none => 0
def covB (L : LogM) (x : It) (n : Int) : Bool := (hit x (L.since n)).isSome

theorem hit_at {x : It} {l : List Pg} {k : Nat} (hk : k < l.length) (h : hit x l = (hit x (l.drop k)).map (· + k)) (hm : matchB l[k] x = true) : hit x l = some k := by
  rw [h, drop_cons hk, hit, if_pos hm]
  simp
theorem hit_next {x : It} {l : List Pg} {k : Nat} (hk : k < l.length) (h : hit x l = (hit x (l.drop k)).map (· + k)) (hm : matchB l[k] x = false) : hit x l = (hit x (l.drop (k + 1))).map (· + (k + 1)) := by
  rw [h, drop_cons hk, hit, if_neg (by rw [hm]; decide), Option.map_map]
  congr 1
  funext n
  simp; omega
theorem hit_start (x : It) (l : List Pg) : hit x l = (hit x (l.drop 0)).map (· + 0) := by simp
theorem hit_end {x : It} {l : List Pg} {k : Nat} (hk : l.length ≤ k) (h : hit x l = (hit x (l.drop k)).map (· + k)) : hit x l = none := by
  rw [h, List.drop_of_length_le hk]
  rfl
theorem kept_len (L : LogM) : L.kept.length = L.all.length - L.dropped := by simp [kept]
theorem ok_start {n : Nat} (h1 : 1 ≤ n) (h2 : n ≤ 1024) : (start n).Ok := ⟨h1, h2, Nat.le_refl _, by simp [start], (fun p hp => by simp [start] at hp), (fun p hp => by simp [start] at hp)⟩
theorem ok_push {L : LogM} (h : L.Ok) {p : Pg} (hc : checkN p = 0) (hp : p.value.length ≤ 134217728) : (L.push p).Ok := by
  obtain ⟨h1, h2, h3, h4, h5, h6⟩ := h
  refine ⟨h1, h2, ?_, ?_, fun q hq => ?_, fun q hq => ?_⟩
  · show max L.dropped (L.all.length + 1 - L.win) ≤ (L.all ++ [p]).length
    simp; omega
  · show (L.all ++ [p]).length - max L.dropped (L.all.length + 1 - L.win) ≤ L.win
    simp; omega
  · rcases List.mem_append.1 hq with hq | hq
    · exact h5 q hq
    · rw [List.mem_singleton.1 hq]; exact hp
  · rcases List.mem_append.1 hq with hq | hq
    · exact h6 q hq
    · rw [List.mem_singleton.1 hq]; exact hc
theorem ok_app {L : LogM} (h : L.Ok) {p : Pg} (hp : p.value.length ≤ 134217728) : (L.app p).Ok := by
  unfold app
  by_cases hc : checkN p = 0
  · rw [if_pos hc]; exact ok_push h hc hp
  · rw [if_neg hc]; exact h
theorem ok_cut {L : LogM} (h : L.Ok) (n : Int) : (L.cut n).Ok := by
  obtain ⟨h1, h2, h3, h4, h5, h6⟩ := h
  refine ⟨h1, h2, ?_, ?_, h5, h6⟩
  · show max L.dropped (min n (L.all.length : Int)).toNat ≤ L.all.length
    omega
  · show L.all.length - max L.dropped (min n (L.all.length : Int)).toNat ≤ L.win
    omega
/-- The program's way of pushing: where the window is full the first entry goes. -/
theorem push_room {L : LogM} (h : L.Ok) (p : Pg) (hr : L.kept.length + 1 ≤ L.win) : (L.push p).dropped = L.dropped ∧ (L.push p).kept = L.kept ++ [p] := by
  rw [kept_len] at hr
  have h3 := h.drop
  have hd : (L.push p).dropped = L.dropped := by show max L.dropped (L.all.length + 1 - L.win) = _; omega
  refine ⟨hd, ?_⟩
  unfold kept
  rw [hd]
  show (L.all ++ [p]).drop L.dropped = _
  rw [List.drop_append_of_le_length h3]
theorem push_full {L : LogM} (h : L.Ok) (p : Pg) (hr : ¬ L.kept.length + 1 ≤ L.win) : (L.push p).dropped = L.dropped + 1 ∧ (L.push p).kept = (L.kept ++ [p]).drop 1 := by
  rw [kept_len] at hr
  have h3 := h.drop
  have h4 := h.room
  have hd : (L.push p).dropped = L.dropped + 1 := by show max L.dropped (L.all.length + 1 - L.win) = _; omega
  refine ⟨hd, ?_⟩
  unfold kept
  rw [hd]
  show (L.all ++ [p]).drop (L.dropped + 1) = _
  rw [← List.drop_append_of_le_length h3, List.drop_drop]
end LogM

/-- An act of the laws: a Shrink or an Append. -/
structure LAct where
  sh : Bool
  n : Int
  p : Pg
/-- The cells of an act. -/
def actC (a : LAct) : List Value := [.bool a.sh, .int .i64 a.n, .int .i64 a.p.kind, .int .i64 a.p.tenant, .string ⟨a.p.value.toArray⟩]
def fitsA (l : List LAct) : Bool := l.all (fun a => decide (a.p.value.length ≤ 1200)) && decide (l.length ≤ 60)
theorem fitsA_bad {l : List LAct} {a : LAct} (hm : a ∈ l) (h : ¬ a.p.value.length ≤ 1200) : fitsA l = false := by
  unfold fitsA
  rw [Bool.and_eq_false_iff]
  refine .inl ?_
  rw [Bool.eq_false_iff]
  intro h2
  exact h (by simpa using List.all_eq_true.1 h2 a hm)
theorem fitsA_good {l : List LAct} (h : ∀ a ∈ l, a.p.value.length ≤ 1200) : fitsA l = decide (l.length ≤ 60) := by
  unfold fitsA
  rw [show l.all (fun a => decide (a.p.value.length ≤ 1200)) = true from List.all_eq_true.2 fun x hx => decide_eq_true (h x hx)]
  rfl
theorem fitsA_true {l : List LAct} (h : fitsA l = true) : (∀ a ∈ l, a.p.value.length ≤ 1200) ∧ l.length ≤ 60 := by
  unfold fitsA at h
  rw [Bool.and_eq_true, decide_eq_true_eq] at h
  exact ⟨fun x hx => by simpa using List.all_eq_true.1 h.1 x hx, h.2⟩
namespace LogM
def act (L : LogM) (a : LAct) : LogM := if a.sh then L.cut a.n else L.app a.p
def play (L : LogM) (l : List LAct) : LogM := l.foldl act L
theorem play_snoc (L : LogM) {l : List LAct} {k : Nat} (hk : k < l.length) : L.play (l.take (k + 1)) = (L.play (l.take k)).act l[k] := by
  unfold play
  rw [List.take_succ_eq_append_getElem hk, List.foldl_append]
  rfl
theorem act_win (L : LogM) (a : LAct) : (L.act a).win = L.win := by
  unfold act
  split
  · rfl
  · unfold app
    split <;> rfl
theorem act_ok {L : LogM} (h : L.Ok) {a : LAct} (ha : a.p.value.length ≤ 134217728) : (L.act a).Ok := by
  unfold act
  split
  · exact ok_cut h _
  · exact ok_app h ha
theorem act_len (L : LogM) (a : LAct) : (L.act a).all.length ≤ L.all.length + 1 := by
  unfold act
  split
  · exact Nat.le_succ _
  · unfold app
    split
    · simp [push]
    · exact Nat.le_succ _
end LogM

/-- The cells of a list of purges. -/
def pcells (p : Pg) : List Value := [.int .i64 p.kind, .int .i64 p.tenant, .string ⟨p.value.toArray⟩]
def pvals : List Pg → List Value
  | [] => []
  | p :: r => pcells p ++ pvals r
theorem pvals_len : ∀ l : List Pg, (pvals l).length = l.length * 3
  | [] => rfl
  | p :: r => by simp [pvals, pcells, pvals_len r]; omega
theorem pvals_append : ∀ a b : List Pg, pvals (a ++ b) = pvals a ++ pvals b
  | [], _ => rfl
  | p :: r, b => by simp [pvals, pvals_append r b]
theorem pvals_one (p : Pg) : pvals [p] = pcells p := by simp [pvals]
theorem pvals_drop : ∀ (l : List Pg) (k : Nat), (pvals l).drop (k * 3) = pvals (l.drop k)
  | [], k => by simp [pvals]
  | p :: r, 0 => by simp
  | p :: r, k + 1 => by
    rw [List.drop_succ_cons, ← pvals_drop r k, pvals, show (k + 1) * 3 = 3 + k * 3 by omega, ← List.drop_drop]
    rfl
theorem pvals_oneCell (l : List Pg) : ∀ u ∈ pvals l, u.oneCell' = true := by
  induction l with
  | nil => intro u hu; cases hu
  | cons p r ih =>
    intro u hu
    rcases List.mem_append.1 hu with hu | hu
    · simp [pcells] at hu
      rcases hu with rfl | rfl | rfl <;> rfl
    · exact ih u hu
/-- The three cells of the k-th purge. -/
theorem pvals_get {l : List Pg} {k : Nat} (hk : k < l.length) : (pvals l)[k * 3]? = some (.int .i64 l[k].kind) ∧ (pvals l)[k * 3 + 1]? = some (.int .i64 l[k].tenant) ∧ (pvals l)[k * 3 + 2]? = some (.string ⟨l[k].value.toArray⟩) := by
  have h := pvals_drop l k
  have hd : l.drop k = l[k] :: l.drop (k + 1) := drop_cons hk
  rw [hd, pvals] at h
  have g : ∀ j : Nat, ((pvals l).drop (k * 3))[j]? = (pcells l[k] ++ pvals (l.drop (k + 1)))[j]? := fun j => by rw [h]
  refine ⟨?_, ?_, ?_⟩
  · have := g 0; rw [List.getElem?_drop] at this; simpa [pcells] using this
  · have := g 1; rw [List.getElem?_drop] at this; simpa [pcells] using this
  · have := g 2; rw [List.getElem?_drop] at this; simpa [pcells] using this
end Go.Proofs.YtijjggbiljkalaaDoor.Ad
