/- A region that draws its order, by an invariant: whatever may come up keeps it. No condition. -/
import Derived.Test.YtnppicekfjdefaaGreatDoorPurg2
import Derived.Test.YtnppicekfjdefaaGreatDoorWin
import Derived.RegionTactic
namespace Go.Proofs.YtnppicekfjdefaaGreatDoor
open Go.RowKit

section
variable {P : Program} {ops : Array Oper} {Q : Exit → Act → World → Prop} {md : Region.Mode}

theorem count_step (l : Array Bool) (i n : Nat) (h : l.getD i true = false) (hn : l.toList.count false ≤ n + 1) : (l.setIfInBounds i true).toList.count false ≤ n := by
  obtain ⟨l⟩ := l
  have hi : i < l.length := by
    rcases Nat.lt_or_ge i l.length with h' | h'
    · exact h'
    · simp [Nat.not_lt.2 h'] at h
  have hv : l[i] = false := by simpa [hi] using h
  have hc : (l.set i true).count false = l.count false - (if l[i] == false then 1 else 0) + (if (true == false) then 1 else 0) := List.count_set hi
  simp only [hv] at hc
  have hpos : 0 < l.count false := List.count_pos_iff.2 (hv ▸ List.getElem_mem hi)
  simp at hn hc ⊢
  omega
theorem count_none (l : Array Bool) (h : l.toList.count false ≤ 0) (i : Nat) : l.getD i true = true := by
  obtain ⟨l⟩ := l
  have h0 : false ∉ l := List.count_eq_zero.1 (by simpa using h)
  rcases Nat.lt_or_ge i l.length with hi | hi
  · have hm : l[i] ∈ l := List.getElem_mem hi
    cases hv : l[i] with
    | true => simp [hi, hv]
    | false => rw [hv] at hm; exact absurd hm h0
  · simp [Nat.not_lt.2 hi]

/-- The rule: J a0 is the invariant (a0: the frame at the region's head). -/
theorem wpAny_inv (J : Act → Array Bool → Act → World → Prop) (a0 : Act)
    (hstep : ∀ listed a w i, J a0 listed a w → i ∈ Region.ready md ops listed → wpOp P ops Q i (fun a' w' => J a0 (listed.setIfInBounds i true) a' w') a w)
    (hend : ∀ listed a w, J a0 listed a w → Region.ready md ops listed = [] → Q .normal a w) :
    ∀ (fuel : Nat) (listed : Array Bool) (a : Act) (w : World), listed.toList.count false ≤ fuel → J a0 listed a w → wpAny P md ops Q fuel listed a w
  | 0, listed, a, w, hc, hj => by
    have hr : Region.ready md ops listed = [] := by
      cases hr : Region.ready md ops listed with
      | nil => rfl
      | cons i r =>
        have hm : i ∈ Region.ready md ops listed := by rw [hr]; exact List.mem_cons_self ..
        have h1 := (mem_ready.1 hm).1
        rw [count_none listed hc i] at h1
        cases h1
    exact ⟨hr, hend listed a w hj hr⟩
  | fuel + 1, listed, a, w, hc, hj =>
    ⟨fun hr => hend listed a w hj hr, fun i hi => wpOp_mono (fun a' w' h => wpAny_inv J a0 hstep hend fuel _ a' w' (count_step listed i fuel (mem_ready.1 hi).1 hc) h) (hstep listed a w i hj hi)⟩

/-- The beginning. -/
theorem wp_region_inv {id : Nat} {a : Act} {w : World} (J : Act → Array Bool → Act → World → Prop) (hm : P.follows .mixedOrders = true)
    (h0 : J a (Array.replicate ops.size false) a w.drew)
    (hstep : ∀ listed a' w' i, J a listed a' w' → i ∈ Region.ready .any ops listed → wpOp P ops Q i (fun a2 w2 => J a (listed.setIfInBounds i true) a2 w2) a' w')
    (hend : ∀ listed a' w', J a listed a' w' → Region.ready .any ops listed = [] → Q .normal a' w') : (Code.region id ops true).wp P Q a w :=
  wp_region_any hm (wpAny_inv J a hstep hend ops.size _ a w.drew (by simp) h0)
/-- What may come up has not been done, and what it waits for has. -/
theorem ready_self {listed : Array Bool} {i : Nat} (h : i ∈ Region.ready md ops listed) : listed.getD i true = false := (mem_ready.1 h).1
theorem ready_dep {listed : Array Bool} {i j : Nat} (h : i ∈ Region.ready md ops listed) (hd : ((ops[i]?).map fun o => o.after.any fun e => e.on == j && Region.binds md e) = some true) : listed.getD j false = true := by
  obtain ⟨_, o, ho, hall⟩ := mem_ready.1 h
  rw [ho, Option.map_some, Option.some.injEq, Array.any_eq_true'] at hd
  obtain ⟨e, he, hb⟩ := hd
  rw [Bool.and_eq_true, beq_iff_eq] at hb
  rw [← hb.1]
  exact hall e he hb.2
theorem ready_lt {listed : Array Bool} {i : Nat} (h : i ∈ Region.ready md ops listed) : i < ops.size := by
  obtain ⟨_, o, ho, _⟩ := mem_ready.1 h
  exact (Array.getElem?_eq_some_iff.1 ho).1
/-- Where nothing may come up and what i waits for is done, i is done. -/
theorem ready_none {listed : Array Bool} {i : Nat} (h : Region.ready md ops listed = []) (hd : ((ops[i]?).map fun o => o.after.all fun e => !Region.binds md e || listed.getD e.on false) = some true) : listed.getD i true = true := by
  cases hc : listed.getD i true with
  | true => rfl
  | false =>
    have hm : i ∈ Region.ready md ops listed := by
      unfold Region.ready
      rw [List.mem_filter, List.mem_range]
      refine ⟨?_, by rw [hc, hd]; rfl⟩
      cases ho : ops[i]? with
      | none => rw [ho] at hd; cases hd
      | some o => exact (Array.getElem?_eq_some_iff.1 ho).1
    rw [h] at hm; cases hm
end

namespace A1
/-- A variable of three cells that a statement makes (R, from block B on, of type T): whether it is made, and whether the value v has been stored. -/
def Thr (B R T : Nat) (made done : Bool) (x v : Value) (w : World) : Prop :=
  made = true → x = .pointer (some ⟨R, 0, none⟩) ∧ B ≤ R ∧ ∃ u0 u1 u2, Box3 w R T u0 u1 u2 ∧ (done = true → v = .agg #[u0, u1, u2])
theorem Thr.no {B R T : Nat} {d : Bool} {x v : Value} {w : World} : Thr B R T false d x v w := fun h => by cases h
theorem Thr.touch {B R T R' : Nat} {m d : Bool} {x v : Value} {w w' : World} (h : Thr B R T m d x v w) (ht : Touch (fun k => k = R') w w') (hne : m = true → R ≠ R') : Thr B R T m d x v w' := fun hm => by
  obtain ⟨h1, h2, u0, u1, u2, h3, h4⟩ := h hm
  exact ⟨h1, h2, u0, u1, u2, (ht.block R h3.facts.2.2 (hne hm)).trans h3, h4⟩
theorem Thr.below {B R T : Nat} {m d : Bool} {x v : Value} {w w' : World} (h : Thr B R T m d x v w) (hb : Below w.heap.size w w') : Thr B R T m d x v w' := fun hm => by
  obtain ⟨h1, h2, u0, u1, u2, h3, h4⟩ := h hm
  exact ⟨h1, h2, u0, u1, u2, h3.older hb, h4⟩
theorem Thr.lt {B R T : Nat} {m d : Bool} {x v : Value} {w : World} (h : Thr B R T m d x v w) (hm : m = true) : B ≤ R ∧ R < w.heap.size := by
  obtain ⟨_, h2, u0, u1, u2, h3, _⟩ := h hm
  exact ⟨h2, h3.facts.2.2⟩
/-- Another value may be named as long as nothing is stored. -/
theorem Thr.other {B R T : Nat} {m : Bool} {x v v' : Value} {w : World} (h : Thr B R T m false x v w) : Thr B R T m false x v' w := fun hm => by
  obtain ⟨h1, h2, u0, u1, u2, h3, _⟩ := h hm
  exact ⟨h1, h2, u0, u1, u2, h3, fun h => by cases h⟩
theorem Thr.made {B R T : Nat} {v u0 u1 u2 : Value} {w : World} (hB : B ≤ w.heap.size) (hR : R = w.heap.size) : Thr B R T true false (.pointer (some ⟨w.heap.size, 0, none⟩)) v (w.alloc (.cells #[u0, u1, u2] T)) := fun _ => by
  subst hR
  exact ⟨rfl, hB, u0, u1, u2, box3_new w T _ _ _, fun h => by cases h⟩
theorem box3_set {w : World} {R T : Nat} {u0 u1 u2 : Value} (h : Box3 w R T u0 u1 u2) (a b c : Value) : Box3 (((w.setCell ⟨R, 0, none⟩ a).setCell ⟨R, 1, none⟩ b).setCell ⟨R, 2, none⟩ c) R T a b c := by
  unfold Box3 at h ⊢
  unfold World.setCell
  simp only [Array.getElem?_modify, if_true, h, Option.map_some]
  rfl
theorem touch_set3 (w : World) (R : Nat) (a b c : Value) : Touch (fun k => k = R) w (((w.setCell ⟨R, 0, none⟩ a).setCell ⟨R, 1, none⟩ b).setCell ⟨R, 2, none⟩ c) :=
  (((Touch.refl (fun k => k = R) w).setCell (a := ⟨R, 0, none⟩) rfl a).setCell (a := ⟨R, 1, none⟩) rfl b).setCell (a := ⟨R, 2, none⟩) rfl c
theorem Thr.stored {B R T : Nat} {x v0 v1 v2 v : Value} {w : World} {d : Bool} (h : Thr B R T true d x v w) : Thr B R T true true x (.agg #[v0, v1, v2]) (((w.setCell ⟨R, 0, none⟩ v0).setCell ⟨R, 1, none⟩ v1).setCell ⟨R, 2, none⟩ v2) := fun _ => by
  obtain ⟨h1, h2, u0, u1, u2, h3, _⟩ := h rfl
  exact ⟨h1, h2, _, _, _, box3_set h3 _ _ _, fun _ => rfl⟩
theorem heap_new_set (w : World) (R i : Nat) (a : Value) (o : Obj) : ((w.setCell ⟨R, i, none⟩ a).alloc o).heap[w.heap.size]? = some o := by
  have h := heap_alloc_new (w.setCell ⟨R, i, none⟩ a) o
  simpa using h
theorem touch_set1 (w : World) (R i : Nat) (a : Value) : Touch (fun k => k = R) w (w.setCell ⟨R, i, none⟩ a) := (Touch.refl (fun k => k = R) w).setCell (a := ⟨R, i, none⟩) rfl a
theorem box3_set0 {w : World} {R T : Nat} {u0 u1 u2 : Value} (h : Box3 w R T u0 u1 u2) (a : Value) : Box3 (w.setCell ⟨R, 0, none⟩ a) R T a u1 u2 := by
  unfold Box3 at h ⊢
  unfold World.setCell
  simp only [Array.getElem?_modify, if_true, h, Option.map_some]
  rfl
theorem box3_set1 {w : World} {R T : Nat} {u0 u1 u2 : Value} (h : Box3 w R T u0 u1 u2) (a : Value) : Box3 (w.setCell ⟨R, 1, none⟩ a) R T u0 a u2 := by
  unfold Box3 at h ⊢
  unfold World.setCell
  simp only [Array.getElem?_modify, if_true, h, Option.map_some]
  rfl
theorem box3_set2 {w : World} {R T : Nat} {u0 u1 u2 : Value} (h : Box3 w R T u0 u1 u2) (a : Value) : Box3 (w.setCell ⟨R, 2, none⟩ a) R T u0 u1 a := by
  unfold Box3 at h ⊢
  unfold World.setCell
  simp only [Array.getElem?_modify, if_true, h, Option.map_some]
  rfl
theorem box3_touch {w w' : World} {R R' T : Nat} {u0 u1 u2 : Value} (h : Box3 w R T u0 u1 u2) (ht : Touch (fun k => k = R') w w') (hne : R ≠ R') : Box3 w' R T u0 u1 u2 := (ht.block R h.facts.2.2 hne).trans h
/-- Two blocks of other element types are two. -/
theorem box_ne {w : World} {R R' T T' : Nat} {a b c a' b' c' : Value} (h : Box3 w R T a b c) (h' : Box3 w R' T' a' b' c') (hne : T ≠ T') : R ≠ R' := fun e => by
  subst e
  have := Option.some.inj (h.symm.trans h')
  injection this with _ e2
  exact hne e2
theorem own_ne {w : World} {R T B n : Nat} {a b c v : Value} {xs : List Value} (h : Box3 w R T a b c) (ho : OwnWin w B 9 1 v n xs) (hne : T ≠ 9) : ∀ q, v.ownBlock = some q → ¬ q = R := fun q hq e => by
  subst e
  rcases ho.2 with ⟨rfl, _⟩ | ⟨g, o, cap, cur, rfl, _, hg, _⟩
  · cases hq
  · simp [Value.ownBlock] at hq
    subst hq
    have := Option.some.inj (h.symm.trans hg)
    injection this with _ e2
    exact hne e2
theorem thr_ne {w : World} {B R R' T T' : Nat} {m m' d d' : Bool} {x x' v v' : Value} (h : Thr B R T m d x v w) (h' : Thr B R' T' m' d' x' v' w) (hne : T ≠ T') (hm : m = true) (hm' : m' = true) : R ≠ R' := by
  obtain ⟨_, _, _, _, _, h1, _⟩ := h hm
  obtain ⟨_, _, _, _, _, h2, _⟩ := h' hm'
  exact box_ne h1 h2 hne
theorem eqF {ops : Array Oper} {l : Array Bool} {i : Nat} {b : Bool} (hr : i ∈ Region.ready .any ops l) (hb : l.getD i true = b) : b = false := by rw [← hb]; exact ready_self hr
theorem eqT {ops : Array Oper} {l : Array Bool} {i j : Nat} {b : Bool} (hr : i ∈ Region.ready .any ops l) (hb : l.getD j false = b) (hd : ((ops[i]?).map fun o => o.after.any fun e => e.on == j && Region.binds .any e) = some true) : b = true := by rw [← hb]; exact ready_dep hr hd
theorem eqE {ops : Array Oper} {l : Array Bool} {i : Nat} {b : Bool} (hr : Region.ready .any ops l = []) (hb : l.getD i true = b) (hd : ((ops[i]?).map fun o => o.after.all fun e => !Region.binds .any e || l.getD e.on false) = some true) : b = true := by rw [← hb]; exact ready_none hr hd
end A1
end Go.Proofs.YtnppicekfjdefaaGreatDoor
