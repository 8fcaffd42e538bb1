/- Contracts and plain facts that the statement's proof leans on (texts joined). No condition beyond those that each names. -/
import Derived.Laws.MakeOwn
import Derived.Laws.CopyOwn
import Derived.Test.YtpkhbhdidkkebaaGreatDoorPvA
import Derived.Test.YtpkhbhdidkkebaaGreatDoorPvK
import Derived.Test.YtpkhbhdidkkebaaGreatDoorPvS
import Derived.Test.YtpkhbhdidkkebaaGreatDoorPvT
section
namespace Go.Proofs.YtpkhbhdidkkebaaGreatDoor
open Pl
namespace Ad
abbrev KL := List (Int × KeyM)
/-- A tenant's keys in the reference's list. -/
def per (ml : KL) (t : Int) : List KeyM := (ml.filter fun e => e.1 == t).map (·.2)
def cntK (ml : KL) (t : Int) (i : Nat) : Nat := (per (ml.take i) t).length
theorem per_snoc (ml : KL) (t s : Int) (k : KeyM) : per (ml ++ [(t, k)]) s = if s = t then per ml s ++ [k] else per ml s := by
 unfold per
 rw [List.filter_append, List.map_append]
 by_cases e : s = t
 ·subst e; simp
 ·have : (t == s) = false := by simpa using fun h : t = s => e h.symm
  simp [this, e]
theorem per_split {ml : KL} {i : Nat} {t : Int} {k : KeyM} (h : ml[i]? = some (t, k)) : per ml t = per (ml.take i) t ++ k :: per (ml.drop (i + 1)) t := by
 have e : ml = ml.take i ++ (t, k) :: ml.drop (i + 1) := by
  obtain ⟨hi, hx⟩ := List.getElem?_eq_some_iff.1 h
  rw [← hx, ← drop_cons hi, List.take_append_drop]
 conv => lhs; rw [e]
 unfold per
 rw [List.filter_append, List.map_append, List.filter_cons]
 simp
/-- The reference's find. -/
def findR (ml : KL) (t : Int) (id : Bs) : Option Nat := ml.findIdx? fun e => e.1 == t && e.2.id == id
theorem findR_none {ml : KL} {t : Int} {id : Bs} (h : findR ml t id = none) : hasId (per ml t) id = false := by
 unfold findR at h
 rw [List.findIdx?_eq_none_iff] at h
 unfold hasId per
 rw [List.any_eq_false]
 intro k hk
 obtain ⟨e, he, rfl⟩ := List.mem_map.1 hk
 have h1 := List.mem_filter.1 he
 have h2 := h e h1.1
 rw [h1.2, Bool.true_and] at h2
 simpa using h2
theorem findR_some {ml : KL} {t : Int} {id : Bs} {i : Nat} (h : findR ml t id = some i) : ∃ k, ml[i]? = some (t, k) ∧ hasId (per ml t) id = true ∧ ((per ml t).findIdx fun k => k.id == id) = cntK ml t i ∧ (per ml t).find? (fun k => k.id == id) = some k := by
 unfold findR at h
 rw [List.findIdx?_eq_some_iff_getElem] at h
 obtain ⟨hi, hp, hb⟩ := h
 rw [Bool.and_eq_true, beq_iff_eq, beq_iff_eq] at hp
 obtain ⟨k, hk⟩ : ∃ k, ml[i] = (t, k) := ⟨ml[i].2, by rw [← hp.1]⟩
 have hmi : ml[i]? = some (t, k) := by rw [List.getElem?_eq_getElem hi, hk]
 have hid : k.id = id := by have := hp.2; rw [hk] at this; exact this
 have hpre : ∀ x ∈ per (ml.take i) t, (x.id == id) = false := by
  intro x hx
  unfold per at hx
  obtain ⟨e, he, rfl⟩ := List.mem_map.1 hx
  have h1 := List.mem_filter.1 he
  obtain ⟨j, hj, rfl⟩ := List.getElem_of_mem h1.1
  rw [List.getElem_take] at h1 ⊢
  have hji : j < i := by rw [List.length_take] at hj; omega
  have h2 := hb j hji
  rw [h1.2, Bool.true_and] at h2
  simpa using h2
 refine ⟨k, hmi, ?_, ?_, ?_⟩
 ·rw [per_split hmi]; unfold hasId; simp [hid]
 ·rw [per_split hmi, List.findIdx_append, if_neg]
  ·rw [List.findIdx_cons, hid]
   simp [cntK]
  ·rw [List.findIdx_lt_length]
   rintro ⟨x, hx, hxi⟩
   rw [hpre x hx] at hxi; cases hxi
 ·rw [per_split hmi, List.find?_append]
  have : (per (ml.take i) t).find? (fun k => k.id == id) = none := by
   rw [List.find?_eq_none]
   intro x hx
   rw [hpre x hx]; simp
  rw [this, List.find?_cons, hid]
  simp
/-- What the reference's calls make of the list. -/
def addR (ml : KL) (t : Int) (k : KeyM) : KL := if addC t (per ml t) k = 0 then ml ++ [(t, newK k)] else ml
theorem addR_per (ml : KL) (t : Int) (k : KeyM) (s : Int) : per (addR ml t k) s = if s = t then addL t (per ml t) k else per ml s := by
 unfold addR addL
 by_cases h : addC t (per ml t) k = 0
 ·rw [if_pos h, if_pos h, per_snoc]
  by_cases e : s = t
  ·rw [if_pos e, if_pos e, e]
  ·rw [if_neg e, if_neg e]
 ·rw [if_neg h, if_neg h]
  by_cases e : s = t
  ·rw [if_pos e, e]
  ·rw [if_neg e]
end Ad
end Go.Proofs.YtpkhbhdidkkebaaGreatDoor
end

section
namespace Go.Proofs.YtpkhbhdidkkebaaGreatDoor
open Go.RowKit Pl Ad
attribute [local go_sem] ba_get ba_append ba_extract_end ba_extract_zero ba_extract
set_option maxRecDepth 100000
set_option maxHeartbeats 4000000
set_option linter.unusedVariables false
set_option linter.unusedSimpArgs false
namespace Kr
theorem flatK_get {α : Type} {F : α → List Value} {k : Nat} (hF : ∀ x, (F x).length = k) (hk : 0 < k) : ∀ (xs : List α) (j : Nat), (xs.flatMap F)[j]? = (xs[j / k]?).bind fun x => (F x)[j % k]?
  | [], j => by simp
  | x :: r, j => by
    rw [List.flatMap_cons]
    by_cases h : j < k
    ·rw [List.getElem?_append_left (by rw [hF]; exact h), Nat.div_eq_of_lt h, Nat.mod_eq_of_lt h]; rfl
    ·obtain ⟨m, rfl⟩ : ∃ m, j = m + k := ⟨j - k, by omega⟩
     rw [List.getElem?_append_right (by rw [hF]; omega), hF, Nat.add_sub_cancel, flatK_get hF hk r m, Nat.add_div_right m hk, Nat.add_mod_right]
     rfl
theorem flatK_at {α : Type} {F : α → List Value} {k : Nat} (hF : ∀ x, (F x).length = k) {xs : List α} {i j : Nat} {x : α} {u : Value} (hx : xs[i]? = some x) (hu : (F x)[j]? = some u) : (xs.flatMap F)[i * k + j]? = some u := by
 have hj : j < k := by rw [← hF x]; exact (List.getElem?_eq_some_iff.1 hu).1
 rw [flatK_get hF (by omega), show i * k + j = j + k * i by rw [Nat.mul_comm]; omega, Nat.add_mul_div_left _ _ (by omega), Nat.div_eq_of_lt hj, Nat.add_mul_mod_self_left, Nat.mod_eq_of_lt hj, Nat.zero_add, hx]
 exact hu
theorem flatK_len {α : Type} {F : α → List Value} {k : Nat} (hF : ∀ x, (F x).length = k) : ∀ xs : List α, (xs.flatMap F).length = xs.length * k
  | [] => by simp
  | x :: r => by rw [List.flatMap_cons, List.length_append, hF, flatK_len hF r, List.length_cons, Nat.add_mul]; omega
def kcells (e : Int × KeyM) : List Value := [.int .i64 e.1, .string ⟨e.2.id.toArray⟩, .string ⟨e.2.sec.toArray⟩, .int .i64 e.2.frm, .int .i64 e.2.til, .int .i64 e.2.rev]
theorem kcells_len (e : Int × KeyM) : (kcells e).length = 6 := rfl
def kvals (ml : KL) : List Value := ml.flatMap kcells
theorem kvals_len (ml : KL) : (kvals ml).length = ml.length * 6 := flatK_len kcells_len ml
theorem kvals_one (ml : KL) : ∀ u ∈ kvals ml, u.oneCell' = true := by
 intro u hu
 obtain ⟨e, _, h⟩ := List.mem_flatMap.1 hu
 simp only [kcells, List.mem_cons, List.not_mem_nil, or_false] at h
 rcases h with rfl | rfl | rfl | rfl | rfl | rfl <;> rfl
theorem kvals_snoc (ml : KL) (e : Int × KeyM) : kvals ml ++ kcells e = kvals (ml ++ [e]) := by simp [kvals]
@[reducible] def rkeyV (t : Int) (k : KeyM) : Value := .agg #[.int .i64 t, .string ⟨k.id.toArray⟩, .string ⟨k.sec.toArray⟩, .int .i64 k.frm, .int .i64 k.til, .int .i64 k.rev]
/-- The reference's list of keys. -/
def RefAt (w : World) (B : Nat) (v : Value) (ml : KL) : Prop := OwnWin w B 78 6 v ml.length (kvals ml)
/-- An element's cells. -/
structure RowK (w : World) (b p : Nat) (e : Int × KeyM) : Prop where
 c0 : w.cell? ⟨b, p, none⟩ = some (.int .i64 e.1)
 c1 : w.cell? ⟨b, p + 1, none⟩ = some (.string ⟨e.2.id.toArray⟩)
 c2 : w.cell? ⟨b, p + 2, none⟩ = some (.string ⟨e.2.sec.toArray⟩)
 c3 : w.cell? ⟨b, p + 3, none⟩ = some (.int .i64 e.2.frm)
 c4 : w.cell? ⟨b, p + 4, none⟩ = some (.int .i64 e.2.til)
 c5 : w.cell? ⟨b, p + 5, none⟩ = some (.int .i64 e.2.rev)
theorem RowK.older {w w' : World} {b p : Nat} {e : Int × KeyM} (h : RowK w b p e) (hb : Below w.heap.size w w') : RowK w' b p e :=
 ⟨keepC hb h.c0, keepC hb h.c1, keepC hb h.c2, keepC hb h.c3, keepC hb h.c4, keepC hb h.c5⟩
theorem RefAt.older {w w' : World} {B : Nat} {v : Value} {ml : KL} (h : RefAt w B v ml) (hb : Below w.heap.size w w') : RefAt w' B v ml := OwnWin.older h hb
theorem RefAt.slot {w : World} {B : Nat} {v : Value} {ml : KL} (h : RefAt w B v ml) : ∃ a c, v = .slice a ml.length c ∧ ∀ k e, ml[k]? = some e → ∃ b o, a = some ⟨b, o, none⟩ ∧ ml.length ≤ c ∧ b < w.heap.size ∧ RowK w b (o + k * 6) e := by
 obtain ⟨a, c, hv, hc⟩ := OwnWin.form h
 refine ⟨a, c, hv, fun k e he => ?_⟩
 have hk := (List.getElem?_eq_some_iff.1 he).1
 obtain ⟨b, o, c', e', h1, _, _, h4, h5⟩ := OwnWin.cells h (by omega)
 rw [hv] at e'
 cases e'
 have g : ∀ j u, (kcells e)[j]? = some u → w.cell? ⟨b, o + k * 6 + j, none⟩ = some u := fun j u hu => by
  rw [Nat.add_assoc]; exact h5 _ u (flatK_at kcells_len he hu)
 exact ⟨b, o, rfl, h1, h4, g 0 _ rfl, g 1 _ rfl, g 2 _ rfl, g 3 _ rfl, g 4 _ rfl, g 5 _ rfl⟩
def idxV : Option Nat → Value
  | none => .int .i64 (-1)
  | some i => .int .i64 (i : Int)
theorem findR_hit {ml : KL} {k : Nat} {t : Int} {id : Bs} {e : Int × KeyM} (he : ml[k]? = some e) (h : findR ml t id = (findR (ml.drop k) t id).map (· + k)) (hm : (e.1 == t && e.2.id == id) = true) : findR ml t id = some k := by
 obtain ⟨hk, hx⟩ := List.getElem?_eq_some_iff.1 he
 rw [h, drop_cons hk, hx]
 unfold findR
 rw [List.findIdx?_cons, hm]
 simp
theorem findR_miss {ml : KL} {k : Nat} {t : Int} {id : Bs} {e : Int × KeyM} (he : ml[k]? = some e) (h : findR ml t id = (findR (ml.drop k) t id).map (· + k)) (hm : (e.1 == t && e.2.id == id) = false) : findR ml t id = (findR (ml.drop (k + 1)) t id).map (· + (k + 1)) := by
 obtain ⟨hk, hx⟩ := List.getElem?_eq_some_iff.1 he
 rw [h, drop_cons hk, hx]
 unfold findR
 rw [List.findIdx?_cons, hm]
 simp only [Bool.false_eq_true, if_false, Option.map_map]
 congr 1
 funext x
 simp only [Function.comp]
 omega
theorem findR_end {ml : KL} {k : Nat} {t : Int} {id : Bs} (hk : ¬ k < ml.length) (h : findR ml t id = (findR (ml.drop k) t id).map (· + k)) : findR ml t id = none := by
 rw [h, List.drop_of_length_le (by omega)]; rfl
theorem refFind_any (B : Nat) (v : Value) (ml : KL) (t : Int) (id : Bs) (w : World) (h : RefAt w B v ml) (hl : ml.length ≤ 1000000) :
 Calls Tryz.prog 66 #[v, .int .i64 t, .string ⟨id.toArray⟩] w fun e w' => e = .returned (idxV (findR ml t id)) ∧ w = w' := by
 obtain ⟨a, c, rfl, hk⟩ := h.slot
 have HK := Lib.hid hk
 clear h hk
 go_enter Tryz.func66, Tryz.ntmps66
 go_wp2
 go_loop [10] (fun i => ∃ k : Nat, k ≤ ml.length ∧ i = .int .i64 k ∧ Hid (findR ml t id = (findR (ml.drop k) t id).map (· + k))) (fun i => ml.length - (intOf i).toNat)
 case atStart => exact ⟨0, Nat.zero_le _, rfl, Lib.hid (by simp)⟩
 case round =>
  obtain ⟨k, hk, rfl, H⟩ := hrel
  by_cases hlt : k < ml.length
  ·obtain ⟨e, he⟩ : ∃ e, ml[k]? = some e := ⟨_, List.getElem?_eq_getElem hlt⟩
   obtain ⟨b, o, rfl, hc, hb, hrow⟩ := HK.out k e he
   have HF1 := Lib.hid (findR_hit he H.out)
   have HF2 := Lib.hid (findR_miss he H.out)
   have c0 := hrow.c0
   have c1 := hrow.c1
   clear he hrow
   obtain ⟨s, key⟩ := e
   simp only at c0 c1 HF1 HF2
   cases h1 : (s == t) with
   | false =>
     have HF := Lib.hid (HF2.out (by rw [h1]; rfl))
     go_wp2
     go_round
     case rel => exact ⟨k + 1, by omega, by go_num, Lib.hid HF.out⟩
     case measure => simp [intOf]; omega
   | true =>
     cases h2 : (key.id == id) with
     | true =>
       have HF := Lib.hid (HF1.out (by rw [h1, h2]; rfl))
       go_wp2
       go_ret
       exact ⟨by rw [HF.out]; rfl, rfl⟩
     | false =>
       have HF := Lib.hid (HF2.out (by rw [h1, h2]; rfl))
       go_wp2
       go_round
       case rel => exact ⟨k + 1, by omega, by go_num, Lib.hid HF.out⟩
       case measure => simp [intOf]; omega
  ·have HF := Lib.hid (findR_end hlt H.out)
   go_wp2
   go_ret
   exact ⟨by rw [HF.out]; rfl, rfl⟩
theorem refvalid_any (t n : Int) (k : KeyM) (w : World) :
 Calls Tryz.prog 105 #[rkeyV t k, .int .i64 n] w fun r w' => r = .returned (.bool (k.at n)) ∧ Below w.heap.size w w' := by
 obtain ⟨id, sec, frm, til, rev⟩ := k
 have HV := Lib.hid (show KeyM.at ⟨id, sec, frm, til, rev⟩ n = (decide (frm ≤ n) && decide (n < til) && decide (n < rev)) from rfl)
 go_enter Tryz.func105, Tryz.ntmps105
 go_wp2
 all_goals
   go_ret
   exact ⟨ret_bool (by rw [HV.out, Bool.eq_iff_iff]; simp [*]; try omega), (Below.refl _ _).alloc (Nat.le_refl _) _⟩
def validR (ml : KL) (t : Int) (id : Bs) (n : Int) : Bool := match findR ml t id with
 | none => false
 | some i => match ml[i]? with
   | none => false
   | some e => e.2.at n
theorem refValid_any (B : Nat) (v : Value) (ml : KL) (t n : Int) (id : Bs) (w : World) (h : RefAt w B v ml) (hl : ml.length ≤ 1000000) :
 Calls Tryz.prog 74 #[v, .int .i64 t, .string ⟨id.toArray⟩, .int .i64 n] w fun e w' => e = .returned (.bool (validR ml t id n)) ∧ Below w.heap.size w w' := by
 have HR := Lib.hid h
 obtain ⟨a, c, rfl, hk⟩ := h.slot
 obtain ⟨o, ho⟩ : ∃ o, findR ml t id = o := ⟨_, rfl⟩
 have HO := Lib.hid ho
 cases o with
 | none =>
   have HV := Lib.hid (show validR ml t id n = false by unfold validR; rw [ho])
   have HI := Lib.hid (show idxV (findR ml t id) = .int .i64 (-1) by rw [ho]; rfl)
   clear ho h hk
   go_enter Tryz.func74, Tryz.ntmps74
   go_wp2_with (go_at_call 66; refine (refFind_any B _ ml t id _ HR.out hl).mono ?_; rw [HI.out]; rintro e w' ⟨rfl, rfl⟩)
   go_ret
   exact ⟨ret_bool HV.out.symm, Below.refl _ _⟩
 | some i =>
   obtain ⟨key, h1, _⟩ := findR_some ho
   have hi := (List.getElem?_eq_some_iff.1 h1).1
   have HV := Lib.hid (show validR ml t id n = key.at n by unfold validR; rw [ho]; simp only [h1])
   have HI := Lib.hid (show idxV (findR ml t id) = .int .i64 i by rw [ho]; rfl)
   obtain ⟨b, o, rfl, hc, hb, ⟨c0, c1, c2, c3, c4, c5⟩⟩ := hk i _ h1
   simp only at c0 c1 c2 c3 c4 c5
   clear ho h hk h1
   go_enter Tryz.func74, Tryz.ntmps74
   go_wp2_with (first | (go_at_call 66; refine (refFind_any B _ ml t id _ HR.out hl).mono ?_; rw [HI.out]; rintro e w' ⟨rfl, rfl⟩) | (go_at_call 105; refine (refvalid_any t n key _).mono ?_; rintro e w9 ⟨rfl, hb9⟩))
   go_ret
   exact ⟨ret_bool HV.out.symm, hb9⟩
end Kr
end Go.Proofs.YtpkhbhdidkkebaaGreatDoor
end

section
namespace Go.Proofs.YtpkhbhdidkkebaaGreatDoor
open Go.RowKit Pl Ad
attribute [local go_sem] ba_get ba_append ba_extract_end ba_extract_zero ba_extract
set_option maxRecDepth 100000
set_option maxHeartbeats 4000000
set_option linter.unusedVariables false
set_option linter.unusedSimpArgs false
namespace Kr
theorem heapK_first (w : World) (o o' : Obj) : ((w.alloc o).alloc o').heap[w.heap.size]? = some o := (Below.heap_alloc (w.alloc o) o' _ (by simp)).trans (heap_alloc_new w o)
theorem heapK_next (w : World) (o o' : Obj) : ((w.alloc o).alloc o').heap[w.heap.size + 1]? = some o' := by
 have h := heap_alloc_new (w.alloc o) o'
 simpa using h
theorem tyRefs : SliceTy Tryz.prog 67 78 6 64 :=
 ⟨Tryz.underlying67, by
  obtain ⟨i, h1, h2, h3, h4⟩ := info_parts (show (Tryz.prog.info? 78).map (fun i => (i.zero, i.size, i.bytes)) = some (some (.agg #[.int .i64 0, .string ⟨#[]⟩, .string ⟨#[]⟩, .int .i64 0, .int .i64 0, .int .i64 0]), 6, 64) by kernel_rfl)
  exact ⟨i, _, h1, h2, h3, h4, rfl⟩, by decide, by decide⟩
theorem clipK_iff (x : Int) : x = clipK x ↔ 0 ≤ x ∧ x ≤ 1099511627776 := by unfold clipK; omega
theorem per_len (ml : KL) (t : Int) : (per ml t).length ≤ ml.length := by
 unfold per; rw [List.length_map]; exact List.length_filter_le _ _
theorem hasR (ml : KL) (t : Int) (id : Bs) : hasId (per ml t) id = (findR ml t id).isSome := by
 cases h : findR ml t id with
 | none => rw [findR_none h]; rfl
 | some i => obtain ⟨k, _, h2, _⟩ := findR_some h; rw [h2]; rfl
/-- What the reference's calls leave: the list at a value. -/
structure RefDone (w w' : World) (B : Nat) (v' : Value) (ml' : KL) : Prop where
 ref : RefAt w' B v' ml'
 bel : Below w.heap.size w w'
theorem refAdd_name (B : Nat) (a : Option Addr) (c : Nat) (ml : KL) (t : Int) (id sec : Bs) (frm til : Int) (w : World) (h : RefAt w B (.slice a ml.length c) ml) (hB : B ≤ w.heap.size) (hi : id.length ≤ 2147483648) (hl : ml.length ≤ 1000000) (hn : idOk id = false) :
 Calls Tryz.prog 27 #[.slice a ml.length c, rkeyV t ⟨id, sec, frm, til, 0⟩] w fun e w' => e = .returned (.tuple #[.slice a ml.length c, .int .i64 8]) ∧ Below w.heap.size w w' := by
 have HID := Lib.hid hn
 clear h hn
 go_enter Tryz.func27, Tryz.ntmps27
 go_wp2_with (go_at_call 65; refine (refID_any id _ hi).mono ?_; rw [HID.out]; rintro e w9 ⟨rfl, rfl⟩)
 go_ret2
 exact ⟨rfl, (Below.refl _ _).alloc (Nat.le_refl _) _⟩
theorem refAdd_rng (B : Nat) (a : Option Addr) (c : Nat) (ml : KL) (t : Int) (id sec : Bs) (frm til : Int) (w : World) (h : RefAt w B (.slice a ml.length c) ml) (hB : B ≤ w.heap.size) (hi : id.length ≤ 2147483648) (hl : ml.length ≤ 1000000) (hn : idOk id = true) (hg : rngK t ⟨id, sec, frm, til, 0⟩ = true) :
 Calls Tryz.prog 27 #[.slice a ml.length c, rkeyV t ⟨id, sec, frm, til, 0⟩] w fun e w' => e = .returned (.tuple #[.slice a ml.length c, .int .i64 1]) ∧ Below w.heap.size w w' := by
 have HID := Lib.hid hn
 have HG := Lib.hid hg
 clear h hn hg
 by_cases h0 : t < 0
 ·clear HG
  go_enter Tryz.func27, Tryz.ntmps27
  go_wp2_with (go_at_call 65; refine (refID_any id _ hi).mono ?_; rw [HID.out]; rintro e w9 ⟨rfl, rfl⟩)
  go_ret2
  exact ⟨rfl, (Below.refl _ _).alloc (Nat.le_refl _) _⟩
 by_cases h1 : 16 ≤ t
 ·clear HG
  go_enter Tryz.func27, Tryz.ntmps27
  go_wp2_with (go_at_call 65; refine (refID_any id _ hi).mono ?_; rw [HID.out]; rintro e w9 ⟨rfl, rfl⟩)
  go_ret2
  exact ⟨rfl, (Below.refl _ _).alloc (Nat.le_refl _) _⟩
 by_cases h2 : (sec.length : Int) < 16
 ·clear HG
  go_enter Tryz.func27, Tryz.ntmps27
  go_wp2_with (go_at_call 65; refine (refID_any id _ hi).mono ?_; rw [HID.out]; rintro e w9 ⟨rfl, rfl⟩)
  go_ret2
  exact ⟨rfl, (Below.refl _ _).alloc (Nat.le_refl _) _⟩
 by_cases h3 : 64 < (sec.length : Int)
 ·clear HG
  go_enter Tryz.func27, Tryz.ntmps27
  go_wp2_with (go_at_call 65; refine (refID_any id _ hi).mono ?_; rw [HID.out]; rintro e w9 ⟨rfl, rfl⟩)
  go_ret2
  exact ⟨rfl, (Below.refl _ _).alloc (Nat.le_refl _) _⟩
 by_cases h4 : frm < 0
 ·clear HG
  go_enter Tryz.func27, Tryz.ntmps27
  go_wp2_with (go_at_call 65; refine (refID_any id _ hi).mono ?_; rw [HID.out]; rintro e w9 ⟨rfl, rfl⟩)
  go_ret2
  exact ⟨rfl, (Below.refl _ _).alloc (Nat.le_refl _) _⟩
 by_cases h5 : 1099511627776 < frm
 ·clear HG
  go_enter Tryz.func27, Tryz.ntmps27
  go_wp2_with (go_at_call 65; refine (refID_any id _ hi).mono ?_; rw [HID.out]; rintro e w9 ⟨rfl, rfl⟩)
  go_ret2
  exact ⟨rfl, (Below.refl _ _).alloc (Nat.le_refl _) _⟩
 by_cases h6 : til < 0
 ·clear HG
  go_enter Tryz.func27, Tryz.ntmps27
  go_wp2_with (go_at_call 65; refine (refID_any id _ hi).mono ?_; rw [HID.out]; rintro e w9 ⟨rfl, rfl⟩)
  go_ret2
  exact ⟨rfl, (Below.refl _ _).alloc (Nat.le_refl _) _⟩
 have h7 : 1099511627776 < til := by
  have hg := HG.out
  apply Classical.byContradiction
  intro hc
  have : rngK t ⟨id, sec, frm, til, 0⟩ = false := rngK_iff.2 ⟨by omega, by omega, by simp only; omega, by simp only; omega, (clipK_iff frm).2 (by omega), (clipK_iff til).2 (by omega)⟩
  rw [this] at hg; cases hg
 clear HG
 go_enter Tryz.func27, Tryz.ntmps27
 go_wp2_with (go_at_call 65; refine (refID_any id _ hi).mono ?_; rw [HID.out]; rintro e w9 ⟨rfl, rfl⟩)
 go_ret2
 exact ⟨rfl, (Below.refl _ _).alloc (Nat.le_refl _) _⟩
theorem refAdd_ord (B : Nat) (a : Option Addr) (c : Nat) (ml : KL) (t : Int) (id sec : Bs) (frm til : Int) (w : World) (h : RefAt w B (.slice a ml.length c) ml) (hB : B ≤ w.heap.size) (hi : id.length ≤ 2147483648) (hl : ml.length ≤ 1000000) (hn : idOk id = true) (hg : rngK t ⟨id, sec, frm, til, 0⟩ = false) (ho : til ≤ frm) :
 Calls Tryz.prog 27 #[.slice a ml.length c, rkeyV t ⟨id, sec, frm, til, 0⟩] w fun e w' => e = .returned (.tuple #[.slice a ml.length c, .int .i64 7]) ∧ Below w.heap.size w w' := by
 have HID := Lib.hid hn
 obtain ⟨h0, h1, h2, h3, e4, e5⟩ := rngK_iff.1 hg
 have h4 := (clipK_iff _).1 e4
 have h5 := (clipK_iff _).1 e5
 clear e4 e5
 simp only at h2 h3 h4 h5
 obtain ⟨h4a, h4b⟩ := h4
 obtain ⟨h5a, h5b⟩ := h5
 have h2' : ¬ (sec.length : Int) < 16 := by omega
 have h3' : ¬ 64 < (sec.length : Int) := by omega
 clear hg hn
 clear h
 go_enter Tryz.func27, Tryz.ntmps27
 go_wp2_with (go_at_call 65; refine (refID_any id _ hi).mono ?_; rw [HID.out]; rintro e w9 ⟨rfl, rfl⟩)
 go_ret2
 exact ⟨rfl, (Below.refl _ _).alloc (Nat.le_refl _) _⟩
theorem refAdd_has (B : Nat) (a : Option Addr) (c : Nat) (ml : KL) (t : Int) (id sec : Bs) (frm til : Int) (w : World) (h : RefAt w B (.slice a ml.length c) ml) (hB : B ≤ w.heap.size) (hi : id.length ≤ 2147483648) (hl : ml.length ≤ 1000000) (hn : idOk id = true) (hg : rngK t ⟨id, sec, frm, til, 0⟩ = false) (ho : ¬ til ≤ frm) (i : Nat) (hx : findR ml t id = some i) :
 Calls Tryz.prog 27 #[.slice a ml.length c, rkeyV t ⟨id, sec, frm, til, 0⟩] w fun e w' => e = .returned (.tuple #[.slice a ml.length c, .int .i64 4]) ∧ Below w.heap.size w w' := by
 have HID := Lib.hid hn
 obtain ⟨h0, h1, h2, h3, e4, e5⟩ := rngK_iff.1 hg
 have h4 := (clipK_iff _).1 e4
 have h5 := (clipK_iff _).1 e5
 clear e4 e5
 simp only at h2 h3 h4 h5
 obtain ⟨h4a, h4b⟩ := h4
 obtain ⟨h5a, h5b⟩ := h5
 have h2' : ¬ (sec.length : Int) < 16 := by omega
 have h3' : ¬ 64 < (sec.length : Int) := by omega
 clear hg hn
 have HR := Lib.hid (h.older ((Below.refl _ _).alloc (Nat.le_refl _) (.cells #[.int .i64 t, .string ⟨id.toArray⟩, .string ⟨sec.toArray⟩, .int .i64 frm, .int .i64 til, .int .i64 0] 78)))
 have HI := Lib.hid (show idxV (findR ml t id) = .int .i64 i by rw [hx]; rfl)
 clear h hx
 go_enter Tryz.func27, Tryz.ntmps27
 go_wp2_with (first | (go_at_call 65; refine (refID_any id _ hi).mono ?_; rw [HID.out]; rintro e w9 ⟨rfl, rfl⟩) | (go_at_call 66; refine (refFind_any B _ ml t id _ HR.out hl).mono ?_; rw [HI.out]; rintro e w' ⟨rfl, rfl⟩))
 go_ret2
 exact ⟨rfl, (Below.refl _ _).alloc (Nat.le_refl _) _⟩
theorem refAdd_ok (B : Nat) (a : Option Addr) (c : Nat) (ml : KL) (t : Int) (id sec : Bs) (frm til : Int) (w : World) (h : RefAt w B (.slice a ml.length c) ml) (hB : B ≤ w.heap.size) (hi : id.length ≤ 2147483648) (hl : ml.length ≤ 1000000) (hn : idOk id = true) (hg : rngK t ⟨id, sec, frm, til, 0⟩ = false) (ho : ¬ til ≤ frm) (hx : findR ml t id = none) :
 Calls Tryz.prog 27 #[.slice a ml.length c, rkeyV t ⟨id, sec, frm, til, 0⟩] w fun e w' => ∃ v', e = .returned (.tuple #[v', .int .i64 0]) ∧ RefDone w w' w.heap.size v' (ml ++ [(t, ⟨id, sec, frm, til, 1099511627777⟩)]) := by
 have HID := Lib.hid hn
 obtain ⟨h0, h1, h2, h3, e4, e5⟩ := rngK_iff.1 hg
 have h4 := (clipK_iff _).1 e4
 have h5 := (clipK_iff _).1 e5
 clear e4 e5
 simp only at h2 h3 h4 h5
 obtain ⟨h4a, h4b⟩ := h4
 obtain ⟨h5a, h5b⟩ := h5
 have h2' : ¬ (sec.length : Int) < 16 := by omega
 have h3' : ¬ 64 < (sec.length : Int) := by omega
 clear hg hn
 have hb0 := (Below.refl w.heap.size w).alloc (Nat.le_refl _) (.cells #[.int .i64 t, .string ⟨id.toArray⟩, .string ⟨sec.toArray⟩, .int .i64 frm, .int .i64 til, .int .i64 0] 78)
 have HR := Lib.hid (h.older hb0)
 have HRW := Lib.hid h
 have HI := Lib.hid (show idxV (findR ml t id) = .int .i64 (-1) by rw [hx]; rfl)
 clear h hx hb0
 go_enter Tryz.func27, Tryz.ntmps27
 go_wp2_with (first | (go_at_call 65; refine (refID_any id _ hi).mono ?_; rw [HID.out]; rintro e w9 ⟨rfl, rfl⟩) | (go_at_call 66; refine (refFind_any B _ ml t id _ HR.out hl).mono ?_; rw [HI.out]; rintro e w' ⟨rfl, rfl⟩))
 have hb5 := (Below.refl w.heap.size w).alloc (Nat.le_refl _) (.cells #[.int .i64 t, .string ⟨id.toArray⟩, .string ⟨sec.toArray⟩, .int .i64 frm, .int .i64 til, .int .i64 1099511627777] 78)
 have HR5 := Lib.hid (HRW.out.older hb5)
 have HB5 := Lib.hid hb5
 have HX5 := Lib.hid (Bx.new w 78 #[.int .i64 t, .string ⟨id.toArray⟩, .string ⟨sec.toArray⟩, .int .i64 frm, .int .i64 til, .int .i64 1099511627777])
 clear hb5
 generalize w.alloc (.cells #[.int .i64 t, .string ⟨id.toArray⟩, .string ⟨sec.toArray⟩, .int .i64 frm, .int .i64 til, .int .i64 1099511627777] 78) = w1 at HR5 HB5 HX5 ⊢
 have HZ5 := Lib.hid HB5.out.size
 have hz1 := HX5.out.lt
 have c0 := HX5.out.cell (i := 0) rfl
 have c1 := HX5.out.cell (i := 1) rfl
 have c2 := HX5.out.cell (i := 2) rfl
 have c3 := HX5.out.cell (i := 3) rfl
 have c4 := HX5.out.cell (i := 4) rfl
 have c5 := HX5.out.cell (i := 5) rfl
 go_region_law
     ((first
       | (refine step_appw tyRefs (by rfl) _ _ (by rfl) w1.heap.size (.slice (some ⟨w1.heap.size, 0, none⟩) 0 0) 0 [] (by rfl) (ownK_empty (heap_alloc_new w1 _) (Nat.le_refl _)).drew (by first | (simp; done) | (simp; omega)) (.slice a ml.length c) ml.length (kvals ml) (by rfl) (SrcAt.of (HR5.out.alloc _).drew) (by rw [kvals_len]) (kvals_one _) (by omega) ?_; intro v2 w2 hown2 hgrow2 hlies2; rw [Nat.zero_add, List.nil_append] at hown2; obtain ⟨a2, q2, rfl, hq2⟩ := hown2.form; have hb2 : Below w1.heap.size w1 w2 := belowK_grown ((Below.refl w1.heap.size w1).alloc (Nat.le_refl _) _).drew hgrow2 (by first | (simp; done) | (simp; omega)) (fun q hq => by simp [Value.ownBlock] at hq; omega); have hs2 := hb2.size; have p0 := (HX5.out.older hb2).cell (i := 0) rfl; have p1 := (HX5.out.older hb2).cell (i := 1) rfl; have p2 := (HX5.out.older hb2).cell (i := 2) rfl; have p3 := (HX5.out.older hb2).cell (i := 3) rfl; have p4 := (HX5.out.older hb2).cell (i := 4) rfl; have p5 := (HX5.out.older hb2).cell (i := 5) rfl)
       | (refine step_appw tyRefs (by rfl) _ _ (by rfl) w1.heap.size (.slice (some ⟨w1.heap.size, 0, none⟩) 0 0) 0 [] (by rfl) ((ownK_empty (heap_alloc_new w1 _) (Nat.le_refl _)).alloc _).drew (by first | (simp; done) | (simp; omega)) (.slice a ml.length c) ml.length (kvals ml) (by rfl) (SrcAt.of ((HR5.out.alloc _).alloc _).drew) (by rw [kvals_len]) (kvals_one _) (by omega) ?_; intro v2 w2 hown2 hgrow2 hlies2; rw [Nat.zero_add, List.nil_append] at hown2; obtain ⟨a2, q2, rfl, hq2⟩ := hown2.form; have hb2 : Below w1.heap.size w1 w2 := belowK_grown (((Below.refl w1.heap.size w1).alloc (Nat.le_refl _) _).alloc (by first | (simp; done) | (simp; omega)) _).drew hgrow2 (by first | (simp; done) | (simp; omega)) (fun q hq => by simp [Value.ownBlock] at hq; omega); have hs2 := hb2.size; have p0 := (HX5.out.older hb2).cell (i := 0) rfl; have p1 := (HX5.out.older hb2).cell (i := 1) rfl; have p2 := (HX5.out.older hb2).cell (i := 2) rfl; have p3 := (HX5.out.older hb2).cell (i := 3) rfl; have p4 := (HX5.out.older hb2).cell (i := 4) rfl; have p5 := (HX5.out.older hb2).cell (i := 5) rfl; have hP : w2.heap[w1.heap.size + 1]? = some (.cells #[.int .i64 t, .string ⟨id.toArray⟩, .string ⟨sec.toArray⟩, .int .i64 frm, .int .i64 til, .int .i64 1099511627777] 78 (0, 0)) := (hgrow2.block (w1.heap.size + 1) (by first | (simp; done) | (simp; omega)) (fun e => by simp [Value.ownBlock] at e)).trans (heapK_next w1 _ _))
       | (refine step_appw tyRefs (by rfl) _ _ (by rfl) w1.heap.size (.slice (some ⟨w1.heap.size + 1, 0, none⟩) 0 0) 0 [] (by rfl) (ownK_empty (heapK_next w1 _ _) (by omega)).drew (by first | (simp; done) | (simp; omega)) (.slice a ml.length c) ml.length (kvals ml) (by rfl) (SrcAt.of ((HR5.out.alloc _).alloc _).drew) (by rw [kvals_len]) (kvals_one _) (by omega) ?_; intro v2 w2 hown2 hgrow2 hlies2; rw [Nat.zero_add, List.nil_append] at hown2; obtain ⟨a2, q2, rfl, hq2⟩ := hown2.form; have hb2 : Below w1.heap.size w1 w2 := belowK_grown (((Below.refl w1.heap.size w1).alloc (Nat.le_refl _) _).alloc (by first | (simp; done) | (simp; omega)) _).drew hgrow2 (by first | (simp; done) | (simp; omega)) (fun q hq => by simp [Value.ownBlock] at hq; omega); have hs2 := hb2.size; have p0 := (HX5.out.older hb2).cell (i := 0) rfl; have p1 := (HX5.out.older hb2).cell (i := 1) rfl; have p2 := (HX5.out.older hb2).cell (i := 2) rfl; have p3 := (HX5.out.older hb2).cell (i := 3) rfl; have p4 := (HX5.out.older hb2).cell (i := 4) rfl; have p5 := (HX5.out.older hb2).cell (i := 5) rfl; have hP : w2.heap[w1.heap.size]? = some (.cells #[.int .i64 t, .string ⟨id.toArray⟩, .string ⟨sec.toArray⟩, .int .i64 frm, .int .i64 til, .int .i64 1099511627777] 78 (0, 0)) := (hgrow2.block w1.heap.size (by first | (simp; done) | (simp; omega)) (fun e => by simp [Value.ownBlock] at e)).trans (heapK_first w1 _ _))
       | (refine step_appw tyRefs (by rfl) _ _ (by rfl) w1.heap.size (.slice a2 ml.length q2) ml.length (kvals ml) (by rfl) (hown2.alloc _) (by first | omega | (simp; omega)) (.slice (some ⟨w2.heap.size, 0, none⟩) 1 1) 1 [.int .i64 t, .string ⟨id.toArray⟩, .string ⟨sec.toArray⟩, .int .i64 frm, .int .i64 til, .int .i64 1099511627777] (by rfl) (SrcAt.one (heap_alloc_new w2 _)) (by rfl) (by simp [Value.oneCell']) (by omega) ?_; intro v3 w3 hown3 hgrow3 hlies3; obtain ⟨a3, q3, rfl, hq3⟩ := hown3.form; have hb3 : Below w1.heap.size w1 w3 := belowK_grown (hb2.alloc (by omega) _) hgrow3 (by first | omega | (simp; omega)) (fun q hq => (hown2.lt q hq).1))
       | (refine step_appw tyRefs (by rfl) _ _ (by rfl) w1.heap.size (.slice a2 ml.length q2) ml.length (kvals ml) (by rfl) hown2 (by first | omega | (simp; omega)) (.slice (some ⟨w1.heap.size + 1, 0, none⟩) 1 1) 1 [.int .i64 t, .string ⟨id.toArray⟩, .string ⟨sec.toArray⟩, .int .i64 frm, .int .i64 til, .int .i64 1099511627777] (by rfl) (SrcAt.one hP) (by rfl) (by simp [Value.oneCell']) (by omega) ?_; intro v3 w3 hown3 hgrow3 hlies3; obtain ⟨a3, q3, rfl, hq3⟩ := hown3.form; have hb3 : Below w1.heap.size w1 w3 := belowK_grown hb2 hgrow3 (by first | omega | (simp; omega)) (fun q hq => (hown2.lt q hq).1))
       | (refine step_appw tyRefs (by rfl) _ _ (by rfl) w1.heap.size (.slice a2 ml.length q2) ml.length (kvals ml) (by rfl) hown2 (by first | omega | (simp; omega)) (.slice (some ⟨w1.heap.size, 0, none⟩) 1 1) 1 [.int .i64 t, .string ⟨id.toArray⟩, .string ⟨sec.toArray⟩, .int .i64 frm, .int .i64 til, .int .i64 1099511627777] (by rfl) (SrcAt.one hP) (by rfl) (by simp [Value.oneCell']) (by omega) ?_; intro v3 w3 hown3 hgrow3 hlies3; obtain ⟨a3, q3, rfl, hq3⟩ := hown3.form; have hb3 : Below w1.heap.size w1 w3 := belowK_grown hb2 hgrow3 (by first | omega | (simp; omega)) (fun q hq => (hown2.lt q hq).1))))
 all_goals
   go_wp2
   go_ret2
   refine ⟨.slice a3 (ml.length + 1) q3, rfl, ?_, HB5.out.trans (hb3.mono HB5.out.size)⟩
   have h9 := hown3.mono (C := w.heap.size) (fun q hq => by have := (hown3.lt q hq).1; have := HZ5.out; omega)
   unfold RefAt
   rw [← kvals_snoc, List.length_append]
   exact h9
end Kr
end Go.Proofs.YtpkhbhdidkkebaaGreatDoor
end

section
namespace Go.Proofs.YtpkhbhdidkkebaaGreatDoor
open Go.RowKit Pl Ad
attribute [local go_sem] ba_get ba_append ba_extract_end ba_extract_zero ba_extract conv_one
set_option maxRecDepth 100000
set_option maxHeartbeats 4000000
set_option linter.unusedVariables false
set_option linter.unusedSimpArgs false
namespace Kr
theorem RefAt.mono {w : World} {B C : Nat} {v : Value} {ml : KL} (h : RefAt w C v ml) (hB : B ≤ C) : RefAt w B v ml := OwnWin.mono h fun q hq => Nat.le_trans hB (OwnWin.lt h q hq).1
theorem refAdd_any (B : Nat) (v : Value) (ml : KL) (t : Int) (id sec : Bs) (frm til : Int) (w : World) (h : RefAt w B v ml) (hB : B ≤ w.heap.size) (hi : id.length ≤ 2147483648) (hl : ml.length ≤ 1000000) :
 Calls Tryz.prog 27 #[v, rkeyV t ⟨id, sec, frm, til, 0⟩] w fun e w' => ∃ v', e = .returned (.tuple #[v', .int .i64 (addC t (per ml t) ⟨id, sec, frm, til, 0⟩)]) ∧ RefDone w w' B v' (addR ml t ⟨id, sec, frm, til, 0⟩) ∧ (addC t (per ml t) ⟨id, sec, frm, til, 0⟩ = 0 → RefAt w' w.heap.size v' (addR ml t ⟨id, sec, frm, til, 0⟩)) := by
 obtain ⟨a, c, rfl, _⟩ := h.slot
 have bad : ∀ n : Int, ¬ n = 0 → addC t (per ml t) ⟨id, sec, frm, til, 0⟩ = n → ∀ (e : Ending) (w' : World), (e = .returned (.tuple #[.slice a ml.length c, .int .i64 n]) ∧ Below w.heap.size w w') →
     ∃ v', e = .returned (.tuple #[v', .int .i64 (addC t (per ml t) ⟨id, sec, frm, til, 0⟩)]) ∧ RefDone w w' B v' (addR ml t ⟨id, sec, frm, til, 0⟩) ∧ (addC t (per ml t) ⟨id, sec, frm, til, 0⟩ = 0 → RefAt w' w.heap.size v' (addR ml t ⟨id, sec, frm, til, 0⟩)) := fun n hn ha e w' hx => by
  refine ⟨_, by rw [hx.1, ha], ⟨?_, hx.2⟩, fun h0 => absurd (ha.symm.trans h0) hn⟩
  unfold addR
  rw [ha, if_neg hn]
  exact h.older hx.2
 cases hn : idOk id with
 | false => exact (refAdd_name B a c ml t id sec frm til w h hB hi hl hn).mono (bad 8 (by decide) (addC_name hn))
 | true =>
   cases hg : rngK t ⟨id, sec, frm, til, 0⟩ with
   | true => exact (refAdd_rng B a c ml t id sec frm til w h hB hi hl hn hg).mono (bad 1 (by decide) (addC_rng hn hg))
   | false =>
     by_cases ho : til ≤ frm
     ·exact (refAdd_ord B a c ml t id sec frm til w h hB hi hl hn hg ho).mono (bad 7 (by decide) (addC_ord hn hg ho))
     ·cases hx : findR ml t id with
      | some i => exact (refAdd_has B a c ml t id sec frm til w h hB hi hl hn hg ho i hx).mono (bad 4 (by decide) (addC_has hn hg ho (by rw [hasR, hx]; rfl)))
      | none =>
        have ha := addC_ok hn hg ho (show hasId (per ml t) id = false by rw [hasR, hx]; rfl)
        refine (refAdd_ok B a c ml t id sec frm til w h hB hi hl hn hg ho hx).mono fun e w' he => ?_
        obtain ⟨v', rfl, hr⟩ := he
        have he := hr.ref
        rw [show ml ++ [(t, ⟨id, sec, frm, til, 1099511627777⟩)] = addR ml t ⟨id, sec, frm, til, 0⟩ by unfold addR; rw [if_pos ha]; rfl] at he
        exact ⟨v', by rw [ha], ⟨he.mono hB, hr.bel⟩, fun _ => he⟩
end Kr
end Go.Proofs.YtpkhbhdidkkebaaGreatDoor
end

section
namespace Go.Proofs.YtpkhbhdidkkebaaGreatDoor
open Go.RowKit Pl Ad
attribute [local go_sem] ba_get ba_append ba_extract_end ba_extract_zero ba_extract conv_one
set_option maxRecDepth 100000
set_option maxHeartbeats 4000000
set_option linter.unusedVariables false
set_option linter.unusedSimpArgs false
namespace Kr
theorem decDigits_le (n : Nat) : (Lib.decDigits n).length ≤ n + 1 := by
 induction n using Nat.strongRecOn with
 | _ n ih =>
   rw [Lib.decDigits]
   split
   ·simp
   ·rename_i h
    rw [List.length_append]
    have := ih (n / 10) (by omega)
    simp only [List.length_cons, List.length_nil]
    omega
theorem text09_any (n : Nat) : ∀ (w : World), n < 9223372036854775808 → Calls Tryz.prog 98 #[.int .i64 (n : Int)] w fun e w' => e = .returned (.string ⟨(Lib.decDigits n).toArray⟩) ∧ Below w.heap.size w w' := by
 induction n using Nat.strongRecOn with
 | _ n ih =>
   intro w hn
   by_cases h : n < 10
   ·have HD := Lib.hid (show Lib.decDigits n = [UInt8.ofNat (48 + n % 10)] by rw [Lib.decDigits, dif_pos h, Nat.mod_eq_of_lt h])
    have h2 : (n : Int) < 10 := by omega
    have h3 : (0 : Int) ≤ (n : Int) := by omega
    clear ih
    go_enter Tryz.func98, Tryz.ntmps98
    go_wp2
    go_ret
    exact ⟨ret_str HD.out.symm, (Below.refl _ _).alloc (Nat.le_refl _) _⟩
   ·have HD := Lib.hid (show Lib.decDigits n = Lib.decDigits (n / 10) ++ [UInt8.ofNat (48 + n % 10)] by rw [Lib.decDigits, dif_neg h])
    have h2 : ¬ (n : Int) < 10 := by omega
    have h3 : (0 : Int) ≤ (n : Int) := by omega
    have hdl := decDigits_le (n / 10)
    have hdm : n / 10 + 1 ≤ 922337203685477582 := by omega
    obtain ⟨dd, hdd⟩ : ∃ dd, Lib.decDigits (n / 10) = dd := ⟨_, rfl⟩
    have HDD := Lib.hid hdd
    rw [hdd] at hdl
    have hdl2 : dd.length ≤ 922337203685477582 := by omega
    have HI := Lib.hid (fun w1 => ih (n / 10) (by omega) w1 (by omega))
    have HQ : Hid (((n / 10 : Nat) : Int) = (n : Int) / 10) := Lib.hid (by omega)
    clear ih hdd hdl hdm h
    go_enter Tryz.func98, Tryz.ntmps98
    go_wp2_with (go_at_call 98; rw [← HQ.out]; refine (HI.out _).mono ?_; rw [HDD.out]; rintro e w2 ⟨rfl, hb2⟩)
    go_ret
    exact ⟨ret_str (by rw [HD.out, HDD.out]; simp [UInt8.ofNat_add]), ((Below.refl _ _).alloc (Nat.le_refl _) _).trans (hb2.mono (by simp))⟩
end Kr
end Go.Proofs.YtpkhbhdidkkebaaGreatDoor
end

section
namespace Go.Proofs.YtpkhbhdidkkebaaGreatDoor
open Go.RowKit Pl Ad
attribute [local go_sem] ba_get ba_append ba_extract_end ba_extract_zero ba_extract
set_option maxRecDepth 100000
set_option maxHeartbeats 4000000
set_option linter.unusedVariables false
set_option linter.unusedSimpArgs false
namespace Kr
def secN (n : Nat) : Bs := (List.range (n % 80)).map fun i => UInt8.ofNat (n + i)
theorem secN_len (n : Nat) : (secN n).length = n % 80 := by simp [secN]
theorem madeB (m : Nat) : madeCells (Value.int .u8 0).cells (m * 1) = (bvals (List.replicate m 0)).toArray := by
 simp [madeCells, bvals, Value.cells]
 apply Array.ext
 ·simp
 ·intro i h1 h2
  simp [Nat.mod_one]
theorem wpList_make_bytes {w : World} {ops : Array Oper} {rest : List Oper} {o : Oper} {a : Act} {Q : Exit → Act → World → Prop} (hg : o.guard = none) (l c : Operand) (hop : o.op = Op.makeSlice 45 l c) (n : Nat) (N : Int)
    (hl : a.eval l = .int .i64 N) (hc : a.eval c = .int .i64 N) (hN : N = (n : Int)) (hn : n ≤ 1000000)
    (hK : wpList Tryz.prog ops Q rest (a.put o.dst (.slice (some ⟨w.heap.size, 0, none⟩) n n)) (w.alloc (.cells (bvals (List.replicate n 0)).toArray 5))) : wpList Tryz.prog ops Q (o :: rest) a w := by
 refine wpList_plain hg fun K hK' => ?_
 obtain ⟨i, h1, h2, h3, h4⟩ := info_parts (show (Tryz.prog.info? 5).map (fun i => (i.zero, i.size, i.bytes)) = some (some (.int .u8 0), 1, 1) by kernel_rfl)
 have hr := run_make (P := Tryz.prog) w 45 5 i (.int .u8 0) Tryz.underlying45 h1 h2 .i64 .i64 N N (by omega) (Int.le_refl _) (by rw [h4]; omega) (by omega)
 subst hN
 rw [h3] at hr
 simp only [Int.toNat_natCast] at hr
 rw [madeB] at hr
 unfold Oper.wp
 simp [execOp, hop, hl, hc, hr, Result.andThen]
 exact hK' _ _ (by simpa using hK)
/-- string(b) of a slice of bytes of the call's own. -/
theorem convK_owned {w : World} {B n : Nat} {v : Value} (out : Bs) (h : OwnWin w B 5 1 v n (bvals out)) : (convert 45 9 v).run Tryz.prog w = .ok (.string ⟨out.toArray⟩) w := by
 have hn : n = out.length := by have := h.1; rw [bvals_len] at this; omega
 subst hn
 rcases h.2 with ⟨rfl, h0⟩ | ⟨g, o, cap, cur, rfl, _, hg, hnc, _, hsz, htake⟩
 ·have : out = [] := List.eq_nil_of_length_eq_zero h0
  subst this
  rw [run_convert_bytes_string w 45 9 5 none 0 0 Tryz.underlying45 Tryz.underlying5 Tryz.underlying9]
  rfl
 ·refine run_convert_bytes_back w 45 9 5 ⟨g, o, none⟩ cap out Tryz.underlying45 Tryz.underlying5 Tryz.underlying9 (fun j hj => ?_)
  obtain ⟨g', o', c', e', _, _, _, _, hc⟩ := h.cells (by omega)
  cases e'
  rw [Addr.add_lit]
  exact hc j (.int .u8 (out[j].toNat : Int)) (by simp [bvals, hj])
theorem bvals_set (l : Bs) (k : Nat) (x : UInt8) : (bvals l).toArray.setIfInBounds k (.int .u8 (x.toNat : Int)) = (bvals (l.set k x)).toArray := by
 simp [bvals]
theorem sec_next {n k : Nat} {l : Bs} (hk : k < l.length) (hk2 : k < (secN n).length) (h : l.take k = (secN n).take k) : (l.set k (UInt8.ofNat (n + k))).take (k + 1) = (secN n).take (k + 1) := by
 rw [take_snoc (show k < (l.set k (UInt8.ofNat (n + k))).length by rw [List.length_set]; exact hk), take_snoc hk2, List.take_set_of_le (Nat.le_refl _), h, List.getElem_set_self]
 congr 2
 simp [secN]
theorem secret_any (n : Nat) (w : World) (hn : n < 256) :
 Calls Tryz.prog 26 #[.int .u8 (n : Int)] w fun e w' => e = .returned (.string ⟨(secN n).toArray⟩) ∧ Below w.heap.size w w' := by
 have h1 : (0 : Int) ≤ (n : Int) := by omega
 have h2 : (n : Int) < 256 := by omega
 obtain ⟨m, hm⟩ : ∃ m, n % 80 = m := ⟨_, rfl⟩
 have hmod : (n : Int) % 80 = (m : Int) := by omega
 have hm80 : m < 80 := by omega
 have HM := Lib.hid hmod
 have HL := Lib.hid (show (secN n).length = m by rw [secN_len, hm])
 clear hmod hm
 go_enter Tryz.func26, Tryz.ntmps26
 go_wp2_with ((refine wpList_make_bytes rfl _ _ rfl m ((n : Int) % 80) rfl rfl HM.out (by omega) ?_))
 go_loopw [4, 11] (fun x i wr => ∃ (k : Nat) (l : Bs), k ≤ m ∧ i = .int .i64 k ∧ l.length = m ∧ Hid (l.take k = (secN n).take k) ∧ Bx wr w.heap.size 5 (bvals l).toArray ∧ Below w.heap.size w wr) (fun _ i _ => m - (intOf i).toNat)
 case atStart => exact ⟨0, List.replicate m 0, Nat.zero_le _, rfl, by simp, Lib.hid rfl, Bx.new w _ _, (Below.refl _ _).alloc (Nat.le_refl _) _⟩
 case round =>
  obtain ⟨k, l, hk, rfl, hll, HT, hbx, hbel⟩ := hrel
  have HX := Lib.hid hbx
  have HB := Lib.hid hbel
  have HLL := Lib.hid hll
  have hz := hbx.lt
  by_cases hlt : k < m
  ·obtain ⟨y, hy⟩ : ∃ y, l[k]? = some y := ⟨_, List.getElem?_eq_getElem (by omega)⟩
   have hc : wr.cell? ⟨w.heap.size, k, none⟩ = some (.int .u8 (y.toNat : Int)) := hbx.cell (by simp [bvals, hy])
   have hf := hbx.frz k
   have hv : ((n : Int) + (k : Int)) % 256 = ((UInt8.ofNat (n + k)).toNat : Int) := by simp
   have HV := Lib.hid hv
   have hk3 : (k : Int) < 256 := by omega
   clear hbx hbel hv hll hy
   go_wp2
   go_roundw
   case rel =>
    refine ⟨k + 1, l.set k (UInt8.ofNat (n + k)), by omega, by go_num, by rw [List.length_set]; exact HLL.out, Lib.hid (sec_next (by have := HLL.out; omega) (by have := HL.out; omega) HT.out), ?_, HB.out.setCell (p := ⟨w.heap.size, k, none⟩) (Nat.le_refl _) _⟩
    have h9 := HX.out.set k (.int .u8 (((n : Int) + (k : Int)) % 256))
    rw [HV.out, bvals_set] at h9
    rw [HV.out]
    exact h9
   case measure => simp [intOf]; omega
  ·have HE : Hid (l = secN n) := Lib.hid (by
    have h9 := HT.out
    rw [List.take_of_length_le (by omega), List.take_of_length_le (by have := HL.out; omega)] at h9
    exact h9)
   have hown : OwnWin wr w.heap.size 5 1 (.slice (some ⟨w.heap.size, 0, none⟩) m m) m (bvals l) :=
    ⟨by rw [bvals_len, hll]; omega, .inr ⟨w.heap.size, 0, m, (bvals l).toArray, rfl, Nat.le_refl _, hbx, Nat.le_refl _, by unfold maxLen; omega, by simp [bvals, hll], by rw [List.drop_zero, Nat.mul_one, List.take_of_length_le (by simp [bvals, hll])]⟩⟩
   have hcv := convK_owned l hown
   clear hown hbx hbel hll
   go_wp2
   go_ret
   exact ⟨ret_str HE.out, HB.out⟩
/-- An act's tenant. -/
def tenB (b : Nat) : Int := if b % 8 = 7 then ((b / 8 % 19 : Nat) : Int) - 1 else ((b % 8 % 3 : Nat) : Int)
@[reducible] def actV (kd tn s : Nat) (id : Bs) (x y z at_ : Int) : Value := .agg #[.int .u8 (kd : Int), .int .u8 (tn : Int), .int .u8 (s : Int), .string ⟨id.toArray⟩, .int .i64 x, .int .i64 y, .int .i64 z, .int .i64 at_]
theorem tenant_any (kd tn s : Nat) (id : Bs) (x y z at_ : Int) (w : World) (hn : tn < 256) :
 Calls Tryz.prog 25 #[actV kd tn s id x y z at_] w fun e w' => e = .returned (.int .i64 (tenB tn)) ∧ Below w.heap.size w w' := by
 have h1 : (0 : Int) ≤ (tn : Int) := by omega
 have h2 : (tn : Int) < 256 := by omega
 by_cases h7 : tn % 8 = 7
 ·have h7' : ((tn : Int) % 8 == 7) = true := beq_iff_eq.2 (by omega)
  have HT := Lib.hid (show tenB tn = (tn : Int) / 8 % 19 - 1 by unfold tenB; rw [if_pos h7]; omega)
  clear h7
  go_enter Tryz.func25, Tryz.ntmps25
  go_wp2
  go_ret
  exact ⟨ret_int HT.out.symm, (Below.refl _ _).alloc (Nat.le_refl _) _⟩
 ·have h7' : ((tn : Int) % 8 == 7) = false := beq_eq_false_iff_ne.2 (by omega)
  have HT := Lib.hid (show tenB tn = (tn : Int) % 8 % 3 by unfold tenB; rw [if_neg h7]; omega)
  clear h7
  go_enter Tryz.func25, Tryz.ntmps25
  go_wp2
  go_ret
  exact ⟨ret_int HT.out.symm, (Below.refl _ _).alloc (Nat.le_refl _) _⟩
end Kr
end Go.Proofs.YtpkhbhdidkkebaaGreatDoor
end

section
namespace Go.Proofs.YtpkhbhdidkkebaaGreatDoor
open Go.RowKit Pl Ad
set_option maxRecDepth 100000
set_option maxHeartbeats 4000000
set_option linter.unusedVariables false
set_option linter.unusedSimpArgs false
namespace Dg
open Kr
theorem dsum_any (a : Option Addr) (c : Nat) (m : Bs) (w : World) (h : SrcAt w (.slice a m.length c) m.length (bvals m)) (hc : ConstAt w) (hm : m.length ≤ 1073741824) :
 Calls Tryz.prog 62 #[.slice a m.length c] w fun e w' => ∃ ua uc, e = .returned (.slice ua 32 uc) ∧ OwnWin w' w.heap.size 5 1 (.slice ua 32 uc) 32 (bvals (sumM mixM m)) ∧ Below w.heap.size w w' := by
 have hg := hc.lt
 have hb0 := (Below.refl w.heap.size w).alloc (Nat.le_refl _) (.cells (hashC initS (.slice none 0 0) 0) 157)
 have HB0 := Lib.hid hb0
 have HC0 := Lib.hid (hc.below hb0)
 have HS := Lib.hid (show ∀ x, SrcAt ((w.alloc (.cells (hashC initS (.slice none 0 0) 0) 157)).setCell ⟨w.heap.size, 9, none⟩ x) (.slice a m.length c) m.length (bvals m) from fun x => h.older (hb0.setCell (p := ⟨w.heap.size, 9, none⟩) (Nat.le_refl _) x))
 have HSUM := Lib.hid (show outM (runL mixM (runL mixM initS ([] ++ m)).1 ((runL mixM initS ([] ++ m)).2 ++ tailM (0 + m.length))).1 = sumM mixM m by
  rw [List.nil_append, Nat.zero_add, ← runL_append _ _ _ _ (Nat.le_refl _)]; rfl)
 have HLEN := Lib.hid (show (runL mixM initS ([] ++ m)).2.length = (0 + m.length) % 64 by rw [List.nil_append, Nat.zero_add]; exact runL_rest _ _ _ (Nat.le_refl _))
 clear h hc hb0
 go_enter Tryz.func62, Tryz.ntmps62
 go_wp2_with (first
  | (go_at_call 59; refine (hashNew_any _).mono ?_; rintro e w1 ⟨rfl, rfl⟩)
  | (go_at_call 60; refine (write_any w.heap.size w.heap.size initS (.slice none 0 0) (.slice a m.length c) [] m 0 _ (hashAt_new w) HB0.out.size hg HS.out ⟨a, c, rfl⟩ HC0.out (by simp) hm (by omega)).mono ?_; rintro e w2 ⟨rfl, v2, hh2, hb2⟩; have HH2 := Lib.hid hh2; have HB2 := Lib.hid (HB0.out.trans hb2); have HC2 := Lib.hid (HC0.out.belowB hb2 hg); clear hh2 hb2)
  | (go_at_call 63; refine (hsum_any w.heap.size w.heap.size _ v2 _ (0 + m.length) _ HH2.out HC2.out HLEN.out (by omega)).mono ?_; rw [HSUM.out]; rintro e w3 ⟨ua, uc, rfl, hu3, hb3⟩))
 go_ret
 exact ⟨ua, uc, rfl, hu3.mono (fun k hk => by have := (hu3.lt k hk).1; have := HB2.out.size; omega), HB2.out.trans (hb3.mono HB2.out.size)⟩
/-- The first k bytes are changed. -/
def xorK (p : Bs) (x : UInt8) (k : Nat) : Bs := (p.map (· ^^^ x)).take k ++ p.drop k
theorem xorK_len (p : Bs) (x : UInt8) (k : Nat) (h : k ≤ p.length) : (xorK p x k).length = p.length := by
 unfold xorK; rw [List.length_append, List.length_take, List.length_map, List.length_drop]; omega
theorem xorK_at (p : Bs) (x : UInt8) {k : Nat} (h : k < p.length) : (xorK p x k)[k]? = some p[k] := by
 unfold xorK
 rw [List.getElem?_append_right (by rw [List.length_take, List.length_map]; omega), List.length_take, List.length_map, show k - min k p.length = 0 by omega, List.getElem?_drop, Nat.add_zero, List.getElem?_eq_getElem h]
theorem xorK_set (p : Bs) (x : UInt8) {k : Nat} (h : k < p.length) : (xorK p x k).set k (p[k] ^^^ x) = xorK p x (k + 1) := by
 unfold xorK
 have hl : ((p.map (· ^^^ x)).take k).length = k := by rw [List.length_take, List.length_map]; omega
 rw [List.set_append_right _ _ (by omega), hl, Nat.sub_self, List.drop_eq_getElem_cons h, List.set_cons_zero, take_snoc (show k < (p.map (· ^^^ x)).length by rw [List.length_map]; exact h)]
 simp
theorem xorK_all (p : Bs) (x : UInt8) : xorK p x p.length = p.map (· ^^^ x) := by unfold xorK; rw [List.take_of_length_le (by simp), List.drop_length, List.append_nil]
theorem xorI (x : UInt8) (hx : x = 54 ∨ x = 92) (b : UInt8) : bits .xor .u8 (b.toNat : Int) (x.toNat : Int) = ((b ^^^ x).toNat : Int) := by
 have h1 : ∀ d : Fin 256, bits .xor .u8 (d.val : Int) 54 = ((UInt8.ofNat d.val ^^^ 54).toNat : Int) := by decide +kernel
 have h2 : ∀ d : Fin 256, bits .xor .u8 (d.val : Int) 92 = ((UInt8.ofNat d.val ^^^ 92).toNat : Int) := by decide +kernel
 rcases hx with rfl | rfl
 ·have := h1 ⟨b.toNat, b.toNat_lt⟩
  simpa using this
 ·have := h2 ⟨b.toNat, b.toNat_lt⟩
  simpa using this
theorem srcPos {w : World} {a : Option Addr} {n c : Nat} {xs : List Value} (h : SrcAt w (.slice a n c) n xs) (hp : 0 < xs.length) : ∃ ad, a = some ad ∧ ∀ j v, xs[j]? = some v → w.cell? (ad.add j) = some v := by
 rcases h with ⟨_, _, rfl⟩ | ⟨ad, c', h1, h2⟩
 ·simp at hp
 ·cases h1
  exact ⟨ad, rfl, h2⟩
theorem splice_pad (k : Bs) (hk : k.length ≤ 64) : splice (bvals (List.replicate 64 0)) 0 (bvals k) = bvals (k ++ List.replicate (64 - k.length) 0) := by
 unfold splice
 rw [List.take_zero, List.nil_append, Nat.zero_add, bvals_len, bvals_drop, bvals_append, List.drop_replicate]
theorem padded_short (a : Option Addr) (c : Nat) (key : Bs) (x : UInt8) (hx : x = 54 ∨ x = 92) (w : World) (h : SrcAt w (.slice a key.length c) key.length (bvals key)) (hc : ConstAt w) (hm : key.length ≤ 1073741824) (hs : key.length ≤ 64) :
 Calls Tryz.prog 61 #[.slice a key.length c, .int .u8 (x.toNat : Int)] w fun e w' => ∃ ua uc, e = .returned (.slice ua 64 uc) ∧ OwnWin w' w.heap.size 5 1 (.slice ua 64 uc) 64 (bvals (padK (keyM mixM key) x)) ∧ Below w.heap.size w w' := by
 have hmk : ∀ w, (Instr.makeSlice 45 (.int .i64 64) (.int .i64 64)).run Tryz.prog w = .ok (.slice (some ⟨w.heap.size, 0, none⟩) 64 64) (w.alloc (.cells (bvals (List.replicate 64 0)).toArray 5)) := fun _ => by kernel_rfl
 have HC := Lib.hid hc
 have HS := Lib.hid h
 have HKEY := Lib.hid (show keyM mixM key = key by unfold keyM; rw [if_neg (by omega)])
 have HKL := Lib.hid hs
 have HN := Lib.hid (show (bvals key).length = Nat.min key.length 64 by rw [bvals_len]; exact (Nat.min_eq_left hs).symm)
 have HF := Lib.hid (show 0 + (bvals key).length ≤ (bvals (List.replicate 64 0)).length by rw [bvals_len, bvals_len, List.length_replicate]; omega)
 have HB := Lib.hid (Below.refl w.heap.size w)
 have hsi : ¬ (64 : Int) < (key.length : Int) := by omega
 clear h hc
 go_enter Tryz.func61, Tryz.ntmps61
 go_wp2_with (first | (have hal := (Below.refl w.heap.size w).alloc (Nat.le_refl _) (.cells (bvals (List.replicate 64 0)).toArray 5); refine wpList_copy_splice rfl _ _ 45 45 rfl 5 Tryz.underlying45 (by kernel_rfl) (some ⟨w.heap.size, 0, none⟩) a 64 64 key.length c rfl rfl w.heap.size 0 (bvals (List.replicate 64 0)) 5 (heap_alloc_new w _) (bvals key) HN.out (fun hp => ⟨rfl, srcPos (HS.out.older hal) hp⟩) HF.out (bvals_one _) w.heap.size w (HB.out.alloc HB.out.size _) HB.out.size ?_; intro w2 hrow hb2; have HR2 := Lib.hid (show Bx w2 w.heap.size 5 (bvals (xorK (key ++ List.replicate (64 - key.length) 0) x 0)).toArray by have h9 := hrow.out; rw [splice_pad key HKL.out] at h9; exact h9); have HB2 := Lib.hid hb2; clear hrow hb2 hal))
 have HBX := Lib.hid (HB.out.size)
 go_wp2_with fail
 obtain ⟨P, hP⟩ : ∃ P, key ++ List.replicate (64 - key.length) 0 = P := ⟨_, rfl⟩
 have hPl : P.length = 64 := by rw [← hP, List.length_append, List.length_replicate]; have := HKL.out; omega
 have HP := Lib.hid (show P.map (· ^^^ x) = padK (keyM mixM key) x by rw [← hP, HKEY.out]; rfl)
 rw [hP] at HR2
 clear hP
 obtain ⟨g, hg9⟩ : ∃ g, w.heap.size = g := ⟨_, rfl⟩
 have HG := Lib.hid (show w.heap.size ≤ g by have := HBX.out; omega)
 rw [hg9] at HR2
 rw [hg9]
 clear hg9
 go_loopg [18, 6] 64 (fun gq iv s6 wr => ∃ k : Nat, iv = .int .i64 k ∧ k ≤ 64 ∧ Hid (64 ≤ gq + k) ∧ Bx wr g 5 (bvals (xorK P x k)).toArray ∧ Below w.heap.size w wr)
 case atStart => exact ⟨0, rfl, Nat.zero_le _, Lib.hid (by omega), HR2.out, HB2.out⟩
 case round =>
  obtain ⟨k, rfl, hk, HQ, hbx, hbel⟩ := hrel
  clear HR2 HB2
  have HX := Lib.hid hbx
  have HB := Lib.hid hbel
  have hz := hbx.lt
  by_cases hlt : k < 64
  ·obtain ⟨y, hy⟩ : ∃ y, P[k]? = some y := ⟨_, List.getElem?_eq_getElem (by omega)⟩
   have hyk : P[k]'(by omega) = y := by rw [List.getElem?_eq_getElem (by omega)] at hy; exact Option.some.inj hy
   have hc0 : wr.cell? ⟨g, k, none⟩ = some (.int .u8 (y.toNat : Int)) := hbx.cell (by have h9 := xorK_at P x (show k < P.length by omega); rw [hyk] at h9; simp [bvals, h9])
   have hf := hbx.frz k
   have HV := Lib.hid (xorI x hx y)
   have HST := Lib.hid (show (bvals (xorK P x k)).toArray.setIfInBounds k (.int .u8 ((y ^^^ x).toNat : Int)) = (bvals (xorK P x (k + 1))).toArray by rw [bvals_set, ← hyk, xorK_set P x (by omega)])
   have hk0 : (0 : Int) ≤ (k : Int) := by omega
   have hk1 : (k : Int) < 64 := by omega
   clear hbx hbel hy hyk
   go_wp2_with fail
   go_roundg (gk - 1)
   case rel =>
    refine ⟨k + 1, by go_num, by omega, Lib.hid (by have := HQ.out; omega), ?_, HB.out.setCell (p := ⟨g, k, none⟩) HG.out _⟩
    rw [HV.out, ← HST.out]
    exact HX.out.set k _
   case measure => have := HQ.out; omega
  ·obtain rfl : k = 64 := by omega
   have HOWN := Lib.hid (show OwnWin wr w.heap.size 5 1 (.slice (some ⟨g, 0, none⟩) 64 64) 64 (bvals (padK (keyM mixM key) x)) from by
    have h9 : xorK P x 64 = padK (keyM mixM key) x := by rw [← HP.out, ← xorK_all, hPl]
    rw [← h9]
    have hl : (bvals (xorK P x 64)).length = 64 := by rw [bvals_len, xorK_len P x 64 (by omega), hPl]
    exact ⟨by rw [hl], .inr ⟨g, 0, 64, _, rfl, HG.out, HX.out, Nat.le_refl _, by unfold maxLen; omega, by simp [hl], by rw [List.drop_zero, Nat.mul_one, List.take_of_length_le (by simp [hl])]⟩⟩)
   clear hbx hbel
   go_wp2_with fail
   go_ret
   exact ⟨_, _, rfl, HOWN.out, HB.out⟩
theorem padded_long (a : Option Addr) (c : Nat) (key : Bs) (x : UInt8) (hx : x = 54 ∨ x = 92) (w : World) (h : SrcAt w (.slice a key.length c) key.length (bvals key)) (hc : ConstAt w) (hm : key.length ≤ 1073741824) (hs : 64 < key.length) :
 Calls Tryz.prog 61 #[.slice a key.length c, .int .u8 (x.toNat : Int)] w fun e w' => ∃ ua uc, e = .returned (.slice ua 64 uc) ∧ OwnWin w' w.heap.size 5 1 (.slice ua 64 uc) 64 (bvals (padK (keyM mixM key) x)) ∧ Below w.heap.size w w' := by
 have hmk : ∀ w, (Instr.makeSlice 45 (.int .i64 64) (.int .i64 64)).run Tryz.prog w = .ok (.slice (some ⟨w.heap.size, 0, none⟩) 64 64) (w.alloc (.cells (bvals (List.replicate 64 0)).toArray 5)) := fun _ => by kernel_rfl
 have HC := Lib.hid hc
 have HS := Lib.hid h
 have HKEY := Lib.hid (show keyM mixM key = sumM mixM key by unfold keyM; rw [if_pos hs])
 have HKL := Lib.hid (show (sumM mixM key).length ≤ 64 by rw [sumM_len]; omega)
 have HN := Lib.hid (show (bvals (sumM mixM key)).length = Nat.min (sumM mixM key).length 64 by rw [bvals_len]; exact (Nat.min_eq_left HKL.out).symm)
 have HF := Lib.hid (show 0 + (bvals (sumM mixM key)).length ≤ (bvals (List.replicate 64 0)).length by rw [bvals_len, bvals_len, List.length_replicate]; have := HKL.out; omega)
 have hsi : (64 : Int) < (key.length : Int) := by omega
 clear h hc
 go_enter Tryz.func61, Tryz.ntmps61
 go_wp2_with (first | (go_at_call 62; refine (dsum_any a c key _ HS.out HC.out hm).mono ?_; rintro e w1 ⟨ka, kc, rfl, hu1, hb1⟩; have HU1 := Lib.hid (SrcAt.of hu1); have HB1 := Lib.hid hb1; clear hu1 hb1) | (have hal := (Below.refl w1.heap.size w1).alloc (Nat.le_refl _) (.cells (bvals (List.replicate 64 0)).toArray 5); refine wpList_copy_splice rfl _ _ 45 45 rfl 5 Tryz.underlying45 (by kernel_rfl) (some ⟨w1.heap.size, 0, none⟩) ka 64 64 (sumM mixM key).length kc rfl rfl w1.heap.size 0 (bvals (List.replicate 64 0)) 5 (heap_alloc_new w1 _) (bvals (sumM mixM key)) HN.out (fun hp => ⟨rfl, srcPos (HU1.out.older hal) hp⟩) HF.out (bvals_one _) w.heap.size w (HB1.out.alloc HB1.out.size _) HB1.out.size ?_; intro w2 hrow hb2; have HR2 := Lib.hid (show Bx w2 w1.heap.size 5 (bvals (xorK ((sumM mixM key) ++ List.replicate (64 - (sumM mixM key).length) 0) x 0)).toArray by have h9 := hrow.out; rw [splice_pad (sumM mixM key) HKL.out] at h9; exact h9); have HB2 := Lib.hid hb2; clear hrow hb2 hal))
 have HBX := Lib.hid (HB1.out.size)
 go_wp2_with fail
 obtain ⟨P, hP⟩ : ∃ P, (sumM mixM key) ++ List.replicate (64 - (sumM mixM key).length) 0 = P := ⟨_, rfl⟩
 have hPl : P.length = 64 := by rw [← hP, List.length_append, List.length_replicate]; have := HKL.out; omega
 have HP := Lib.hid (show P.map (· ^^^ x) = padK (keyM mixM key) x by rw [← hP, HKEY.out]; rfl)
 rw [hP] at HR2
 clear hP
 obtain ⟨g, hg9⟩ : ∃ g, w1.heap.size = g := ⟨_, rfl⟩
 have HG := Lib.hid (show w.heap.size ≤ g by have := HBX.out; omega)
 rw [hg9] at HR2
 rw [hg9]
 clear hg9
 go_loopg [18, 6] 64 (fun gq iv s6 wr => ∃ k : Nat, iv = .int .i64 k ∧ k ≤ 64 ∧ Hid (64 ≤ gq + k) ∧ Bx wr g 5 (bvals (xorK P x k)).toArray ∧ Below w.heap.size w wr)
 case atStart => exact ⟨0, rfl, Nat.zero_le _, Lib.hid (by omega), HR2.out, HB2.out⟩
 case round =>
  obtain ⟨k, rfl, hk, HQ, hbx, hbel⟩ := hrel
  clear HR2 HB2
  have HX := Lib.hid hbx
  have HB := Lib.hid hbel
  have hz := hbx.lt
  by_cases hlt : k < 64
  ·obtain ⟨y, hy⟩ : ∃ y, P[k]? = some y := ⟨_, List.getElem?_eq_getElem (by omega)⟩
   have hyk : P[k]'(by omega) = y := by rw [List.getElem?_eq_getElem (by omega)] at hy; exact Option.some.inj hy
   have hc0 : wr.cell? ⟨g, k, none⟩ = some (.int .u8 (y.toNat : Int)) := hbx.cell (by have h9 := xorK_at P x (show k < P.length by omega); rw [hyk] at h9; simp [bvals, h9])
   have hf := hbx.frz k
   have HV := Lib.hid (xorI x hx y)
   have HST := Lib.hid (show (bvals (xorK P x k)).toArray.setIfInBounds k (.int .u8 ((y ^^^ x).toNat : Int)) = (bvals (xorK P x (k + 1))).toArray by rw [bvals_set, ← hyk, xorK_set P x (by omega)])
   have hk0 : (0 : Int) ≤ (k : Int) := by omega
   have hk1 : (k : Int) < 64 := by omega
   clear hbx hbel hy hyk
   go_wp2_with fail
   go_roundg (gk - 1)
   case rel =>
    refine ⟨k + 1, by go_num, by omega, Lib.hid (by have := HQ.out; omega), ?_, HB.out.setCell (p := ⟨g, k, none⟩) HG.out _⟩
    rw [HV.out, ← HST.out]
    exact HX.out.set k _
   case measure => have := HQ.out; omega
  ·obtain rfl : k = 64 := by omega
   have HOWN := Lib.hid (show OwnWin wr w.heap.size 5 1 (.slice (some ⟨g, 0, none⟩) 64 64) 64 (bvals (padK (keyM mixM key) x)) from by
    have h9 : xorK P x 64 = padK (keyM mixM key) x := by rw [← HP.out, ← xorK_all, hPl]
    rw [← h9]
    have hl : (bvals (xorK P x 64)).length = 64 := by rw [bvals_len, xorK_len P x 64 (by omega), hPl]
    exact ⟨by rw [hl], .inr ⟨g, 0, 64, _, rfl, HG.out, HX.out, Nat.le_refl _, by unfold maxLen; omega, by simp [hl], by rw [List.drop_zero, Nat.mul_one, List.take_of_length_le (by simp [hl])]⟩⟩)
   clear hbx hbel
   go_wp2_with fail
   go_ret
   exact ⟨_, _, rfl, HOWN.out, HB.out⟩
theorem padded_any (a : Option Addr) (c : Nat) (key : Bs) (x : UInt8) (hx : x = 54 ∨ x = 92) (w : World) (h : SrcAt w (.slice a key.length c) key.length (bvals key)) (hc : ConstAt w) (hm : key.length ≤ 1073741824) :
 Calls Tryz.prog 61 #[.slice a key.length c, .int .u8 (x.toNat : Int)] w fun e w' => ∃ ua uc, e = .returned (.slice ua 64 uc) ∧ OwnWin w' w.heap.size 5 1 (.slice ua 64 uc) 64 (bvals (padK (keyM mixM key) x)) ∧ Below w.heap.size w w' := by
 by_cases hs : key.length ≤ 64
 ·exact padded_short a c key x hx w h hc hm hs
 ·exact padded_long a c key x hx w h hc hm (by omega)
end Dg
end Go.Proofs.YtpkhbhdidkkebaaGreatDoor
end

