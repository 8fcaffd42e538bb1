/- Contracts: the reference of the keyring: find, valid, Valid, Signing. Conditions: at most a million keys. -/
import Derived.Test.YtbpbopjlcidefaaDoorKeyQ
import Derived.Test.YtbpbopjlcidefaaDoorKeyJ
namespace Go.Proofs.YtbpbopjlcidefaaDoor
open Go.RowKit Pl Ad
attribute [local go_sem] ba_get ba_append ba_extract_end ba_extract_zero ba_extract
set_option maxRecDepth 100000
set_option maxHeartbeats 4000000
set_option linter.unusedVariables false
set_option linter.unusedSimpArgs false
namespace Kr
theorem flatK_get {α : Type} {F : α → List Value} {k : Nat} (hF : ∀ x, (F x).length = k) (hk : 0 < k) : ∀ (xs : List α) (j : Nat), (xs.flatMap F)[j]? = (xs[j / k]?).bind fun x => (F x)[j % k]?
  | [], j => by simp
  | x :: r, j => by
    rw [List.flatMap_cons]
    by_cases h : j < k
    · rw [List.getElem?_append_left (by rw [hF]; exact h), Nat.div_eq_of_lt h, Nat.mod_eq_of_lt h]; rfl
    · obtain ⟨m, rfl⟩ : ∃ m, j = m + k := ⟨j - k, by omega⟩
      rw [List.getElem?_append_right (by rw [hF]; omega), hF, Nat.add_sub_cancel, flatK_get hF hk r m, Nat.add_div_right m hk, Nat.add_mod_right]
      rfl
theorem flatK_at {α : Type} {F : α → List Value} {k : Nat} (hF : ∀ x, (F x).length = k) {xs : List α} {i j : Nat} {x : α} {u : Value} (hx : xs[i]? = some x) (hu : (F x)[j]? = some u) : (xs.flatMap F)[i * k + j]? = some u := by
  have hj : j < k := by rw [← hF x]; exact (List.getElem?_eq_some_iff.1 hu).1
  rw [flatK_get hF (by omega), show i * k + j = j + k * i by rw [Nat.mul_comm]; omega, Nat.add_mul_div_left _ _ (by omega), Nat.div_eq_of_lt hj, Nat.add_mul_mod_self_left, Nat.mod_eq_of_lt hj, Nat.zero_add, hx]
  exact hu
theorem flatK_len {α : Type} {F : α → List Value} {k : Nat} (hF : ∀ x, (F x).length = k) : ∀ xs : List α, (xs.flatMap F).length = xs.length * k
  | [] => by simp
  | x :: r => by rw [List.flatMap_cons, List.length_append, hF, flatK_len hF r, List.length_cons, Nat.add_mul]; omega
def kcells (e : Int × KeyM) : List Value := [.int .i64 e.1, .string ⟨e.2.id.toArray⟩, .string ⟨e.2.sec.toArray⟩, .int .i64 e.2.frm, .int .i64 e.2.til, .int .i64 e.2.rev]
theorem kcells_len (e : Int × KeyM) : (kcells e).length = 6 := rfl
def kvals (ml : KL) : List Value := ml.flatMap kcells
theorem kvals_len (ml : KL) : (kvals ml).length = ml.length * 6 := flatK_len kcells_len ml
theorem kvals_one (ml : KL) : ∀ u ∈ kvals ml, u.oneCell' = true := by
  intro u hu
  obtain ⟨e, _, h⟩ := List.mem_flatMap.1 hu
  simp only [kcells, List.mem_cons, List.not_mem_nil, or_false] at h
  rcases h with rfl | rfl | rfl | rfl | rfl | rfl <;> rfl
theorem kvals_snoc (ml : KL) (e : Int × KeyM) : kvals ml ++ kcells e = kvals (ml ++ [e]) := by simp [kvals]
@[reducible] def rkeyV (t : Int) (k : KeyM) : Value := .agg #[.int .i64 t, .string ⟨k.id.toArray⟩, .string ⟨k.sec.toArray⟩, .int .i64 k.frm, .int .i64 k.til, .int .i64 k.rev]
/-- The reference's list of keys. -/
def RefAt (w : World) (B : Nat) (v : Value) (ml : KL) : Prop := OwnWin w B 52 6 v ml.length (kvals ml)
/-- An element's cells. -/
structure RowK (w : World) (b p : Nat) (e : Int × KeyM) : Prop where
  c0 : w.cell? ⟨b, p, none⟩ = some (.int .i64 e.1)
  c1 : w.cell? ⟨b, p + 1, none⟩ = some (.string ⟨e.2.id.toArray⟩)
  c2 : w.cell? ⟨b, p + 2, none⟩ = some (.string ⟨e.2.sec.toArray⟩)
  c3 : w.cell? ⟨b, p + 3, none⟩ = some (.int .i64 e.2.frm)
  c4 : w.cell? ⟨b, p + 4, none⟩ = some (.int .i64 e.2.til)
  c5 : w.cell? ⟨b, p + 5, none⟩ = some (.int .i64 e.2.rev)
theorem RowK.older {w w' : World} {b p : Nat} {e : Int × KeyM} (h : RowK w b p e) (hb : Below w.heap.size w w') : RowK w' b p e :=
  ⟨keepC hb h.c0, keepC hb h.c1, keepC hb h.c2, keepC hb h.c3, keepC hb h.c4, keepC hb h.c5⟩
theorem RefAt.older {w w' : World} {B : Nat} {v : Value} {ml : KL} (h : RefAt w B v ml) (hb : Below w.heap.size w w') : RefAt w' B v ml := OwnWin.older h hb
theorem RefAt.slot {w : World} {B : Nat} {v : Value} {ml : KL} (h : RefAt w B v ml) : ∃ a c, v = .slice a ml.length c ∧ ∀ k e, ml[k]? = some e → ∃ b o, a = some ⟨b, o, none⟩ ∧ ml.length ≤ c ∧ b < w.heap.size ∧ RowK w b (o + k * 6) e := by
  obtain ⟨a, c, hv, hc⟩ := OwnWin.form h
  refine ⟨a, c, hv, fun k e he => ?_⟩
  have hk := (List.getElem?_eq_some_iff.1 he).1
  obtain ⟨b, o, c', e', h1, _, _, h4, h5⟩ := OwnWin.cells h (by omega)
  rw [hv] at e'
  cases e'
  have g : ∀ j u, (kcells e)[j]? = some u → w.cell? ⟨b, o + k * 6 + j, none⟩ = some u := fun j u hu => by
    rw [Nat.add_assoc]; exact h5 _ u (flatK_at kcells_len he hu)
  exact ⟨b, o, rfl, h1, h4, g 0 _ rfl, g 1 _ rfl, g 2 _ rfl, g 3 _ rfl, g 4 _ rfl, g 5 _ rfl⟩
def idxV : Option Nat → Value
  | none => .int .i64 (-1)
  | some i => .int .i64 (i : Int)
theorem findR_hit {ml : KL} {k : Nat} {t : Int} {id : Bs} {e : Int × KeyM} (he : ml[k]? = some e) (h : findR ml t id = (findR (ml.drop k) t id).map (· + k)) (hm : (e.1 == t && e.2.id == id) = true) : findR ml t id = some k := by
  obtain ⟨hk, hx⟩ := List.getElem?_eq_some_iff.1 he
  rw [h, drop_cons hk, hx]
  unfold findR
  rw [List.findIdx?_cons, hm]
  simp
theorem findR_miss {ml : KL} {k : Nat} {t : Int} {id : Bs} {e : Int × KeyM} (he : ml[k]? = some e) (h : findR ml t id = (findR (ml.drop k) t id).map (· + k)) (hm : (e.1 == t && e.2.id == id) = false) : findR ml t id = (findR (ml.drop (k + 1)) t id).map (· + (k + 1)) := by
  obtain ⟨hk, hx⟩ := List.getElem?_eq_some_iff.1 he
  rw [h, drop_cons hk, hx]
  unfold findR
  rw [List.findIdx?_cons, hm]
  simp only [Bool.false_eq_true, if_false, Option.map_map]
  congr 1
  funext x
  simp only [Function.comp]
  omega
theorem findR_end {ml : KL} {k : Nat} {t : Int} {id : Bs} (hk : ¬ k < ml.length) (h : findR ml t id = (findR (ml.drop k) t id).map (· + k)) : findR ml t id = none := by
  rw [h, List.drop_of_length_le (by omega)]; rfl
theorem refFind_any (B : Nat) (v : Value) (ml : KL) (t : Int) (id : Bs) (w : World) (h : RefAt w B v ml) (hl : ml.length ≤ 1000000) :
    Calls Tryd.prog 32 #[v, .int .i64 t, .string ⟨id.toArray⟩] w fun e w' => e = .returned (idxV (findR ml t id)) ∧ w = w' := by
  obtain ⟨a, c, rfl, hk⟩ := h.slot
  have HK := Lib.hid hk
  clear h hk
  go_enter Tryd.func32, Tryd.ntmps32
  go_wp2
  go_loop [10] (fun i => ∃ k : Nat, k ≤ ml.length ∧ i = .int .i64 k ∧ Hid (findR ml t id = (findR (ml.drop k) t id).map (· + k))) (fun i => ml.length - (intOf i).toNat)
  case atStart => exact ⟨0, Nat.zero_le _, rfl, Lib.hid (by simp)⟩
  case round =>
    obtain ⟨k, hk, rfl, H⟩ := hrel
    by_cases hlt : k < ml.length
    · obtain ⟨e, he⟩ : ∃ e, ml[k]? = some e := ⟨_, List.getElem?_eq_getElem hlt⟩
      obtain ⟨b, o, rfl, hc, hb, hrow⟩ := HK.out k e he
      have HF1 := Lib.hid (findR_hit he H.out)
      have HF2 := Lib.hid (findR_miss he H.out)
      have c0 := hrow.c0
      have c1 := hrow.c1
      clear he hrow
      obtain ⟨s, key⟩ := e
      simp only at c0 c1 HF1 HF2
      cases h1 : (s == t) with
      | false =>
        have HF := Lib.hid (HF2.out (by rw [h1]; rfl))
        go_wp2
        go_round
        case rel => exact ⟨k + 1, by omega, by go_num, Lib.hid HF.out⟩
        case measure => simp [intOf]; omega
      | true =>
        cases h2 : (key.id == id) with
        | true =>
          have HF := Lib.hid (HF1.out (by rw [h1, h2]; rfl))
          go_wp2
          go_ret
          exact ⟨by rw [HF.out]; rfl, rfl⟩
        | false =>
          have HF := Lib.hid (HF2.out (by rw [h1, h2]; rfl))
          go_wp2
          go_round
          case rel => exact ⟨k + 1, by omega, by go_num, Lib.hid HF.out⟩
          case measure => simp [intOf]; omega
    · have HF := Lib.hid (findR_end hlt H.out)
      go_wp2
      go_ret
      exact ⟨by rw [HF.out]; rfl, rfl⟩
theorem refvalid_any (t n : Int) (k : KeyM) (w : World) :
    Calls Tryd.prog 43 #[rkeyV t k, .int .i64 n] w fun r w' => r = .returned (.bool (k.at n)) ∧ Below w.heap.size w w' := by
  obtain ⟨id, sec, frm, til, rev⟩ := k
  have HV := Lib.hid (show KeyM.at ⟨id, sec, frm, til, rev⟩ n = (decide (frm ≤ n) && decide (n < til) && decide (n < rev)) from rfl)
  go_enter Tryd.func43, Tryd.ntmps43
  go_wp2
  all_goals
    go_ret
    exact ⟨ret_bool (by rw [HV.out, Bool.eq_iff_iff]; simp [*]; try omega), (Below.refl _ _).alloc (Nat.le_refl _) _⟩
def validR (ml : KL) (t : Int) (id : Bs) (n : Int) : Bool := match findR ml t id with
  | none => false
  | some i => match ml[i]? with
    | none => false
    | some e => e.2.at n
theorem refValid_any (B : Nat) (v : Value) (ml : KL) (t n : Int) (id : Bs) (w : World) (h : RefAt w B v ml) (hl : ml.length ≤ 1000000) :
    Calls Tryd.prog 38 #[v, .int .i64 t, .string ⟨id.toArray⟩, .int .i64 n] w fun e w' => e = .returned (.bool (validR ml t id n)) ∧ Below w.heap.size w w' := by
  have HR := Lib.hid h
  obtain ⟨a, c, rfl, hk⟩ := h.slot
  obtain ⟨o, ho⟩ : ∃ o, findR ml t id = o := ⟨_, rfl⟩
  have HO := Lib.hid ho
  cases o with
  | none =>
    have HV := Lib.hid (show validR ml t id n = false by unfold validR; rw [ho])
    have HI := Lib.hid (show idxV (findR ml t id) = .int .i64 (-1) by rw [ho]; rfl)
    clear ho h hk
    go_enter Tryd.func38, Tryd.ntmps38
    go_wp2_with (go_at_call 32; refine (refFind_any B _ ml t id _ HR.out hl).mono ?_; rw [HI.out]; rintro e w' ⟨rfl, rfl⟩)
    go_ret
    exact ⟨ret_bool HV.out.symm, Below.refl _ _⟩
  | some i =>
    obtain ⟨key, h1, _⟩ := findR_some ho
    have hi := (List.getElem?_eq_some_iff.1 h1).1
    have HV := Lib.hid (show validR ml t id n = key.at n by unfold validR; rw [ho]; simp only [h1])
    have HI := Lib.hid (show idxV (findR ml t id) = .int .i64 i by rw [ho]; rfl)
    obtain ⟨b, o, rfl, hc, hb, ⟨c0, c1, c2, c3, c4, c5⟩⟩ := hk i _ h1
    simp only at c0 c1 c2 c3 c4 c5
    clear ho h hk h1
    go_enter Tryd.func38, Tryd.ntmps38
    go_wp2_with (first | (go_at_call 32; refine (refFind_any B _ ml t id _ HR.out hl).mono ?_; rw [HI.out]; rintro e w' ⟨rfl, rfl⟩) | (go_at_call 43; refine (refvalid_any t n key _).mono ?_; rintro e w9 ⟨rfl, hb9⟩))
    go_ret
    exact ⟨ret_bool HV.out.symm, hb9⟩
end Kr
end Go.Proofs.YtbpbopjlcidefaaDoor
