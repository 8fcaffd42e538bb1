/- Contract: purge.Format. Conditions: texts of at most 2^27 bytes; the variable words as the program's text lays it. Contracts: what the laws over package purge call: small, Of, fits, Item, awake, Num of an error of Check. Conditions: at most 2^40 tags. -/
import Derived.Test.YtnppicekfjdefaaGreatDoorPurg4
import Derived.Test.YtnppicekfjdefaaGreatDoorSlib
import Derived.BigQuiet
import Derived.Lib.ItoaNum
import Derived.Test.YtnppicekfjdefaaGreatDoorPurg5
import Derived.Deep.RegionHeld3
section
namespace Go.Proofs.YtnppicekfjdefaaGreatDoor
open Go.RowKit Pl Ad
attribute [local go_sem] ba_get ba_append ba_extract_end ba_extract_zero ba_extract
set_option maxRecDepth 100000
set_option maxHeartbeats 4000000
set_option linter.unusedVariables false
namespace A1

theorem decOf_eq (n : Nat) (h : n < 16) : Lib.decDigits n = decOf (n : Int) := by
  have g : ∀ m : Fin 16, Lib.decDigits m.val = decOf (m.val : Int) := by decide +kernel
  exact g ⟨n, h⟩
theorem decOf_len (t : Int) : (decOf t).length ≤ 2 := by unfold decOf; split <;> simp
end A1
end Go.Proofs.YtnppicekfjdefaaGreatDoor
end

section
namespace Go.Proofs.YtnppicekfjdefaaGreatDoor
open Go.RowKit Pl Ad
attribute [local go_sem] ba_get ba_append ba_extract_end ba_extract_zero ba_extract
set_option maxRecDepth 100000
set_option maxHeartbeats 4000000
set_option linter.unusedVariables false
namespace A1

theorem of36_any (p : Pg) (w : World) : Calls Tryz.prog 43 #[pgV p] w fun e w' => e = .returned (pgV p) ∧ Below w.heap.size w w' := by
  obtain ⟨k, t, v⟩ := p
  go_enter Tryz.func43, Tryz.ntmps43
  go_wp2
  refine bodyPost_ret (v := pgV ⟨k, t, v⟩) (by simp [results, Tryz.results43, go_sem]) rfl ⟨rfl, ?_⟩
  exact ((Below.refl _ _).alloc (Nat.le_refl _) _).alloc (by simp) _

theorem num_chk (p : Pg) (w : World) : Calls Tryz.prog 14 #[chkV p] w fun e w' => e = .returned (.int .i64 (checkN p)) ∧ w = w' := by
  by_cases h : checkN p = 0
  · rw [chkV_ok h, h]; exact num_nil w
  · rw [chkV_err rfl h]; exact num_err _ w

def exValue : Bs := [101, 120, 97, 109, 112, 108, 101, 46, 99, 111, 109, 47, 97]
theorem ex_check : checkN ⟨1, 3, exValue⟩ = 0 := by rfl
theorem StrsV.src {w : World} {v : Value} {xs : List Bs} (h : StrsV w v xs) : SrcAt w v xs.length (svals xs) := by
  rcases h with ⟨rfl, rfl | ⟨a, c, rfl⟩⟩ | ⟨b, o, c, rfl, _, _, hc⟩
  · exact .inl ⟨rfl, rfl, rfl⟩
  · exact .inr ⟨_, _, rfl, fun j x hx => by simp [svals] at hx⟩
  · refine .inr ⟨_, _, rfl, fun j x hx => ?_⟩
    obtain ⟨y, hy, rfl⟩ : ∃ y, xs[j]? = some y ∧ str y = x := by simpa [svals] using hx
    rw [Addr.add_lit]
    exact hc j y hy
theorem ownWin_empty {w : World} {g B : Nat} {e : TypeId} (h : w.heap[g]? = some (.cells #[] e (0, 0))) (hB : B ≤ g) : OwnWin w B e 1 (.slice (some ⟨g, 0, none⟩) 0 0) 0 [] :=
  ⟨rfl, .inr ⟨g, 0, 0, #[], rfl, hB, h, Nat.le_refl _, Nat.zero_le _, by simp, by simp⟩⟩

theorem own_set3 {w : World} {B R n : Nat} {e : TypeId} {size : Nat} {v : Value} {xs : List Value} (h : OwnWin w B e size v n xs) (hR : R < B) (a b c : Value) : OwnWin (((w.setCell ⟨R, 0, none⟩ a).setCell ⟨R, 1, none⟩ b).setCell ⟨R, 2, none⟩ c) B e size v n xs :=
  h.touch (S := fun k => k = R) ((((Touch.refl (fun k => k = R) w).setCell (a := ⟨R, 0, none⟩) rfl a).setCell (a := ⟨R, 1, none⟩) rfl b).setCell (a := ⟨R, 2, none⟩) rfl c) fun k hk hs => by have := (h.lt k hk).1; omega
theorem below_set3 {w W : World} {B R : Nat} (h : Below B W w) (hR : B ≤ R) (a b c : Value) : Below B W (((w.setCell ⟨R, 0, none⟩ a).setCell ⟨R, 1, none⟩ b).setCell ⟨R, 2, none⟩ c) :=
  ((h.setCell (p := ⟨R, 0, none⟩) hR a).setCell (p := ⟨R, 1, none⟩) hR b).setCell (p := ⟨R, 2, none⟩) hR c
theorem strsV_zero {w : World} {B : Nat} {v : Value} {xs : List Bs} (h : OwnWin w B 9 1 v (0 + xs.length) ([] ++ svals xs)) : StrsV w v xs := strsV_own (by rw [Nat.zero_add, List.nil_append] at h; exact h)

theorem Box3.all {w : World} {R T : Nat} {v0 v1 v2 : Value} (h : Box3 w R T v0 v1 v2) : w.cell? ⟨R, 0, none⟩ = some v0 ∧ w.cell? ⟨R, 1, none⟩ = some v1 ∧ w.cell? ⟨R, 2, none⟩ = some v2 ∧ Box3 w R T v0 v1 v2 := ⟨h.facts.1.1, h.facts.1.2.1, h.facts.1.2.2, h⟩
theorem Box3.setOther {w : World} {R R' T : Nat} {v0 v1 v2 : Value} (h : Box3 w R T v0 v1 v2) (hne : R < R') (a b c : Value) : Box3 (((w.setCell ⟨R', 0, none⟩ a).setCell ⟨R', 1, none⟩ b).setCell ⟨R', 2, none⟩ c) R T v0 v1 v2 :=
  h.below (B := R') ((((Below.refl R' w).setCell (p := ⟨R', 0, none⟩) (Nat.le_refl _) a).setCell (p := ⟨R', 1, none⟩) (Nat.le_refl _) b).setCell (p := ⟨R', 2, none⟩) (Nat.le_refl _) c) hne

theorem own_zero {w : World} {B : Nat} {v : Value} {xs : List Bs} (hB : ∀ k, v.ownBlock = some k → B ≤ k) {C : Nat} (h : OwnWin w C 9 1 v (0 + xs.length) ([] ++ svals xs)) : OwnWin w B 9 1 v xs.length (svals xs) := by
  rw [Nat.zero_add, List.nil_append] at h
  exact h.mono hB
theorem item36_own (t : Int) (a : Bs) (u : Value) (tags : List Bs) (w : World) (hu : StrsV w u tags) (hl : tags.length ≤ 1099511627776) :
    Calls Tryz.prog 13 #[itV t a u] w fun e w' => ∃ v, e = .returned (itV t a v) ∧ OwnWin w' w.heap.size 9 1 v tags.length (svals tags) ∧ Below w.heap.size w w' := by
  have HU := Lib.hid hu
  obtain ⟨ua, uc, rfl⟩ := hu.form
  have hb2 := ((Below.refl w.heap.size w).alloc (Nat.le_refl _) (.cells #[.int .i64 t, .string ⟨a.toArray⟩, .slice ua tags.length uc] 43)).alloc (by simp) (.cells #[.int .i64 0, .string ⟨#[]⟩, .slice none 0 0] 47)
  have hX := ((box3_new w 43 (.int .i64 t) (.string ⟨a.toArray⟩) (.slice ua tags.length uc)).alloc (.cells #[.int .i64 0, .string ⟨#[]⟩, .slice none 0 0] 47)).alloc (.cells #[] 9)
  have hY0 := box3_new (w.alloc (.cells #[.int .i64 t, .string ⟨a.toArray⟩, .slice ua tags.length uc] 43)) 47 (.int .i64 0) (.string ⟨#[]⟩) (.slice none 0 0)
  rw [show (w.alloc (.cells #[.int .i64 t, .string ⟨a.toArray⟩, .slice ua tags.length uc] 43)).heap.size = w.heap.size + 1 by simp] at hY0
  have HX := Lib.hid hX
  have HX0 := Lib.hid ((box3_new w 43 (.int .i64 t) (.string ⟨a.toArray⟩) (.slice ua tags.length uc)).alloc (.cells #[.int .i64 0, .string ⟨#[]⟩, .slice none 0 0] 47))
  have HY := Lib.hid (hY0.alloc (.cells #[] 9))
  have HB := Lib.hid (hb2.alloc (by simp; omega) (.cells #[] 9))
  have he := heap_alloc_new ((w.alloc (.cells #[.int .i64 t, .string ⟨a.toArray⟩, .slice ua tags.length uc] 43)).alloc (.cells #[.int .i64 0, .string ⟨#[]⟩, .slice none 0 0] 47)) (.cells #[] 9)
  rw [show ((w.alloc (.cells #[.int .i64 t, .string ⟨a.toArray⟩, .slice ua tags.length uc] 43)).alloc (.cells #[.int .i64 0, .string ⟨#[]⟩, .slice none 0 0] 47)).heap.size = w.heap.size + 2 by simp] at he
  have HE := Lib.hid he
  clear hu hb2 hX hY0 he
  go_enter Tryz.func13, Tryz.ntmps13
  go_wp2_with fail
  go_region_held3 (fun w' => w'.cell? ⟨w.heap.size, 0, none⟩ = some (.int .i64 t) ∧ w'.cell? ⟨w.heap.size, 1, none⟩ = some (.string ⟨a.toArray⟩) ∧ w'.cell? ⟨w.heap.size, 2, none⟩ = some (.slice ua tags.length uc) ∧ Box3 w' w.heap.size 43 (.int .i64 t) (.string ⟨a.toArray⟩) (.slice ua tags.length uc)) ((refine Box3.all ?_; first | assumption | exact HX.out | exact HX0.out | exact Box3.setOther (by assumption) (by omega) _ _ _))
    ((first | (refine step_appw tyStrs rfl _ _ rfl (w.heap.size + 2) (.slice (some ⟨w.heap.size + 2, 0, none⟩) 0 0) 0 [] rfl (ownWin_empty HE.out (Nat.le_refl _)) (by simp) (.slice ua tags.length uc) tags.length (svals tags) rfl (HU.out.below HB.out).src (by simp [svals]) (svals_one _) (by omega) ?_; intro v' w' hown' hgrow' hlies'; obtain ⟨va, vc, rfl, _⟩ := hown'.form; have hX' : Box3 w' w.heap.size 43 _ _ _ := (hgrow'.block w.heap.size (by simp; omega) (by simp [Value.ownBlock])).trans HX.out; have hY' : Box3 w' (w.heap.size + 1) 47 _ _ _ := (hgrow'.block (w.heap.size + 1) (by simp) (by simp [Value.ownBlock])).trans HY.out; obtain ⟨⟨c0, c1, c2⟩, _, hz⟩ := hX'.facts; obtain ⟨⟨d0, d1, d2⟩, ⟨f0, f1, f2⟩, hzy⟩ := hY'.facts)))
  all_goals
    go_wp2_with fail
    refine bodyPost_ret (v := itV t a (.slice va (0 + tags.length) vc)) (by simp [results, Tryz.results13, go_sem, d0, d1, d2]) rfl ⟨_, rfl, own_zero (fun k hk => by have := (hown'.lt k hk).1; omega) (own_set3 hown' (by omega) _ _ _), below_set3 (HB.out.drew.grown hgrow' (by simp; omega) (fun q hq => by simp [Value.ownBlock] at hq; omega)) (by omega) _ _ _⟩
theorem item36_any (t : Int) (a : Bs) (u : Value) (tags : List Bs) (w : World) (hu : StrsV w u tags) (hl : tags.length ≤ 1099511627776) :
    Calls Tryz.prog 13 #[itV t a u] w fun e w' => ∃ v, e = .returned (itV t a v) ∧ StrsV w' v tags ∧ Below w.heap.size w w' :=
  (item36_own t a u tags w hu hl).mono fun _ _ h => by
    obtain ⟨v, h1, h2, h3⟩ := h
    exact ⟨v, h1, strsV_own h2, h3⟩
end A1
end Go.Proofs.YtnppicekfjdefaaGreatDoor
end
