/- PROVED: PurgelogFirst returns true for every input and leaves its arguments as they were. No condition beyond the statement's own (the listed variables read as the program's text lays them, which the card ties). -/
import Derived.Test.YtijjggbiljkalaaDoorFrame
import Derived.Test.YtijjggbiljkalaaDoorClosed
import Derived.Test.YtijjggbiljkalaaDoorPlogI
import Derived.Test.YtijjggbiljkalaaDoorPlogV
import Derived.Test.YtijjggbiljkalaaDoorOpenQ
namespace Go.Proofs.YtijjggbiljkalaaDoor.lawPurgelogFirst
open Go.ChangeShapes Go.WideShapes Go.ChangeAt Go.RowKit Pl Ad A1
open Go.ChangeMaps (open_string shut_string)
attribute [local go_sem] ba_get conv_one conv_one_drewN ba_append ba_extract
set_option maxRecDepth 100000
set_option maxHeartbeats 4000000
set_option linter.unusedVariables false

attribute [local go_sem] guard_pg eql_pg neq_pg
/-- The log after the first acts' purges (a Shrink counts as an Append here). -/
def feed (n : Nat) (l : List LAct) : LogM := l.foldl (fun L a => L.app a.p) (.start n)
theorem feed_snoc (n : Nat) {l : List LAct} {k : Nat} (hk : k < l.length) : feed n (l.take (k + 1)) = (feed n (l.take k)).app l[k].p := by
  unfold feed
  rw [List.take_succ_eq_append_getElem hk, List.foldl_append]
  rfl
theorem app_len (L : LogM) (p : Pg) : (L.app p).all.length ≤ L.all.length + 1 := by
  unfold LogM.app
  split
  · simp [LogM.push]
  · exact Nat.le_succ _
theorem feed_len (n : Nat) (l : List LAct) : ∀ k, (feed n (l.take k)).all.length ≤ k
  | 0 => by simp [feed, LogM.start]
  | k + 1 => by
    have h := feed_len n l k
    by_cases hk : k < l.length
    · rw [feed_snoc n hk]
      have := app_len (feed n (l.take k)) l[k].p
      omega
    · rw [List.take_of_length_le (by omega)]
      rw [List.take_of_length_le (by omega)] at h
      omega
theorem feed_drop (n : Nat) (l : List LAct) : ∀ k, (feed n (l.take k)).dropped = (feed n (l.take k)).all.length - n ∧ (feed n (l.take k)).win = n
  | 0 => by simp [feed, LogM.start]
  | k + 1 => by
    have h := feed_drop n l k
    by_cases hk : k < l.length
    · rw [feed_snoc n hk]
      unfold LogM.app
      split
      · refine ⟨?_, h.2⟩
        show max (feed n (l.take k)).dropped ((feed n (l.take k)).all.length + 1 - (feed n (l.take k)).win) = ((feed n (l.take k)).all ++ [l[k].p]).length - n
        rw [h.2, h.1, List.length_append]
        simp; omega
      · exact h
    · rw [List.take_of_length_le (by omega)]
      rw [List.take_of_length_le (by omega)] at h
      exact h

theorem hit_spec {x : It} : ∀ {l : List Pg} {k : Nat}, LogM.hit x l = some k → ∃ h : k < l.length, matchB (l[k]'h) x = true ∧ ∀ (j : Nat) (hj : j < k), matchB (l[j]'(by omega)) x = false
  | [], k, h => by cases h
  | p :: r, k, h => by
    rw [LogM.hit] at h
    by_cases hm : matchB p x = true
    · rw [if_pos hm] at h
      cases h
      exact ⟨by simp, hm, fun j hj => by omega⟩
    · rw [if_neg hm] at h
      cases hr : LogM.hit x r with
      | none => rw [hr] at h; cases h
      | some i =>
        rw [hr] at h
        cases h
        obtain ⟨h1, h2, h3⟩ := hit_spec hr
        refine ⟨by simp; omega, by simpa using h2, fun j hj => ?_⟩
        match j with
        | 0 => simpa using hm
        | j + 1 => have := h3 j (Nat.lt_of_succ_lt_succ hj); simpa using this
theorem hit_none {x : It} : ∀ {l : List Pg}, LogM.hit x l = none → ∀ (j : Nat) (hj : j < l.length), matchB (l[j]'hj) x = false
  | [], h, j, hj => by simp at hj
  | p :: r, h, j, hj => by
    rw [LogM.hit] at h
    by_cases hm : matchB p x = true
    · rw [if_pos hm] at h; cases h
    · rw [if_neg hm] at h
      cases hr : LogM.hit x r with
      | some i => rw [hr] at h; cases h
      | none =>
        match j with
        | 0 => simpa using hm
        | j + 1 => have := hit_none hr j (by simpa using hj); simpa using this
/-- An entry above an as-of that is kept. -/
theorem get_since {L : LogM} {n : Int} {j : Nat} (h : L.sinceC n = 0) (hj : j < (L.since n).length) : L.getC (n + 1 + j) = 0 ∧ getP L (n + 1 + j) = (L.since n)[j] := by
  have hp := since_pos (L := L) (n := n) (by omega)
  unfold LogM.sinceC at h
  rw [if_neg (by omega), if_neg (by omega)] at h
  have hd : ¬ n < (L.dropped : Int) := fun hd => by rw [if_pos hd] at h; cases h
  have hs : L.since n = L.all.drop n.toNat := if_neg (by omega)
  have hj2 := hj
  rw [hs, List.length_drop] at hj2
  have hc : L.getC (n + 1 + j) = 0 := by unfold LogM.getC; rw [if_neg (by omega), if_neg (by omega)]
  refine ⟨hc, ?_⟩
  unfold getP
  rw [if_pos hc, List.getD_eq_getElem?_getD, List.getElem?_eq_getElem (by omega)]
  simp only [hs, List.getElem_drop, Option.getD_some]
  congr 1; omega
/-- What the law says of a log, an item, an as-of. -/
structure Told (L : LogM) (x : It) (n e : Int) (f : Bool) : Prop where
  /-- the end of what is looked through -/
  endd : e = if f then L.covN x n else (L.all.length : Int) + 1
  lo : 0 ≤ e
  hi : e ≤ 1000002
  seen : ∀ k : Int, n < k → k < e → L.getC k = 0 ∧ matchB (getP L k) x = false
  again : L.sinceC e = 0
  next : L.covB x e = true → f = true ∧ e < L.covN x e
  found : f = true → L.getC e = 0 ∧ n < e ∧ matchB (getP L e) x = true
theorem told (L : LogM) (x : It) (n : Int) (hd : L.dropped ≤ L.all.length) (hl : L.all.length ≤ 1000000) (h : L.sinceC n = 0) : Told L x n (if L.covB x n then L.covN x n else (L.all.length : Int) + 1) (L.covB x n) := by
  have hn0 : ¬ n < 0 := fun hn => by unfold LogM.sinceC at h; rw [if_pos hn] at h; cases h
  cases hh : LogM.hit x (L.since n) with
  | some k =>
    obtain ⟨hN, hB⟩ := cov_some hh
    obtain ⟨hk, hm, hb⟩ := hit_spec hh
    have hp := since_pos (L := L) (n := n) (by omega)
    have hg := get_since h hk
    have hgc := hg.1
    have hlen : (L.since n).length ≤ L.all.length - n.toNat := by
      unfold LogM.since
      split
      · simp
      · simp
    rw [hB, if_pos rfl, hN]
    have hag : L.sinceC (n + 1 + k) = 0 := by
      unfold LogM.getC at hgc
      unfold LogM.sinceC
      rw [if_neg (by omega)]
      split
      · rfl
      · rw [if_neg (by intro hx; split at hgc <;> first | omega | (split at hgc <;> omega))]
    refine ⟨by rw [if_pos rfl, hN], by omega, by omega, fun q h1 h2 => ?_, hag, fun hb => ⟨rfl, ?_⟩, fun _ => ⟨hg.1, by omega, by rw [hg.2]; exact hm⟩⟩
    · obtain ⟨j, rfl⟩ : ∃ j : Nat, q = n + 1 + j := ⟨(q - n - 1).toNat, by omega⟩
      have hj : j < k := by omega
      have hgj := get_since (j := j) h (by omega)
      exact ⟨hgj.1, by rw [hgj.2]; exact hb j hj⟩
    · cases h2 : LogM.hit x (L.since (n + 1 + k)) with
      | none => rw [(cov_none h2).2] at hb; cases hb
      | some i => rw [(cov_some h2).1]; omega
  | none =>
    obtain ⟨hN, hB⟩ := cov_none hh
    have hno := hit_none hh
    have hag : L.sinceC ((L.all.length : Int) + 1) = 0 := by unfold LogM.sinceC; rw [if_neg (by omega), if_pos (by omega)]
    have hs : L.since ((L.all.length : Int) + 1) = [] := if_pos (by omega)
    rw [hB, if_neg (by decide)]
    refine ⟨by rw [if_neg (by decide)], by omega, by omega, fun q h1 h2 => ?_, hag, fun hb => ?_, fun hf => by cases hf⟩
    · have hp : ¬ n < (L.dropped : Int) := fun hx => by
        unfold LogM.sinceC at h
        rw [if_neg hn0, if_neg (by omega), if_pos hx] at h; cases h
      have hsl : (L.since n).length = L.all.length - n.toNat := by
        unfold LogM.since
        rw [if_neg (by omega), List.length_drop]
      obtain ⟨j, rfl⟩ : ∃ j : Nat, q = n + 1 + j := ⟨(q - n - 1).toNat, by omega⟩
      have hgj := get_since (j := j) h (by omega)
      exact ⟨hgj.1, by rw [hgj.2]; exact hno j (by omega)⟩
    · rw [(cov_none (by rw [hs]; rfl)).2] at hb; cases hb
def tinyB (x : It) : Bool := decide (x.tags.length ≤ 40) && decide (x.addr.length ≤ 1200)

/-- The question's variable. -/
def QBox (w : World) (R : Nat) (xt : Int) (xa : Bs) (u : Value) (n m : Int) : Prop := w.heap[R]? = some (.cells #[.int .i64 xt, .string ⟨xa.toArray⟩, u, .int .i64 n, .int .u8 m] 68 (0, 0))
theorem QBox.facts {w : World} {R : Nat} {xt : Int} {xa : Bs} {u : Value} {n m : Int} (h : QBox w R xt xa u n m) :
    (w.cell? ⟨R, 0, none⟩ = some (.int .i64 xt) ∧ w.cell? ⟨R, 1, none⟩ = some (.string ⟨xa.toArray⟩) ∧ w.cell? ⟨R, 2, none⟩ = some u ∧ w.cell? ⟨R, 3, none⟩ = some (.int .i64 n) ∧ w.cell? ⟨R, 4, none⟩ = some (.int .u8 m)) ∧ R < w.heap.size :=
  ⟨⟨by rw [cell_of_row w R 0 _ _ _ h]; rfl, by rw [cell_of_row w R 1 _ _ _ h]; rfl, by rw [cell_of_row w R 2 _ _ _ h]; rfl, by rw [cell_of_row w R 3 _ _ _ h]; rfl, by rw [cell_of_row w R 4 _ _ _ h]; rfl⟩, (Array.getElem?_eq_some_iff.1 h).1⟩
theorem QBox.older {w w' : World} {R : Nat} {xt : Int} {xa : Bs} {u : Value} {n m : Int} (h : QBox w R xt xa u n m) (hb : Below w.heap.size w w') : QBox w' R xt xa u n m := (hb.block R h.facts.2).trans h
theorem tiny37_any (xt : Int) (xa : Bs) (tags : List Bs) (ua : Option Addr) (uc : Nat) (w : World) (htl : tags.length ≤ 9223372036854775807) :
    Calls Tryd.prog 34 #[.agg #[.int .i64 xt, .string ⟨xa.toArray⟩, .slice ua tags.length uc]] w fun e w' => e = .returned (.bool (tinyB ⟨xt, xa, tags⟩)) ∧ Below w.heap.size w w' := by
  by_cases h1 : tags.length ≤ 40
  · have HT := Lib.hid (show tinyB ⟨xt, xa, tags⟩ = decide (xa.length ≤ 1200) by unfold tinyB; simp only; rw [decide_eq_true h1]; rfl)
    have HD := Lib.hid (show decide ((xa.length : Int) ≤ 1200) = decide (xa.length ≤ 1200) by rw [decide_eq_decide]; omega)
    go_enter Tryd.func34, Tryd.ntmps34
    go_wp2
    go_ret
    exact ⟨ret_bool' (by rw [HT.out, ← HD.out]), (Below.refl _ _).alloc (Nat.le_refl _) _⟩
  · have HT := Lib.hid (show tinyB ⟨xt, xa, tags⟩ = false by unfold tinyB; simp only; rw [decide_eq_false h1]; rfl)
    have hd : decide ((tags.length : Int) ≤ 40) = false := decide_eq_false (by omega)
    go_enter Tryd.func34, Tryd.ntmps34
    go_wp2
    go_ret
    exact ⟨ret_bool' HT.out.symm, (Below.refl _ _).alloc (Nat.le_refl _) _⟩

/-- What stands behind the acts: the log, the item. -/
structure Rest (w3 wr : World) (v u : Value) (L : LogM) (X : Nat) (xt : Int) (xa : Bs) (tags : List Bs) : Prop where
  run : Run w3 wr w3.heap.size v L
  str : StrsV wr u tags
  box : Box3 wr X 70 (.int .i64 xt) (.string ⟨xa.toArray⟩) u
theorem Rest.older {w3 wr w' : World} {v u : Value} {L : LogM} {X : Nat} {xt : Int} {xa : Bs} {tags : List Bs} (h : Rest w3 wr v u L X xt xa tags) (hb : Below wr.heap.size wr w') : Rest w3 w' v u L X xt xa tags := ⟨h.run.older hb, h.str.below hb, h.box.older hb⟩
theorem getP_size {L : LogM} (ho : L.Ok) (n : Int) : (getP L n).value.length ≤ 134217728 := by
  unfold getP
  split
  · rw [List.getD_eq_getElem?_getD]
    cases h : L.all[(n - 1).toNat]? with
    | none => simp
    | some p => exact ho.size p (List.mem_of_getElem? h)
  · simp
theorem clip_any (a lo hi : Int) (w : World) : Calls Tryd.prog 38 #[.int .i64 a, .int .i64 lo, .int .i64 hi] w fun e w' => e = .returned (.int .i64 (max lo (min a hi))) ∧ w = w' := by
  go_enter Tryd.func38, Tryd.ntmps38
  go_wp2
  go_ret
  exact ⟨rfl, rfl⟩
theorem walk_big (va : Option Addr) (vc : Nat) (acts : List LAct) (xt : Int) (xa : Bs) (tags : List Bs) (ua : Option Addr) (uc : Nat) (asOf m : Int) (w : World) (hr : Ready w) (hv : RowsV actC 5 w (.slice va acts.length vc) acts) (hl : acts.length ≤ 9223372036854775807) (hux : StrsV w (.slice ua tags.length uc) tags) (htl : tags.length ≤ 9223372036854775807) (h0 : 0 ≤ m) (h255 : m < 256) (hf : fitsA acts = false) :
    Calls Tryd.prog 8 #[.slice va acts.length vc, .agg #[.int .i64 xt, .string ⟨xa.toArray⟩, (.slice ua tags.length uc), .int .i64 asOf, .int .u8 m]] w fun e w' => e = .returned (.bool true) ∧ Below w.heap.size w w' := by
  have hb0 := (Below.refl w.heap.size w).alloc (Nat.le_refl _) (.cells #[.int .i64 xt, .string ⟨xa.toArray⟩, (.slice ua tags.length uc), .int .i64 asOf, .int .u8 m] 68)
  have HB0 := Lib.hid hb0
  have HQ0 : Hid (QBox (w.alloc (.cells #[.int .i64 xt, .string ⟨xa.toArray⟩, (.slice ua tags.length uc), .int .i64 asOf, .int .u8 m] 68)) w.heap.size xt xa (.slice ua tags.length uc) asOf m) := Lib.hid (heap_alloc_new w _)
  have HV := Lib.hid hv
  have HU := Lib.hid hux
  have HRA : Hid (∀ w', Below w.heap.size w w' → Ready w') := Lib.hid fun w' hb => hr.below hb
  clear hb0 hv hux
  have HF := Lib.hid hf
  clear hf
  go_enter Tryd.func8, Tryd.ntmps8
  go_wp2_with fail
  refine (awake37_any _ (HRA.out _ HB0.out)).mono ?_
  rintro e w1 ⟨rfl, hb1⟩
  have HB1 := Lib.hid (HB0.out.trans (hb1.mono HB0.out.size))
  have HQ1 := Lib.hid (HQ0.out.older hb1)
  obtain ⟨⟨d0, d1, d2, d3, d4⟩, hzq⟩ := HQ1.out.facts
  clear hb1
  go_wp2_with (first | (go_at_call 19; refine (fits37_any (.slice va acts.length vc) acts _ (HV.out.below HB1.out) hl).mono ?_; rw [HF.out]; rintro e w2 ⟨rfl, rfl⟩) | (go_at_call 14; refine (awake37_any _ (HRA.out _ HB1.out)).mono ?_; rintro e w3 ⟨rfl, hb3⟩))
  go_ret
  exact ⟨rfl, HB1.out.trans (hb3.mono HB1.out.size)⟩
theorem walk_huge (va : Option Addr) (vc : Nat) (acts : List LAct) (xt : Int) (xa : Bs) (tags : List Bs) (ua : Option Addr) (uc : Nat) (asOf m : Int) (w : World) (hr : Ready w) (hv : RowsV actC 5 w (.slice va acts.length vc) acts) (hl : acts.length ≤ 9223372036854775807) (hux : StrsV w (.slice ua tags.length uc) tags) (htl : tags.length ≤ 9223372036854775807) (h0 : 0 ≤ m) (h255 : m < 256) (hf : fitsA acts = true) (ht : tinyB ⟨xt, xa, tags⟩ = false) :
    Calls Tryd.prog 8 #[.slice va acts.length vc, .agg #[.int .i64 xt, .string ⟨xa.toArray⟩, (.slice ua tags.length uc), .int .i64 asOf, .int .u8 m]] w fun e w' => e = .returned (.bool true) ∧ Below w.heap.size w w' := by
  have hb0 := (Below.refl w.heap.size w).alloc (Nat.le_refl _) (.cells #[.int .i64 xt, .string ⟨xa.toArray⟩, (.slice ua tags.length uc), .int .i64 asOf, .int .u8 m] 68)
  have HB0 := Lib.hid hb0
  have HQ0 : Hid (QBox (w.alloc (.cells #[.int .i64 xt, .string ⟨xa.toArray⟩, (.slice ua tags.length uc), .int .i64 asOf, .int .u8 m] 68)) w.heap.size xt xa (.slice ua tags.length uc) asOf m) := Lib.hid (heap_alloc_new w _)
  have HV := Lib.hid hv
  have HU := Lib.hid hux
  have HRA : Hid (∀ w', Below w.heap.size w w' → Ready w') := Lib.hid fun w' hb => hr.below hb
  clear hb0 hv hux
  have HF := Lib.hid hf
  have HT := Lib.hid ht
  clear hf ht
  go_enter Tryd.func8, Tryd.ntmps8
  go_wp2_with fail
  refine (awake37_any _ (HRA.out _ HB0.out)).mono ?_
  rintro e w1 ⟨rfl, hb1⟩
  have HB1 := Lib.hid (HB0.out.trans (hb1.mono HB0.out.size))
  have HQ1 := Lib.hid (HQ0.out.older hb1)
  obtain ⟨⟨d0, d1, d2, d3, d4⟩, hzq⟩ := HQ1.out.facts
  clear hb1
  go_wp2_with (first | (go_at_call 19; refine (fits37_any (.slice va acts.length vc) acts _ (HV.out.below HB1.out) hl).mono ?_; rw [HF.out]; rintro e w2 ⟨rfl, rfl⟩) | (go_at_call 34; refine (tiny37_any xt xa tags ua uc _ htl).mono ?_; rw [HT.out]; rintro e w3 ⟨rfl, hb3⟩; have HB3 := Lib.hid (HB1.out.trans (hb3.mono HB1.out.size)); have HQ3 := Lib.hid (HQ1.out.older hb3); clear hb3 d0 d1 d2 d3 d4; obtain ⟨⟨d0, d1, d2, d3, d4⟩, hz3⟩ := HQ3.out.facts) | (go_at_call 14; refine (awake37_any _ (HRA.out _ HB3.out)).mono ?_; rintro e w4 ⟨rfl, hb4⟩))
  go_ret
  exact ⟨rfl, HB3.out.trans (hb4.mono HB3.out.size)⟩
theorem walk_ok (va : Option Addr) (vc : Nat) (acts : List LAct) (xt : Int) (xa : Bs) (tags : List Bs) (ua : Option Addr) (uc : Nat) (asOf m : Int) (w : World) (hr : Ready w) (hv : RowsV actC 5 w (.slice va acts.length vc) acts) (hl : acts.length ≤ 9223372036854775807) (hux : StrsV w (.slice ua tags.length uc) tags) (htl : tags.length ≤ 9223372036854775807) (h0 : 0 ≤ m) (h255 : m < 256) (hf : fitsA acts = true) (ht : tinyB ⟨xt, xa, tags⟩ = true) :
    Calls Tryd.prog 8 #[.slice va acts.length vc, .agg #[.int .i64 xt, .string ⟨xa.toArray⟩, (.slice ua tags.length uc), .int .i64 asOf, .int .u8 m]] w fun e w' => e = .returned (.bool true) ∧ Below w.heap.size w w' := by
  have hb0 := (Below.refl w.heap.size w).alloc (Nat.le_refl _) (.cells #[.int .i64 xt, .string ⟨xa.toArray⟩, (.slice ua tags.length uc), .int .i64 asOf, .int .u8 m] 68)
  have HB0 := Lib.hid hb0
  have HQ0 : Hid (QBox (w.alloc (.cells #[.int .i64 xt, .string ⟨xa.toArray⟩, (.slice ua tags.length uc), .int .i64 asOf, .int .u8 m] 68)) w.heap.size xt xa (.slice ua tags.length uc) asOf m) := Lib.hid (heap_alloc_new w _)
  have HV := Lib.hid hv
  have HU := Lib.hid hux
  have HRA : Hid (∀ w', Below w.heap.size w w' → Ready w') := Lib.hid fun w' hb => hr.below hb
  clear hb0 hv hux
  have hl60 := (fitsA_true hf).2
  have HA := Lib.hid (fitsA_true hf).1
  have HF := Lib.hid hf
  have HT := Lib.hid ht
  have htt : tags.length ≤ 40 ∧ xa.length ≤ 1200 := by unfold tinyB at ht; simpa using ht
  have hxl : xa.length ≤ 134217728 := by omega
  have htl4 : tags.length ≤ 40 := htt.1
  obtain ⟨k, hk⟩ : ∃ k : Nat, 1 + m % 24 = (k : Int) := ⟨(1 + m % 24).toNat, by omega⟩
  have hk1 : 1 ≤ k := by omega
  have hk2 : k ≤ 24 := by omega
  have HK := Lib.hid hk
  have HRY := Lib.hid hr
  have HLen : Hid (∀ j, (feed k (acts.take j)).all.length ≤ j) := Lib.hid (feed_len k acts)
  clear hf ht hk htt
  go_enter Tryd.func8, Tryd.ntmps8
  go_wp2_with fail
  refine (awake37_any _ (HRA.out _ HB0.out)).mono ?_
  rintro e w1 ⟨rfl, hb1⟩
  have HB1 := Lib.hid (HB0.out.trans (hb1.mono HB0.out.size))
  have HQ1 := Lib.hid (HQ0.out.older hb1)
  obtain ⟨⟨d0, d1, d2, d3, d4⟩, hzq⟩ := HQ1.out.facts
  clear hb1
  go_wp2_with (first | (go_at_call 19; refine (fits37_any (.slice va acts.length vc) acts _ (HV.out.below HB1.out) hl).mono ?_; rw [HF.out]; rintro e w2 ⟨rfl, rfl⟩) | (go_at_call 34; refine (tiny37_any xt xa tags ua uc _ htl).mono ?_; rw [HT.out]; rintro e w3 ⟨rfl, hb3⟩; have HB3 := Lib.hid (HB1.out.trans (hb3.mono HB1.out.size)); have HQ3 := Lib.hid (HQ1.out.older hb3); clear hb3 d0 d1 d2 d3 d4; obtain ⟨⟨d0, d1, d2, d3, d4⟩, hz3⟩ := HQ3.out.facts))
  go_wp2_with (go_at_call 20; refine (window37_any m _ h0 h255).mono ?_; rw [HK.out]; rintro e w' ⟨rfl, rfl⟩)
  refine (plogNew_ok k _ (by omega) (by omega)).mono ?_
  rintro e w2 ⟨rfl, rfl⟩
  have HR := Lib.hid (show Run w3 _ w3.heap.size (.slice none 0 0) (feed k (acts.take 0)) from ⟨((Below.refl _ _).alloc (Nat.le_refl _) _), logAt_new w3 k w3.heap.size (Nat.le_refl _), LogM.ok_start hk1 (by omega)⟩)
  have HV3 := Lib.hid (HV.out.below HB3.out)
  have HU3 := Lib.hid (HU.out.below HB3.out)
  have HRY3 := Lib.hid (HRA.out _ HB3.out)
  go_wp2_with fail
  go_loopw [7] (fun iv wr => ∃ (j : Nat) (v : Value), j ≤ acts.length ∧ iv = .int .i64 j ∧ Run w3 wr w3.heap.size v (feed k (acts.take j))) (fun iv _ => acts.length - (intOf iv).toNat)
  case atStart => exact ⟨0, _, Nat.zero_le _, rfl, HR.out⟩
  case round =>
    obtain ⟨j, v, hj, rfl, s⟩ := hrel
    have hl1 := HLen.out j
    obtain ⟨L', hL⟩ : ∃ L', feed k (acts.take j) = L' := ⟨_, rfl⟩
    rw [hL] at s hl1
    have HL := Lib.hid hL
    have HS1 := Lib.hid s
    clear s hL
    by_cases hlt : j < acts.length
    · have HSN := Lib.hid (feed_snoc k hlt)
      have HFk := Lib.hid (HA.out acts[j] (List.getElem_mem hlt))
      obtain ⟨b, o, c, e, hc, hbz, hcell⟩ := HV3.out.at hlt
      cases e
      rw [HL.out] at HSN
      generalize acts[j] = y at hcell HSN HFk
      obtain ⟨p0, p1, p2, p3, p4⟩ := act_cells HS1.out.bel hbz hcell
      clear hcell
      obtain ⟨ys, yn, ⟨yk, yt, yv⟩⟩ := y
      have hyv : yv.length ≤ 134217728 := by have := HFk.out; simp only at this; omega
      clear HFk
      go_wp2_with (go_at_call 21; refine (of36_any ⟨yk, yt, yv⟩ _).mono ?_; rintro e w4 ⟨rfl, hb4⟩; have HS2 := Lib.hid (HS1.out.older hb4); clear hb4)
      refine (run_app w3 _ w3.heap.size v L' ⟨yk, yt, yv⟩ HS2.out HRY3.out hyv (by omega)).mono ?_
      rintro e w5 ⟨v5, rfl, hr5, hg5⟩
      have HS5 := Lib.hid hr5
      clear hr5 hg5
      go_wp2_with fail
      go_roundw
      case rel => exact ⟨j + 1, v5, by omega, by go_num, by rw [HSN.out]; exact HS5.out⟩
      case measure => simp [intOf]; omega
    · obtain ⟨⟨d0, d1, d2, d3, d4⟩, hz4⟩ := (HQ3.out.older HS1.out.bel).facts
      go_wp2_with (go_at_call 35; refine (item36_any xt xa _ tags _ (HU3.out.below HS1.out.bel) (by omega)).mono ?_; rintro e w5 ⟨nv, rfl, hnv, hb5⟩; obtain ⟨na, nc, rfl⟩ := hnv.form; have HS5 := Lib.hid (HS1.out.older hb5); have HN5 := Lib.hid hnv; clear hb5 hnv d0 d1 d2 d3 d4; obtain ⟨⟨d0, d1, d2, d3, d4⟩, hz5⟩ := (HQ3.out.older HS5.out.bel).facts)
      have HE6 := Lib.hid (show Rest w3 _ v (.slice na tags.length nc) L' w5.heap.size xt xa tags from ⟨HS5.out.older ((Below.refl w5.heap.size w5).alloc (Nat.le_refl _) (.cells #[.int .i64 xt, .string ⟨xa.toArray⟩, .slice na tags.length nc] 70)), HN5.out.below ((Below.refl w5.heap.size w5).alloc (Nat.le_refl _) (.cells #[.int .i64 xt, .string ⟨xa.toArray⟩, .slice na tags.length nc] 70)), box3_new w5 70 (.int .i64 xt) (.string ⟨xa.toArray⟩) (.slice na tags.length nc)⟩)
      refine (covered_any w3.heap.size w3.heap.size v L' xt xa tags (.slice na tags.length nc) asOf _ HE6.out.run.log HE6.out.run.ok (by omega) (HRY3.out.below HE6.out.run.bel) hxl HE6.out.str htl).mono ?_
      by_cases hc : L'.sinceC asOf = 0
      · have HT := Lib.hid (told L' ⟨xt, xa, tags⟩ asOf HS1.out.ok.drop (by omega) hc)
        have HC := Lib.hid (codeV_ok hc)
        have ha0 : 0 ≤ asOf := by
          rcases Int.lt_or_le asOf 0 with h | h
          · unfold LogM.sinceC at hc; rw [if_pos h] at hc; cases hc
          · exact h
        obtain ⟨f, hf⟩ : ∃ f, L'.covB ⟨xt, xa, tags⟩ asOf = f := ⟨_, rfl⟩
        obtain ⟨N, hN⟩ : ∃ N, L'.covN ⟨xt, xa, tags⟩ asOf = N := ⟨_, rfl⟩
        rw [hf, hN] at HT
        have H8 := Lib.hid hf
        have H37 := Lib.hid hN
        obtain ⟨E, hE⟩ : ∃ E, (if f then N else (L'.all.length : Int) + 1) = E := ⟨_, rfl⟩
        rw [hE] at HT
        have HE := Lib.hid hE
        have hE0 := HT.out.lo
        have hE1 := HT.out.hi
        clear hc hf hN hE
        rw [HC.out, H8.out, H37.out]
        rintro e w7 ⟨rfl, hb7⟩
        have HE7 := Lib.hid (HE6.out.older hb7)
        obtain ⟨⟨d0, d1, d2, d3, d4⟩, hz7⟩ := (HQ3.out.older HE7.out.run.bel).facts
        clear hb7
        go_upto_if 82 with ((go_at_call 17; refine (run_last w3 _ w3.heap.size v L' HE7.out.run (by omega)).mono ?_; rintro e w8 ⟨rfl, hr8, hb8⟩; have HE8 := Lib.hid (HE7.out.older hb8); clear hr8 hb8))
        go_cut [11] (fun s11 wx => s11 = .int .i64 E ∧ Rest w3 wx v (.slice na tags.length nc) L' w5.heap.size xt xa tags)
        case first =>
          cases f with
          | false =>
            have HE2 := Lib.hid (show (L'.all.length : Int) + 1 = E from HE.out)
            go_wp2_with fail
            go_meet
            exact ⟨by rw [HE2.out], HE8.out⟩
          | true =>
            obtain rfl : N = E := HE.out
            have hfo := HT.out.found rfl
            have HG := Lib.hid hfo.1
            have hlo := hfo.2.1
            have hgs := getP_size HE8.out.run.ok N
            obtain ⟨q, hq⟩ : ∃ q, getP L' N = q := ⟨_, rfl⟩
            have hm := hfo.2.2
            rw [hq] at hm hgs
            have HP := Lib.hid hq
            obtain ⟨gk, gt, gv⟩ := q
            have HM := Lib.hid hm
            have hle : ¬ N ≤ asOf := by omega
            clear hfo hq hm
            go_wp2_with fail
            refine (plogGet_any w3.heap.size w3.heap.size v L' N _ HE8.out.run.log HE8.out.run.ok (by omega)).mono ?_
            rw [HG.out, HP.out, codeV_ok rfl]
            rintro e w9 ⟨rfl, hb9⟩
            have hal := (Below.refl w9.heap.size w9).alloc (Nat.le_refl _) (.cells #[.int .i64 gk, .int .i64 gt, .string ⟨gv.toArray⟩] 37)
            have HE9 := Lib.hid ((HE8.out.older hb9).older hal)
            obtain ⟨⟨b0, b1, b2⟩, _⟩ := HE9.out.box.facts
            obtain ⟨⟨d0, d1, d2, d3, d4⟩, hz9⟩ := (HQ3.out.older HE9.out.run.bel).facts
            clear hb9 hal
            go_wp2_with (go_at_call 37; refine (match_any ⟨gk, gt, gv⟩ ⟨xt, xa, tags⟩ (.slice na tags.length nc) _ (HRY3.out.below HE9.out.run.bel) hgs hxl HE9.out.str htl).mono ?_; rw [HM.out]; rintro e w10 ⟨rfl, hb10⟩; have HE10 := Lib.hid (HE9.out.older hb10); clear hb10)
            go_meet
            exact ⟨rfl, HE10.out⟩
        case rest =>
          obtain ⟨rfl, s⟩ := hcut
          have HE8 := Lib.hid s
          obtain ⟨⟨d0, d1, d2, d3, d4⟩, hz8⟩ := (HQ3.out.older HE8.out.run.bel).facts
          clear s
          go_wp2_with (go_at_call 38; refine (clip_any asOf 0 E _).mono ?_; rintro e w' ⟨rfl, rfl⟩)
          go_loopw [14] (fun kv wr => ∃ kk : Int, kv = .int .i64 kk ∧ 1 ≤ kk ∧ kk ≤ 1000004 ∧ Hid (kk < E → asOf < kk) ∧ Rest w3 wr v (.slice na tags.length nc) L' w5.heap.size xt xa tags) (fun kv _ => (E - intOf kv).toNat)
          case atStart => exact ⟨_, rfl, by omega, by omega, Lib.hid (fun h => by omega), HE8.out⟩
          case round =>
            obtain ⟨kk, rfl, hk3, hk4, HK3, s⟩ := hrel
            have HE9 := Lib.hid s
            clear s
            by_cases hlt3 : kk < E
            · have hsee := HT.out.seen kk (HK3.out hlt3) hlt3
              have HG := Lib.hid hsee.1
              have hgs := getP_size HE9.out.run.ok kk
              obtain ⟨q, hq⟩ : ∃ q, getP L' kk = q := ⟨_, rfl⟩
              have hm := hsee.2
              rw [hq] at hm hgs
              have HP := Lib.hid hq
              obtain ⟨gk, gt, gv⟩ := q
              have HM := Lib.hid hm
              have hak := HK3.out hlt3
              clear hsee hq hm
              go_wp2_with fail
              refine (plogGet_any w3.heap.size w3.heap.size v L' kk _ HE9.out.run.log HE9.out.run.ok (by omega)).mono ?_
              rw [HG.out, HP.out, codeV_ok rfl]
              rintro e w9 ⟨rfl, hb9⟩
              have hal := (Below.refl w9.heap.size w9).alloc (Nat.le_refl _) (.cells #[.int .i64 gk, .int .i64 gt, .string ⟨gv.toArray⟩] 37)
              have HE10 := Lib.hid ((HE9.out.older hb9).older hal)
              have HE9b := Lib.hid (HE9.out.older hb9)
              obtain ⟨⟨b0, b1, b2⟩, _, hzb⟩ := HE9b.out.box.facts
              clear hb9 hal
              go_wp2_with (go_at_call 37; refine (match_any ⟨gk, gt, gv⟩ ⟨xt, xa, tags⟩ (.slice na tags.length nc) _ (HRY3.out.below HE10.out.run.bel) hgs hxl HE10.out.str htl).mono ?_; rw [HM.out]; rintro e w11 ⟨rfl, hb11⟩; have HE11 := Lib.hid (HE10.out.older hb11); clear hb11)
              go_roundw
              case rel => exact ⟨kk + 1, rfl, by omega, by omega, Lib.hid (fun h => by omega), HE11.out⟩
              case measure => simp [intOf]; omega
            · obtain ⟨⟨b0, b1, b2⟩, _, hzb⟩ := HE9.out.box.facts
              obtain ⟨f2, hf2⟩ : ∃ f2, L'.covB ⟨xt, xa, tags⟩ E = f2 := ⟨_, rfl⟩
              obtain ⟨N2, hN2⟩ : ∃ N2, L'.covN ⟨xt, xa, tags⟩ E = N2 := ⟨_, rfl⟩
              have HF2 := Lib.hid hf2
              have HN2 := Lib.hid hN2
              have HC2 := Lib.hid (codeV_ok HT.out.again)
              have hnx := HT.out.next
              rw [hf2, hN2] at hnx
              have HNX := Lib.hid hnx
              clear hf2 hN2 hnx
              go_wp2_with fail
              refine (covered_any w3.heap.size w3.heap.size v L' xt xa tags (.slice na tags.length nc) E _ HE9.out.run.log HE9.out.run.ok (by omega) (HRY3.out.below HE9.out.run.bel) hxl HE9.out.str htl).mono ?_
              rw [HC2.out, HF2.out, HN2.out]
              rintro e w10 ⟨rfl, hb10⟩
              have HE10 := Lib.hid (HE9.out.older hb10)
              clear hb10
              cases f2 with
              | false =>
                go_wp2_with fail
                go_ret
                exact ⟨rfl, HB3.out.trans (HE10.out.run.bel.mono HB3.out.size)⟩
              | true =>
                have hnx := HNX.out rfl
                obtain rfl := hnx.1
                obtain rfl : N = E := HE.out
                have hgt := hnx.2
                clear hnx
                go_wp2_with fail
                go_ret
                exact ⟨rfl, HB3.out.trans (HE10.out.run.bel.mono HB3.out.size)⟩
      · have hcn := cov_none (x := ⟨xt, xa, tags⟩) (show LogM.hit ⟨xt, xa, tags⟩ (L'.since asOf) = none by rw [since_nil hc]; rfl)
        obtain ⟨c, hcc⟩ : ∃ c, L'.sinceC asOf = c := ⟨_, rfl⟩
        rw [hcc] at hc
        rw [codeV_err hcc hc, hcn.1, hcn.2]
        clear hcn hcc hc
        rintro e w7 ⟨rfl, hb7⟩
        have HE7 := Lib.hid (HE6.out.older hb7)
        clear hb7
        go_wp2_with fail
        go_ret
        exact ⟨rfl, HB3.out.trans (HE7.out.run.bel.mono HB3.out.size)⟩
theorem walk (acts : List LAct) (v : Value) (xt : Int) (xa : Bs) (tags : List Bs) (u : Value) (asOf m : Int) (w : World) (hr : Ready w) (hv : RowsV actC 5 w v acts) (hl : acts.length ≤ 9223372036854775807) (hux : StrsV w u tags) (htl : tags.length ≤ 9223372036854775807) (h0 : 0 ≤ m) (h255 : m < 256) :
    Calls Tryd.prog 8 #[v, .agg #[.int .i64 xt, .string ⟨xa.toArray⟩, u, .int .i64 asOf, .int .u8 m]] w fun e w' => e = .returned (.bool true) ∧ Below w.heap.size w w' := by
  obtain ⟨va, vc, rfl, _⟩ := hv.form
  obtain ⟨ua, uc, rfl⟩ := hux.form
  cases hf : fitsA acts with
  | false => exact walk_big va vc acts xt xa tags ua uc asOf m w hr hv hl hux htl h0 h255 hf
  | true =>
    cases ht : tinyB ⟨xt, xa, tags⟩ with
    | false => exact walk_huge va vc acts xt xa tags ua uc asOf m w hr hv hl hux htl h0 h255 hf ht
    | true => exact walk_ok va vc acts xt xa tags ua uc asOf m w hr hv hl hux htl h0 h255 hf ht

/-- What the walk gives, for every argument. -/
theorem contract (H : Type) (enc : TypeId × Value → H) (W : World) (base : Nat) (args : Array Value) (ds gs : List (DataW H)) (before : List MemPlace)
    (hval : ∀ (j : Nat) t v, Tryd.f8.params[j]? = some t → args[j]? = some v → Value.okWide Tryd.prog W .any base t v)
    (hW : DataW.Whole enc Tryd.prog Tryd.f8.params.toList Rows.purgelogFirstSpec.vars false W args.toList ds gs before) (hsz : (DataW.weightsEach Tryd.prog Tryd.f8.params.toList (ds ++ gs)).all (· ≤ reachBytes) = true) (hr : Ready W) :
    Calls Tryd.prog 8 args W fun e W' => ∃ v, e = .returned v ∧ Rows.purgelogFirstSpec.post enc Tryd.prog Tryd.f8 false true false false W args v W' := by
  have hW' := hW
  have hlt := fun p hp => hW.lt p hp
  obtain ⟨p, q, hA0, hV, rfl, hfz, hnd⟩ := hW
  have hA : DataW.TrodAll enc Tryd.prog W 0 (fun _ => true) true Tryd.f8.params.toList args.toList ds p := hA0
  have hA1 := hA
  obtain ⟨rfl, rfl⟩ := trodVars_none hV
  rw [Tryd.params8] at hA hval
  obtain ⟨v0, vs0, d0, ds0, p0, q0, hargs, rfl, rfl, h0, r0⟩ := trodAll_cons hA
  obtain ⟨v1, vs1, d1, ds1, p1, q1, rfl, rfl, rfl, h1, r1⟩ := trodAll_cons r0
  obtain ⟨rfl, rfl, rfl⟩ := trodAll_nil r1
  obtain rfl : args = #[v0, v1] := by cases args; simp_all
  have fin : ∀ W', Below W.heap.size W W' → Rows.purgelogFirstSpec.post enc Tryd.prog Tryd.f8 false true false false W #[v0, v1] (.bool true) W' := fun W' hb => by
    simp only [List.append_nil] at hA1 hW' hlt
    exact ⟨_, _, _, [], _, [], hW', trodAll_cons_mk (shut_bool Tryd.underlying4 _) trodAll_mk0, Fr.trodAll_below (by kernel_rfl) _ (by kernel_rfl) hA1 hb hlt, rfl, hb.frame _, fun h => by cases h⟩
  clear hW' hA0 hA1 hlt
  rw [Tryd.params8, List.append_nil] at hsz
  obtain ⟨ua0, ul0, uc0, rfl⟩ := okWide_slice Tryd.underlying32 (hval 0 32 v0 rfl rfl)
  obtain ⟨fu0, hf0⟩ := h0
  obtain ⟨xs0, hx0, hl0, _⟩ := Op.open_rows (R := actC) (k := 5) (fun _ => True) Tryd.underlying32 (by kernel_rfl) (by decide) (fun n cs y hl h => Op.act_trod hl h) hf0
  obtain ⟨xt, xa, tags, ux, asOf, mq, rfl, hux, htl, hq0, hq1⟩ := Op.open_q37 (hval 1 68 v1 rfl rfl) h1
  refine (walk xs0 (.slice ua0 ul0 uc0) xt xa tags ux asOf mq W hr hx0 hl0 hux htl hq0 hq1).mono fun e W' ⟨he, hb⟩ => ?_
  subst he
  exact ⟨_, rfl, fin W' hb⟩

theorem laid_met (os : Os) : laidMet Tryd.prog Rows.purgelogFirstRow.laid ((Fr.laidWorld os).forCall (fun _ _ => 0) ⟨#[], #[.slice none 0 0, .agg #[.int .i64 0, .string ⟨#[]⟩, .slice none 0 0, .int .i64 0, .int .u8 0]], []⟩).memory :=
  laidMet_of_run' 8 (by kernel_rfl) (by kernel_rfl)
theorem reads (os : Os) {H : Type} (enc : TypeId × Value → H) : ∃ places, DataW.whole enc Tryd.prog ((Fr.laidWorld os).forCall (fun _ _ => 0) ⟨#[], #[.slice none 0 0, .agg #[.int .i64 0, .string ⟨#[]⟩, .slice none 0 0, .int .i64 0, .int .u8 0]], []⟩).memory Tryd.f8.params.toList Rows.purgelogFirstSpec.vars false (#[.slice none 0 0, .agg #[.int .i64 0, .string ⟨#[]⟩, .slice none 0 0, .int .i64 0, .int .u8 0]] : Array Value).toList 8 = some ([.nil, .agg [.agg [.lit (.int .i64 0), .lit (.string []), .nil], .lit (.int .i64 0), .lit (.int .u8 0)]], [], places) :=
  ⟨[], by kernel_rfl⟩

theorem lifted (os : Os) (started : os.Started) (H : Type) (enc : TypeId × Value → H) (F : Stop.Interp) :
    ReturnsInHanded {} Tryd.checked os 8 .any ((OpenSpec.ofChange Rows.purgelogFirstSpec).preRow enc Tryd.prog Tryd.f8 Rows.purgelogFirstRow.domain false Rows.purgelogFirstRow.laid) (((OpenSpec.ofChange Rows.purgelogFirstSpec).at F).post enc Tryd.prog Tryd.f8 false true false false) := by
  obtain ⟨places, hx⟩ := reads os enc
  refine returnsInHanded_of_row (C := Tryd.checked) (s := OpenSpec.ofChange Rows.purgelogFirstSpec) Fr.own started (by kernel_rfl) Tryd.func8
    (witness_row_at (enc := enc) (C := Tryd.checked) false (Fr.laidWorld os) #[.slice none 0 0, .agg #[.int .i64 0, .string ⟨#[]⟩, .slice none 0 0, .int .i64 0, .int .u8 0]] rfl (by kernel_rfl) (by kernel_rfl) (by kernel_rfl)
      (OpenSpec.preRow_of_cond 8 hx (by kernel_rfl) (fun k hk => by cases hk) (by kernel_rfl) (laid_met os))) ?_
  intro W base args ds gs before hval hW _ hcond hsz _ hsh _
  exact contract H enc W base args ds gs before hval hW (by have h9 : (DataW.weightsEach Tryd.prog (Tryd.f8.params.toList ++ []) (ds ++ gs)).all (· ≤ reachBytes) = true := hsz; rw [List.append_nil] at h9; exact h9) (Fr.ready hsh)

theorem k_0 : Rows.purgelogFirstRow.wf (OpenSpec.ofChange (OpenSpec.ofChange Rows.purgelogFirstSpec).bare) = true := by kernel_rfl
theorem k_1 : laidOutB Tryd.prog = true := Fr.sf_laidOut
theorem k_2 : mapsRowed Tryd.prog = true := Fr.sf_mapsRowed
theorem k_3 : Tryd.f8.params.all (Tryd.prog.readableRec ·) = true := by kernel_rfl
theorem k_4 : namedTie Tryd.prog Rows.purgelogFirstRow.named (OpenSpec.ofChange Rows.purgelogFirstSpec).bare.vars = true := by kernel_rfl
theorem k_5 : (Rows.purgelogFirstRow.stops == []) = true := by kernel_rfl
theorem k_6 : (Tryd.prog.stops == []) = true := Fr.sf_stops
theorem k_7 : (Rows.purgelogFirstRow.knobs == []) = true := by kernel_rfl
theorem k_8 : (Tryd.prog.stopKnobs == []) = true := Fr.sf_stopKnobs
theorem k_9 : (Rows.purgelogFirstRow.inPlace == Tryd.prog.inPlace 8) = true := by kernel_rfl
theorem k_10 : (Rows.purgelogFirstRow.unfollowed == Tryd.prog.unfollowed 8) = true := by kernel_rfl
theorem k_11 : (Rows.purgelogFirstRow.recurses == Tryd.prog.recurses 8) = true := by kernel_rfl
theorem k_12 : (Rows.purgelogFirstRow.named == Tryd.prog.varsNamed 8) = true := by kernel_rfl
theorem k_13 : (Rows.purgelogFirstRow.maps == (Tryd.f8.params.toList ++ (OpenSpec.ofChange Rows.purgelogFirstSpec).bare.plain.varTypes Tryd.prog).any (Tryd.prog.mapsRec ·)) = true := by kernel_rfl
theorem k_14 : (Rows.purgelogFirstRow.ifaces == (Tryd.f8.params.toList ++ (OpenSpec.ofChange Rows.purgelogFirstSpec).bare.plain.varTypes Tryd.prog).any (Tryd.prog.ifacesRec ·)) = true := by kernel_rfl
theorem k_15 : (Rows.purgelogFirstRow.mapsOut == Tryd.prog.mapsAmong Tryd.f8.resultTypes.toList) = true := by kernel_rfl
theorem k_16 : (Rows.purgelogFirstRow.loops == (Tryd.f8.params.toList ++ (OpenSpec.ofChange Rows.purgelogFirstSpec).bare.plain.varTypes Tryd.prog).any (Tryd.prog.loopsFrom ·)) = true := by kernel_rfl
theorem k_17 : (Rows.purgelogFirstRow.wideKeys == (Tryd.f8.params.toList ++ (OpenSpec.ofChange Rows.purgelogFirstSpec).bare.plain.varTypes Tryd.prog ++ Tryd.f8.resultTypes.toList).any (Tryd.prog.wideKeysFrom ·)) = true := by kernel_rfl
theorem k_18 : (OpenSpec.ofChange Rows.purgelogFirstSpec).bare.vars.all (Tryd.prog.varReadable ·) = true := by kernel_rfl
theorem k_19 : Tryd.f8.resultTypes.all (fun t => Tryd.prog.readableRec t && decide (t < Tryd.prog.types.size)) = true := by kernel_rfl
theorem k_20 : (Rows.purgelogFirstRow.ifacesOut == Tryd.f8.resultTypes.toList.any (Tryd.prog.ifacesRec ·)) = true := by kernel_rfl
theorem k_21 : (Rows.purgelogFirstRow.loopsOut == Tryd.f8.resultTypes.toList.any (Tryd.prog.loopsFrom ·)) = true := by kernel_rfl
theorem k_22 : (Rows.purgelogFirstRow.plainKeys == Tryd.prog.plainKeys) = true := Fr.sf_plainKeys
theorem k_23 : Rows.purgelogFirstRow.shortTexts.isNone = true := by kernel_rfl
theorem k_24 : Tryd.prog.stopsHeard = true := Fr.sf_heard
theorem k_25 : Tryd.prog.mayEnter = true := Fr.sf_mayEnter
theorem k_26 : (Rows.purgelogFirstRow.lifted == Tryd.prog.liftsFinal) = true := Fr.sf_lifted
theorem k_27 : (Tryd.prog.make == some Rows.purgelogFirstRow.make) = true := Fr.sf_make
theorem k_28 : (Rows.purgelogFirstRow.kinds == (if Rows.purgelogFirstRow.domain.isEmpty then [] else Tryd.f8.params.toList.map fun t => match Tryd.prog.underlying t with | some (.int k) => some k | _ => none)) = true := by kernel_rfl
theorem k_29 : (Rows.purgelogFirstRow.pinned == Rows.purgelogFirstRow.pinnedBy) = true := by kernel_rfl
theorem k_30 : (Rows.purgelogFirstRow.veiled == (Tryd.f8.params.toList ++ (OpenSpec.ofChange Rows.purgelogFirstSpec).bare.plain.varTypes Tryd.prog ++ Tryd.f8.resultTypes.toList).any (Tryd.prog.veiledRec ·)) = true := by kernel_rfl
theorem k_31 : Rows.purgelogFirstRow.veiledFits Tryd.prog Tryd.f8.params.toList (Tryd.f8.params.toList ++ (OpenSpec.ofChange Rows.purgelogFirstSpec).bare.plain.varTypes Tryd.prog ++ Tryd.f8.resultTypes.toList) = true := by kernel_rfl
theorem closed : joinedFacts Tryd.prog 8 Tryd.f8 (OpenSpec.ofChange Rows.purgelogFirstSpec).bare Rows.purgelogFirstRow = true := Op.andT (Op.andT (Op.andT (Op.andT (Op.andT (Op.andT (Op.andT (Op.andT (Op.andT (Op.andT (Op.andT (Op.andT (Op.andT (Op.andT (Op.andT (Op.andT (Op.andT (Op.andT (Op.andT (Op.andT (Op.andT (Op.andT (Op.andT (Op.andT (Op.andT (Op.andT (Op.andT (Op.andT (Op.andT (Op.andT (Op.andT (k_0) k_1) k_2) k_3) k_4) k_5) k_6) k_7) k_8) k_9) k_10) k_11) k_12) k_13) k_14) k_15) k_16) k_17) k_18) k_19) k_20) k_21) k_22) k_23) k_24) k_25) k_26) k_27) k_28) k_29) k_30) k_31

theorem said : Rows.PurgelogFirstSaid :=
  OpenClaim.holds_of_cond 8 Tryd.f8 rfl rfl rfl rfl rfl rfl rfl ⟨rfl, rfl, rfl, rfl, rfl⟩ rfl rfl rfl rfl rfl (by kernel_rfl) Tryd.func8 closed
    (of_decide_eq_true (by kernel_rfl)) (by unfold Func.isWrapper; first | (rw [if_pos (by decide +kernel)]; kernel_rfl) | (rw [if_neg (by decide +kernel)]; exact ⟨rfl, rfl⟩))
    (fun os started H enc _ F => by rw [OpenClaim.pre_eq_preRow]; exact lifted os started H enc F)

theorem plain (b : Bool) (hb : b = Tryd.pinned.checked.prog.looks []) (f : FuncId) (fn : Func) (hf : Tryd.pinned.checked.prog.funcNamed "quayside/quaysidelaw37.PurgelogFirst" = some f) (hfn : Tryd.pinned.checked.prog.funcs[f]? = some fn) :
    b = Tryd.pinned.checked.prog.looks [] ∧ ∀ (j : Nat) t, fn.params[j]? = some t → Tryd.pinned.checked.prog.wantsStandIn t = false := by
  obtain rfl : f = 8 := Option.some.inj ((show Tryd.prog.funcNamed "quayside/quaysidelaw37.PurgelogFirst" = some 8 by kernel_rfl).symm.trans hf) |>.symm
  obtain rfl : fn = Tryd.f8 := (Option.some.inj (Tryd.func8.symm.trans hfn)).symm
  refine ⟨hb, fun j t ht => ?_⟩
  rw [Tryd.params8] at ht
  have hm : t ∈ [32, 68] := by simpa using Array.mem_of_getElem? ht
  have hall : ([32, 68].all fun u => !Tryd.prog.wantsStandIn u) = true := by kernel_rfl
  exact (show Tryd.prog.wantsStandIn t = false by simpa using List.all_eq_true.1 hall t hm)

theorem proved : Rows.PurgelogFirstCardSaid :=
  Claim7.holds_tied_plain_at .later [] _ _ _ _ said (fun _ h => by cases h) (by kernel_rfl) (fun _ h => by cases h) purgelogFirst_row_tie rfl ⟨rfl, rfl⟩ (by kernel_rfl) rfl (plain _ (by kernel_rfl)) (by kernel_rfl)
#print axioms proved
end Go.Proofs.YtijjggbiljkalaaDoor.lawPurgelogFirst
