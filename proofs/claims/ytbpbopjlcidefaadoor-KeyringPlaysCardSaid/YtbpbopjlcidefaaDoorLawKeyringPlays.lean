/- PROVED: KeyringPlays returns true for every input and leaves its arguments as they were. No condition beyond the statement's own (the listed variables read as the program's text lays them, which the card ties). -/
import Derived.Test.YtbpbopjlcidefaaDoorFrameK
import Derived.Deep.RegionHeld3
import Derived.Deep.LoopGhost
import Derived.Deep.DeepCutAuto
import Derived.OrdersHeld
import Derived.Test.YtbpbopjlcidefaaDoorOpenK
namespace Go.Proofs.YtbpbopjlcidefaaDoor.lawKeyringPlays
open Go.ChangeShapes Go.WideShapes Go.ChangeAt Go.RowKit Pl Ad Kr
open Go.ChangeMaps (open_string shut_string)
attribute [local go_sem] ba_get ba_append ba_extract A1.conv_bytes
set_option maxRecDepth 100000
set_option maxHeartbeats 4000000
set_option linter.unusedVariables false
set_option linter.unusedSimpArgs false

/-- A round's state: the ring, the reference's list, what they share. -/
structure PlS (w0 wr : World) (R : Nat) (V : Nat → Value) (E : Nat → List Ent) (v : Value) (ml : KL) : Prop where
  bel : Below w0.heap.size w0 wr
  ring : RingAt wr w0.heap.size R V E
  ref : RefAt wr w0.heap.size v ml
  mat : Match E ml
  sec : ∀ e ∈ ml, e.2.sec.length ≤ 1000000
theorem PlS.older {w0 wr w' : World} {R : Nat} {V : Nat → Value} {E : Nat → List Ent} {v : Value} {ml : KL} (h : PlS w0 wr R V E v ml) (hb : Below wr.heap.size wr w') : PlS w0 w' R V E v ml :=
  ⟨h.bel.trans (hb.mono h.bel.size), h.ring.older hb, h.ref.older hb, h.mat, h.sec⟩
theorem PlS.secs {w0 wr : World} {R : Nat} {V : Nat → Value} {E : Nat → List Ent} {v : Value} {ml : KL} (h : PlS w0 wr R V E v ml) : ∀ t, t < 16 → ∀ e ∈ E t, e.key.sec.length ≤ 1000000 := fun t ht e he => by
  have h1 : e.key ∈ keysOf E (t : Int) := by unfold keysOf; rw [tlK_nat E ht]; exact List.mem_map_of_mem he
  rw [h.mat] at h1
  unfold per at h1
  obtain ⟨x, hx, hxe⟩ := List.mem_map.1 h1
  rw [← hxe]
  exact h.sec x (List.mem_filter.1 hx).1
theorem actB {w : World} {q kd tn s : Nat} {id : Bs} {x y z at_ : Int} (h : Bx w q 46 #[.int .u8 (kd : Int), .int .u8 (tn : Int), .int .u8 (s : Int), .string ⟨id.toArray⟩, .int .i64 x, .int .i64 y, .int .i64 z, .int .i64 at_]) :
    w.cell? ⟨q, 0, none⟩ = some (.int .u8 (kd : Int)) ∧ w.cell? ⟨q, 1, none⟩ = some (.int .u8 (tn : Int)) ∧ w.cell? ⟨q, 2, none⟩ = some (.int .u8 (s : Int)) ∧ w.cell? ⟨q, 3, none⟩ = some (.string ⟨id.toArray⟩) ∧ w.cell? ⟨q, 4, none⟩ = some (.int .i64 x) ∧ w.cell? ⟨q, 5, none⟩ = some (.int .i64 y) ∧ w.cell? ⟨q, 6, none⟩ = some (.int .i64 z) ∧ w.cell? ⟨q, 7, none⟩ = some (.int .i64 at_) :=
  ⟨h.cell rfl, h.cell rfl, h.cell rfl, h.cell rfl, h.cell rfl, h.cell rfl, h.cell rfl, h.cell rfl⟩
/-- What stands behind the tenant and the bytes of a round. -/
def InCut (w6 : World) (s : Nat) (tt : Int) (s7 s8 : Value) (wx : World) : Prop := s7 = .int .i64 tt ∧ ∃ q c, s8 = .slice (some ⟨q, 0, none⟩) (secN s).length c ∧ A1.BytesAt wx q (secN s) ∧ w6.heap.size ≤ q ∧ Below w6.heap.size w6 wx
theorem bytes_lt {w : World} {q : Nat} {l : Bs} (h : A1.BytesAt w q l) : q < w.heap.size := by
  obtain ⟨C, h1, _⟩ := h
  exact (Array.getElem?_eq_some_iff.1 h1).1
theorem bytes_typed {w : World} {q T : Nat} {l : Bs} {cs : Array Value} (h : A1.BytesAt w q l) (hb : Bx w q T cs) (hT : T ≠ 5) : False := by
  obtain ⟨C, h1, _⟩ := h
  have := Option.some.inj (h1.symm.trans hb)
  injection this with _ e2
  exact hT e2.symm
theorem bytes_off {w : World} {B R q : Nat} {V : Nat → Value} {E : Nat → List Ent} {l : Bs} (h : A1.BytesAt w q l) (hr : RingAt w B R V E) : ¬ RBlk R V E q := fun hq => by
  obtain ⟨T, cs, hb, hT⟩ := hr.typed hq
  rcases hT with rfl | rfl | rfl <;> exact bytes_typed h hb (by decide)
theorem bytes_touch {w w' : World} {S : Nat → Prop} {q : Nat} {l : Bs} (h : A1.BytesAt w q l) (ht : Touch S w w') (hn : ¬ S q) : A1.BytesAt w' q l := by
  have hlt := bytes_lt h
  obtain ⟨C, h1, h2⟩ := h
  exact ⟨C, (ht.block q hlt hn).trans h1, h2⟩
theorem addR_len (ml : KL) (t : Int) (k : KeyM) : (addR ml t k).length ≤ ml.length + 1 := by
  unfold addR; split <;> simp
theorem pls_add {w w7 w8 wA : World} {R : Nat} {V V8 : Nat → Value} {E E8 : Nat → List Ent} {v vA : Value} {ml : KL} {t : Int} {k : KeyM} (h : PlS w w7 R V E v ml) (hb : Below w.heap.size w w8) (hr : RingAt w8 w.heap.size R V8 E8) (hst : KStep E E8 t (addL t (keysOf E t) k))
    (hbA : Below w8.heap.size w8 wA) (hv : RefAt wA w.heap.size vA (addR ml t k)) (hs : k.sec.length ≤ 1000000) : PlS w wA R V8 E8 vA (addR ml t k) := by
  refine ⟨hb.trans (hbA.mono hb.size), hr.older hbA, hv, fun s => ?_, fun e he => ?_⟩
  · rw [hst s, addR_per, h.mat t, h.mat s]
  · unfold addR at he
    split at he
    · rcases List.mem_append.1 he with he | he
      · exact h.sec e he
      · rw [List.mem_singleton.1 he]; exact hs
    · exact h.sec e he
/-- The bytes of a round, whatever they are by now. -/
def InW (w : World) (q n : Nat) : Prop := ∃ C : List Value, w.heap[q]? = some (.cells C.toArray 5 (C.length, C.length + 1)) ∧ n ≤ C.length ∧ ∀ j, j < n → ∃ m, C[j]? = some (.int .u8 m)
theorem inW_of {w : World} {q : Nat} {l : Bs} (h : A1.BytesAt w q l) : InW w q l.length := by
  obtain ⟨C, h1, h2, h3⟩ := h
  exact ⟨C, h1, h2, fun j hj => ⟨_, h3 j hj⟩⟩
theorem InW.facts {w : World} {q n j : Nat} (h : InW w q n) (hj : j < n) : (∃ m, w.cell? ⟨q, j, none⟩ = some (.int .u8 m)) ∧ w.frozen? ⟨q, j, none⟩ = false := by
  obtain ⟨C, h1, h2, h3⟩ := h
  obtain ⟨m, hm⟩ := h3 j hj
  refine ⟨⟨m, ?_⟩, ?_⟩
  · rw [cell_of_row w q j C.toArray 5 _ h1]
    simpa using hm
  · unfold World.frozen?
    rw [h1]
    simp; omega
theorem InW.set {w : World} {q n : Nat} (h : InW w q n) (j : Nat) (m : Int) : InW (w.setCell ⟨q, j, none⟩ (.int .u8 m)) q n := by
  obtain ⟨C, h1, h2, h3⟩ := h
  refine ⟨C.set j (.int .u8 m), ?_, by simpa using h2, fun i hi => ?_⟩
  · simp only [World.setCell, Array.getElem?_modify, if_pos, h1, Option.map_some, Option.isSome_none, Bool.false_eq_true, if_false, List.length_set]
    simp
  · by_cases e : j = i
    · subst e
      exact ⟨m, by rw [List.getElem?_set_self (by omega)]⟩
    · rw [List.getElem?_set_ne e]; exact h3 i hi
theorem pls_touch {w wA wx : World} {R q : Nat} {V : Nat → Value} {E : Nat → List Ent} {v : Value} {ml : KL} {l : Bs} (h : PlS w wA R V E v ml) (hy : A1.BytesAt wA q l) (hs : SecOff E q) (hq : w.heap.size ≤ q) (ht : Touch (fun b => b = q) wA wx) : PlS w wx R V E v ml :=
  ⟨h.bel.trans (ht.below h.bel.size (fun b hb => by rw [hb]; exact hq)), h.ring.touch ht (fun b hb => by rw [hb]; exact bytes_off hy h.ring) (fun b hb => by rw [hb]; exact hs),
    OwnWin.touch h.ref ht (fun b hb e => by
      subst e
      obtain ⟨cs, hc⟩ := own_typed h.ref hb
      exact bytes_typed hy hc (by decide)), h.mat, h.sec⟩
theorem revR_len (ml : KL) (t : Int) (id : Bs) (x : Int) : (revR ml t id x).length ≤ ml.length + 1 := by
  unfold revR; split
  · omega
  · rw [List.length_modify]; omega
theorem pls_rev {w w7 w8 wA : World} {R : Nat} {V V8 : Nat → Value} {E E8 : Nat → List Ent} {v vA : Value} {ml : KL} {t x : Int} {id : Bs} (h : PlS w w7 R V E v ml) (hb : Below w.heap.size w w8) (hr : RingAt w8 w.heap.size R V8 E8) (hst : KStep E E8 t (revL (keysOf E t) id x))
    (hbA : Below w8.heap.size w8 wA) (hv : RefAt wA w.heap.size vA (revR ml t id x)) : PlS w wA R V8 E8 vA (revR ml t id x) := by
  refine ⟨hb.trans (hbA.mono hb.size), hr.older hbA, hv, fun s => ?_, fun e he => ?_⟩
  · rw [hst s, revR_per, h.mat t, h.mat s]
  · unfold revR at he
    split at he
    · exact h.sec e he
    · obtain ⟨j, hj, rfl⟩ := List.getElem_of_mem he
      have hjl : j < ml.length := by rw [List.length_modify] at hj; exact hj
      rw [List.getElem_modify]
      split
      · exact h.sec ml[j] (List.getElem_mem _)
      · exact h.sec ml[j] (List.getElem_mem _)
theorem rotR_len (ml : KL) (t now life ov : Int) (sec : Bs) : (rotR ml t now life ov sec).length ≤ ml.length + 1 := by
  unfold rotR; split
  · split
    · simp
    · rw [List.length_modify]; simp
  · omega
theorem rotR_sec {ml : KL} {t now life ov : Int} {sec : Bs} (h : ∀ e ∈ ml, e.2.sec.length ≤ 1000000) (hs : sec.length ≤ 1000000) : ∀ e ∈ rotR ml t now life ov sec, e.2.sec.length ≤ 1000000 := by
  have h2 : ∀ e ∈ ml ++ [(t, newK (rotK (per ml t) now life sec))], e.2.sec.length ≤ 1000000 := fun e he => by
    rcases List.mem_append.1 he with he | he
    · exact h e he
    · rw [List.mem_singleton.1 he]; exact hs
  intro e he
  unfold rotR at he
  split at he
  · split at he
    · exact h2 e he
    · obtain ⟨j, hj, rfl⟩ := List.getElem_of_mem he
      have hjl : j < (ml ++ [(t, newK (rotK (per ml t) now life sec))]).length := by rw [List.length_modify] at hj; exact hj
      rw [List.getElem_modify]
      have h9 := h2 _ (List.getElem_mem hjl)
      split
      · exact h9
      · exact h9
  · exact h e he
theorem pls_rot {w w7 w8 wA : World} {R : Nat} {V V8 : Nat → Value} {E E8 : Nat → List Ent} {v vA : Value} {ml : KL} {t now life ov : Int} {sec : Bs} (h : PlS w w7 R V E v ml) (hb : Below w.heap.size w w8) (hr : RingAt w8 w.heap.size R V8 E8) (hst : KStep E E8 t (rotL t (keysOf E t) now life ov sec))
    (hbA : Below w8.heap.size w8 wA) (hv : RefAt wA w.heap.size vA (rotR ml t now life ov sec)) (hs : sec.length ≤ 1000000) : PlS w wA R V8 E8 vA (rotR ml t now life ov sec) :=
  ⟨hb.trans (hbA.mono hb.size), hr.older hbA, hv, fun s => by rw [hst s, rotR_per, h.mat t, h.mat s], rotR_sec h.sec hs⟩
theorem walk_big (va : Option Addr) (vc : Nat) (acts : List KAct) (w : World) (hl : acts.length ≤ 9223372036854775807) (hb : ¬ acts.length ≤ 40) :
    Calls Tryd.prog 4 #[.slice va acts.length vc] w fun e w' => e = .returned (.bool true) ∧ Below w.heap.size w w' := by
  have hb' : 40 < (acts.length : Int) := by omega
  go_enter Tryd.func4, Tryd.ntmps4
  go_wp2_with fail
  refine (awake50_any _).mono ?_
  rintro e w1 ⟨rfl, hb1⟩
  go_wp2_with fail
  refine (awake50_any _).mono ?_
  rintro e w2 ⟨rfl, hb2⟩
  go_wp2_with fail
  go_ret
  exact ⟨rfl, hb1.trans (hb2.mono hb1.size)⟩
theorem walk_ok (va : Option Addr) (vc : Nat) (acts : List KAct) (w : World) (hv : A1.RowsV actK 8 w (.slice va acts.length vc) acts) (ha : ∀ a ∈ acts, a.ok) (hl : acts.length ≤ 40) :
    Calls Tryd.prog 4 #[.slice va acts.length vc] w fun e w' => e = .returned (.bool true) ∧ Below w.heap.size w w' := by
  have HV := Lib.hid hv
  have HA := Lib.hid ha
  have hl' : ¬ 40 < (acts.length : Int) := by omega
  clear hv ha
  go_enter Tryd.func4, Tryd.ntmps4
  go_wp2_with fail
  refine (awake50_any _).mono ?_
  rintro e w1 ⟨rfl, hb1⟩
  have HB1 := Lib.hid hb1
  have hz1 := hb1.size
  clear hb1
  go_wp2_with (go_at_call 7; refine (keyNew_any _).mono ?_; rintro e w2 ⟨rfl, rfl⟩)
  have HP0 := Lib.hid (show PlS w (w1.alloc (.cells ring0 64)) w1.heap.size (fun _ => .slice none 0 0) (fun _ => []) (.slice none 0 0) [] from
    ⟨HB1.out.alloc hz1 _, ringAt_new w1 w.heap.size hz1, OwnWin.nil _ _ _ _, fun t => by unfold keysOf tlK per; split <;> rfl, fun e he => by cases he⟩)
  go_loopg [26, 4, 6, 7, 8, 9, 10, 11, 12, 13, 14] acts.length (fun q iv s4 s6 s7 s8 s9 s10 s11 s12 s13 s14 wr => ∃ (k : Nat) (ml : KL) (V : Nat → Value) (E : Nat → List Ent) (la : Option Addr) (lc : Nat), iv = .int .i64 k ∧ k ≤ acts.length ∧ Hid (acts.length ≤ q + k) ∧ s4 = .slice la ml.length lc ∧ ml.length ≤ k ∧ PlS w wr w1.heap.size V E (.slice la ml.length lc) ml)
  case atStart => exact ⟨0, [], _, _, none, 0, rfl, Nat.zero_le _, Lib.hid (by omega), rfl, Nat.le_refl _, HP0.out⟩
  case round =>
    obtain ⟨k, ml, V, E, la, lc, rfl, hk, HQ, rfl, hml, hp⟩ := hrel
    have HP := Lib.hid hp
    clear hp
    obtain ⟨gk1, hgk⟩ : ∃ gk1, gk = gk1 := ⟨_, rfl⟩
    have HGK := Lib.hid hgk
    clear hgk
    by_cases hlt : k < acts.length
    · obtain ⟨a, hak⟩ : ∃ a, acts[k]? = some a := ⟨_, List.getElem?_eq_getElem hlt⟩
      have haok := HA.out a (List.mem_of_getElem? hak)
      obtain ⟨b, o, rfl, _, hbl, hrow⟩ := A1.RowsV.rowAt HV.out hak
      obtain ⟨kd, tn, s, id, x, y, z, at_⟩ := a
      obtain ⟨hkd, htn, hsn⟩ := haok
      simp only at hkd htn hsn
      have d0 := keepC HP.out.bel (hrow 0 _ rfl)
      have d1 := keepC HP.out.bel (hrow 1 _ rfl)
      have d2 := keepC HP.out.bel (hrow 2 _ rfl)
      have d3 := keepC HP.out.bel (hrow 3 _ rfl)
      have d4 := keepC HP.out.bel (hrow 4 _ rfl)
      have d5 := keepC HP.out.bel (hrow 5 _ rfl)
      have d6 := keepC HP.out.bel (hrow 6 _ rfl)
      have d7 := keepC HP.out.bel (hrow 7 _ rfl)
      rw [Nat.add_zero] at d0
      have hb6 := (Below.refl wr.heap.size wr).alloc (Nat.le_refl _) (.cells #[.int .u8 (kd : Int), .int .u8 (tn : Int), .int .u8 (s : Int), .string ⟨id.toArray⟩, .int .i64 x, .int .i64 y, .int .i64 z, .int .i64 at_] 46)
      have HP6 := Lib.hid (HP.out.older hb6)
      have HX6 := Lib.hid (Bx.new wr 46 #[.int .u8 (kd : Int), .int .u8 (tn : Int), .int .u8 (s : Int), .string ⟨id.toArray⟩, .int .i64 x, .int .i64 y, .int .i64 z, .int .i64 at_])
      clear hak hrow hb6
      by_cases hid : id.length ≤ 100
      · have hid' : ¬ 100 < (id.length : Int) := by omega
        go_upto_region 10 with fail
        obtain ⟨w6, hw6⟩ : ∃ w6, wr.alloc (.cells #[.int .u8 (kd : Int), .int .u8 (tn : Int), .int .u8 (s : Int), .string ⟨id.toArray⟩, .int .i64 x, .int .i64 y, .int .i64 z, .int .i64 at_] 46) = w6 := ⟨_, rfl⟩
        rw [hw6] at HP6 HX6 ⊢
        clear hw6
        obtain ⟨qa, hqa⟩ : ∃ qa, wr.heap.size = qa := ⟨_, rfl⟩
        rw [hqa] at HX6 ⊢
        have HQA := Lib.hid hqa
        clear hqa d0 d1 d2 d3 d4 d5 d6 d7
        obtain ⟨c0, c1, c2, c3, c4, c5, c6, c7⟩ := actB HX6.out
        have hqz := HX6.out.lt
        go_cut [7, 8] (fun s7 s8 wx => InCut w6 s (tenB tn) s7 s8 wx)
        case first =>
          refine wp_region_held_drew (S := fun w' => w'.cell? ⟨qa, 0, none⟩ = some (.int .u8 (kd : Int)) ∧ w'.cell? ⟨qa, 1, none⟩ = some (.int .u8 (tn : Int)) ∧ w'.cell? ⟨qa, 2, none⟩ = some (.int .u8 (s : Int)) ∧ w'.cell? ⟨qa, 3, none⟩ = some (.string ⟨id.toArray⟩) ∧ w'.cell? ⟨qa, 4, none⟩ = some (.int .i64 x) ∧ w'.cell? ⟨qa, 5, none⟩ = some (.int .i64 y) ∧ w'.cell? ⟨qa, 6, none⟩ = some (.int .i64 z) ∧ w'.cell? ⟨qa, 7, none⟩ = some (.int .i64 at_)) (by kernel_rfl) (by exact ⟨c0, c1, c2, c3, c4, c5, c6, c7⟩) (fun hHeld => ?_)
          refine wpAnyH_take (i := 0) (v := ?_) (by simp only [List.getElem?_toArray, List.getElem?_cons_succ, List.getElem?_cons_zero]; rfl) (by kernel_rfl) (by kernel_rfl) (by kernel_rfl) (by intro _ _ _ h; exact h) (Or.inl ⟨by rfl, ?_⟩) (by assumption) ?_
          rotate_left
          focus (intro wT hT; (try dsimp only at hT); go_simp; try with_reducible rfl)
          try simp only [Act.put, List.setIfInBounds_toArray, List.set_cons_zero, List.set_cons_succ]
          refine wpAnyH_take (i := 2) (v := ?_) (by simp only [List.getElem?_toArray, List.getElem?_cons_succ, List.getElem?_cons_zero]; rfl) (by kernel_rfl) (by kernel_rfl) (by kernel_rfl) (by intro _ _ _ h; exact h) (Or.inl ⟨by rfl, ?_⟩) (by assumption) ?_
          rotate_left
          focus (intro wT hT; (try dsimp only at hT); go_simp; try with_reducible rfl)
          try simp only [Act.put, List.setIfInBounds_toArray, List.set_cons_zero, List.set_cons_succ]
          refine wpAnyH_take (i := 3) (v := ?_) (by simp only [List.getElem?_toArray, List.getElem?_cons_succ, List.getElem?_cons_zero]; rfl) (by kernel_rfl) (by kernel_rfl) (by kernel_rfl) (by intro _ _ _ h; exact h) (Or.inl ⟨by rfl, ?_⟩) (by assumption) ?_
          rotate_left
          focus (intro wT hT; (try dsimp only at hT); go_simp; try with_reducible rfl)
          try simp only [Act.put, List.setIfInBounds_toArray, List.set_cons_zero, List.set_cons_succ]
          refine wpAnyH_ready (rs := [1]) (by kernel_rfl) (by simp) (AllReadyH.cons (by simp only [List.getElem?_toArray, List.getElem?_cons_succ, List.getElem?_cons_zero]; rfl) (fun K hK => ?_) AllReadyH.nil)
          go_simp
          go_at_call 15; refine (tenant_any kd tn s id x y z at_ _ htn).mono ?_; rintro e wT ⟨rfl, hbT⟩; have hbwT := ((Below.refl w6.heap.size w6).drew).trans hbT; clear c0 c1 c2 c3 c4 c5 c6 c7; obtain ⟨c0, c1, c2, c3, c4, c5, c6, c7⟩ := actB (HX6.out.older hbwT)
          go_wp2_with fail
          refine hK.out _ _ (by exact ⟨c0, c1, c2, c3, c4, c5, c6, c7⟩) (fun hHe2 => ?_)
          clear hK K
          try simp only [Act.put, List.setIfInBounds_toArray, List.set_cons_zero, List.set_cons_succ]
          refine wpAnyH_ready (rs := [4]) (by kernel_rfl) (by simp) (AllReadyH.cons (by simp only [List.getElem?_toArray, List.getElem?_cons_succ, List.getElem?_cons_zero]; rfl) (fun K hK => ?_) AllReadyH.nil)
          go_simp
          go_at_call 9; refine (secret_any s _ hsn).mono ?_; rintro e wS ⟨rfl, hbS⟩; have hbwS := hbwT.trans (hbS.mono hbwT.size); clear c0 c1 c2 c3 c4 c5 c6 c7; obtain ⟨c0, c1, c2, c3, c4, c5, c6, c7⟩ := actB (HX6.out.older hbwS)
          go_wp2_with fail
          refine hK.out _ _ (by exact ⟨c0, c1, c2, c3, c4, c5, c6, c7⟩) (fun hHe3 => ?_)
          clear hK K
          try simp only [Act.put, List.setIfInBounds_toArray, List.set_cons_zero, List.set_cons_succ]
          refine wpAnyH_take (i := 6) (v := ?_) (by simp only [List.getElem?_toArray, List.getElem?_cons_succ, List.getElem?_cons_zero]; rfl) (by kernel_rfl) (by kernel_rfl) (by kernel_rfl) (by intro _ _ _ h; exact h) (Or.inl ⟨by rfl, ?_⟩) (by assumption) ?_
          rotate_left
          focus (intro wT hT; (try dsimp only at hT); go_simp; try with_reducible rfl)
          try simp only [Act.put, List.setIfInBounds_toArray, List.set_cons_zero, List.set_cons_succ]
          refine wpAnyH_ready (rs := [5]) (by kernel_rfl) (by simp) (AllReadyH.cons (by simp only [List.getElem?_toArray, List.getElem?_cons_succ, List.getElem?_cons_zero]; rfl) (fun K hK => ?_) AllReadyH.nil)
          go_simp
          refine hK.out _ _ (by exact ⟨keepC (A1.bworld_below _ _) c0, keepC (A1.bworld_below _ _) c1, keepC (A1.bworld_below _ _) c2, keepC (A1.bworld_below _ _) c3, keepC (A1.bworld_below _ _) c4, keepC (A1.bworld_below _ _) c5, keepC (A1.bworld_below _ _) c6, keepC (A1.bworld_below _ _) c7⟩) (fun hHe4 => ?_)
          clear hK K
          try simp only [Act.put, List.setIfInBounds_toArray, List.set_cons_zero, List.set_cons_succ]
          refine wpAnyH_take (i := 7) (v := ?_) (by simp only [List.getElem?_toArray, List.getElem?_cons_succ, List.getElem?_cons_zero]; rfl) (by kernel_rfl) (by kernel_rfl) (by kernel_rfl) (by intro _ _ _ h; exact h) (Or.inl ⟨by rfl, ?_⟩) (by assumption) ?_
          rotate_left
          focus (intro wT hT; (try dsimp only at hT); go_simp; try with_reducible rfl)
          try simp only [Act.put, List.setIfInBounds_toArray, List.set_cons_zero, List.set_cons_succ]
          refine wpAnyH_done (by kernel_rfl) ?_ _
          go_wp2_with fail
          go_meet
          exact ⟨rfl, wS.heap.size, A1.bcap wS (secN s), rfl, A1.bytesAt_new wS (secN s), hbwS.size, hbwS.trans ((A1.bworld_below wS (secN s)).mono hbwS.size)⟩
        case rest =>
          obtain ⟨rfl, qi, ci, rfl, hby, hqi, hb7⟩ := hcut
          obtain ⟨w7, hw7⟩ : ∃ w7, wc = w7 := ⟨_, rfl⟩
          rw [hw7] at hby hb7 ⊢
          clear hw7
          have HP7 := Lib.hid (HP6.out.older hb7)
          have HX7 := Lib.hid (HX6.out.older hb7)
          have HY7 := Lib.hid hby
          have HQI := Lib.hid hqi
          have HSO := Lib.hid (HP6.out.ring.secNew hqi)
          have hqi7 := bytes_lt hby
          have HZ7 := Lib.hid HP7.out.bel.size
          clear hby hb7 hqi c0 c1 c2 c3 c4 c5 c6 c7
          obtain ⟨c0, c1, c2, c3, c4, c5, c6, c7⟩ := actB HX7.out
          have hk6 : kd % 6 < 6 := Nat.mod_lt _ (by decide)
          obtain ⟨m6, hm6⟩ : ∃ m6, kd % 6 = m6 := ⟨_, rfl⟩
          have hmod : (kd : Int) % 6 = (m6 : Int) := by omega
          rw [hm6] at hk6
          have HMOD := Lib.hid hmod
          clear hmod hm6
          have htl := match_len HP7.out.mat (tenB tn)
          by_cases h01 : m6 = 0 ∨ m6 = 1
          · have HC := Lib.hid (HP7.out.mat (tenB tn))
            rcases h01 with rfl | rfl
            · have e0 : ((kd : Int) % 6 == 0) = true := beq_iff_eq.2 HMOD.out
              have hadd := add_any w.heap.size w1.heap.size (tenB tn) id (secN s) x y (some ⟨qi, 0, none⟩) ci V E w7 HP7.out.ring HZ7.out (by omega) (by omega) (bytesAt_src HY7.out)
              obtain ⟨cc, hcc⟩ : ∃ cc, addC (tenB tn) (keysOf E (tenB tn)) ⟨id, secN s, x, y, 0⟩ = cc := ⟨_, rfl⟩
              have HCC := Lib.hid hcc
              rw [hcc] at hadd
              have HADD := Lib.hid hadd
              clear hadd hcc
              go_wp2_with (first | (go_at_call 8; refine HADD.out.mono ?_; rintro e w8 ⟨V8, E8, rfl, hd8, hst8, _⟩; have HD8 := Lib.hid hd8; have HST8 := Lib.hid hst8; have HX8 := Lib.hid (hd8.goes.bx HP7.out.ring HX7.out (by decide) (by decide) (by decide)); clear hd8 hst8 c0 c1 c2 c3 c4 c5 c6 c7; obtain ⟨c0, c1, c2, c3, c4, c5, c6, c7⟩ := actB HX8.out) | (go_at_call 16; refine (num_errC cc _).mono ?_; rintro e w' ⟨rfl, rfl⟩))
              have HP8R := Lib.hid (HD8.out.goes.own HP7.out.ring HP7.out.ref (by decide) (by decide) (by decide))
              have HY8 := Lib.hid (bytes_touch HY7.out HD8.out.goes.touch (bytes_off HY7.out HP7.out.ring))
              have HB8 := Lib.hid (HP7.out.bel.trans (HD8.out.goes.below HP7.out.ring HZ7.out))
              have HPE := Lib.hid (HP7.out.mat (tenB tn))
              refine wp_region_held_drew (S := fun w' => w'.cell? ⟨qa, 0, none⟩ = some (.int .u8 (kd : Int)) ∧ w'.cell? ⟨qa, 1, none⟩ = some (.int .u8 (tn : Int)) ∧ w'.cell? ⟨qa, 2, none⟩ = some (.int .u8 (s : Int)) ∧ w'.cell? ⟨qa, 3, none⟩ = some (.string ⟨id.toArray⟩) ∧ w'.cell? ⟨qa, 4, none⟩ = some (.int .i64 x) ∧ w'.cell? ⟨qa, 5, none⟩ = some (.int .i64 y) ∧ w'.cell? ⟨qa, 6, none⟩ = some (.int .i64 z) ∧ w'.cell? ⟨qa, 7, none⟩ = some (.int .i64 at_)) (by kernel_rfl) (by exact ⟨c0, c1, c2, c3, c4, c5, c6, c7⟩) (fun hHeld => ?_)
              refine wpAnyH_take (i := 0) (v := ?_) (by simp only [List.getElem?_toArray, List.getElem?_cons_succ, List.getElem?_cons_zero]; rfl) (by kernel_rfl) (by kernel_rfl) (by kernel_rfl) (by intro _ _ _ h; exact h) (Or.inl ⟨by rfl, ?_⟩) (by assumption) ?_
              rotate_left
              focus (intro wT hT; (try dsimp only at hT); go_simp; try with_reducible rfl)
              try simp only [Act.put, List.setIfInBounds_toArray, List.set_cons_zero, List.set_cons_succ]
              refine wpAnyH_take (i := 1) (v := ?_) (by simp only [List.getElem?_toArray, List.getElem?_cons_succ, List.getElem?_cons_zero]; rfl) (by kernel_rfl) (by kernel_rfl) (by kernel_rfl) (by intro _ _ _ h; exact h) (Or.inl ⟨by rfl, ?_⟩) (by assumption) ?_
              rotate_left
              focus (intro wT hT; (try dsimp only at hT); go_simp; try with_reducible rfl)
              try simp only [Act.put, List.setIfInBounds_toArray, List.set_cons_zero, List.set_cons_succ]
              refine wpAnyH_take (i := 2) (v := ?_) (by simp only [List.getElem?_toArray, List.getElem?_cons_succ, List.getElem?_cons_zero]; rfl) (by kernel_rfl) (by kernel_rfl) (by kernel_rfl) (by intro _ _ _ h; exact h) (Or.inl ⟨by rfl, ?_⟩) (by assumption) ?_
              rotate_left
              focus (intro wT hT; (try dsimp only at hT); go_simp; try with_reducible rfl)
              try simp only [Act.put, List.setIfInBounds_toArray, List.set_cons_zero, List.set_cons_succ]
              refine wpAnyH_take (i := 3) (v := ?_) (by simp only [List.getElem?_toArray, List.getElem?_cons_succ, List.getElem?_cons_zero]; rfl) (by kernel_rfl) (by kernel_rfl) (by kernel_rfl) (by intro _ _ _ h; exact h) (Or.inl ⟨by rfl, ?_⟩) (by assumption) ?_
              rotate_left
              focus (intro wT hT; (try dsimp only at hT); go_simp; try with_reducible rfl)
              try simp only [Act.put, List.setIfInBounds_toArray, List.set_cons_zero, List.set_cons_succ]
              refine wpAnyH_take (i := 4) (v := ?_) (by simp only [List.getElem?_toArray, List.getElem?_cons_succ, List.getElem?_cons_zero]; rfl) (by kernel_rfl) (by kernel_rfl) (by kernel_rfl) (by intro _ _ _ h; exact h) (Or.inl ⟨by rfl, ?_⟩) (by assumption) ?_
              rotate_left
              focus (intro wT hT; (try dsimp only at hT); go_simp; try with_reducible rfl)
              try simp only [Act.put, List.setIfInBounds_toArray, List.set_cons_zero, List.set_cons_succ]
              refine wpAnyH_take (i := 5) (v := ?_) (by simp only [List.getElem?_toArray, List.getElem?_cons_succ, List.getElem?_cons_zero]; rfl) (by kernel_rfl) (by kernel_rfl) (by kernel_rfl) (by intro _ _ _ h; exact h) (Or.inl ⟨by rfl, ?_⟩) (by assumption) ?_
              rotate_left
              focus (intro wT hT; (try dsimp only at hT); go_simp; try with_reducible rfl)
              try simp only [Act.put, List.setIfInBounds_toArray, List.set_cons_zero, List.set_cons_succ]
              refine wpAnyH_take (i := 7) (v := ?_) (by simp only [List.getElem?_toArray, List.getElem?_cons_succ, List.getElem?_cons_zero]; rfl) (by kernel_rfl) (by kernel_rfl) (by kernel_rfl) (by intro _ _ _ h; exact h) (Or.inl ⟨by rfl, ?_⟩) (by assumption) ?_
              rotate_left
              focus (intro wT hT; (try dsimp only at hT); go_simp; try with_reducible rfl)
              try simp only [Act.put, List.setIfInBounds_toArray, List.set_cons_zero, List.set_cons_succ]
              refine wpAnyH_take (i := 8) (v := ?_) (by simp only [List.getElem?_toArray, List.getElem?_cons_succ, List.getElem?_cons_zero]; rfl) (by kernel_rfl) (by kernel_rfl) (by kernel_rfl) (by intro _ _ _ h; exact h) (Or.inl ⟨by rfl, ?_⟩) (by assumption) ?_
              rotate_left
              focus (intro wT hT; (try dsimp only at hT); go_simp; try with_reducible rfl)
              try simp only [Act.put, List.setIfInBounds_toArray, List.set_cons_zero, List.set_cons_succ]
              refine wpAnyH_take (i := 9) (v := ?_) (by simp only [List.getElem?_toArray, List.getElem?_cons_succ, List.getElem?_cons_zero]; rfl) (by kernel_rfl) (by kernel_rfl) (by kernel_rfl) (by intro _ _ _ h; exact h) (Or.inl ⟨by rfl, ?_⟩) (by assumption) ?_
              rotate_left
              focus (intro wT hT; (try dsimp only at hT); go_simp; try with_reducible rfl)
              try simp only [Act.put, List.setIfInBounds_toArray, List.set_cons_zero, List.set_cons_succ]
              refine wpAnyH_take (i := 10) (v := ?_) (by simp only [List.getElem?_toArray, List.getElem?_cons_succ, List.getElem?_cons_zero]; rfl) (by kernel_rfl) (by kernel_rfl) (by kernel_rfl) (by intro _ _ _ h; exact h) (Or.inl ⟨by rfl, ?_⟩) (by assumption) ?_
              rotate_left
              focus (intro wT hT; (try dsimp only at hT); go_simp; try with_reducible rfl)
              try simp only [Act.put, List.setIfInBounds_toArray, List.set_cons_zero, List.set_cons_succ]
              refine wpAnyH_ready (rs := [6]) (by kernel_rfl) (by simp) (AllReadyH.cons (by simp only [List.getElem?_toArray, List.getElem?_cons_succ, List.getElem?_cons_zero]; rfl) (fun K hK => ?_) AllReadyH.nil)
              go_simp
              go_at_call 9; refine (secret_any s _ hsn).mono ?_; rintro e w9 ⟨rfl, hb9⟩; have hbw9 : Below w8.heap.size w8 w9 := ((Below.refl w8.heap.size w8).drew).trans hb9; clear c0 c1 c2 c3 c4 c5 c6 c7; obtain ⟨c0, c1, c2, c3, c4, c5, c6, c7⟩ := actB (HX8.out.older hbw9)
              go_wp2_with fail
              refine hK.out _ _ (by exact ⟨c0, c1, c2, c3, c4, c5, c6, c7⟩) (fun hHe2 => ?_)
              clear hK K
              try simp only [Act.put, List.setIfInBounds_toArray, List.set_cons_zero, List.set_cons_succ]
              refine wpAnyH_take (i := 11) (v := ?_) (by simp only [List.getElem?_toArray, List.getElem?_cons_succ, List.getElem?_cons_zero]; rfl) (by kernel_rfl) (by kernel_rfl) (by kernel_rfl) (by intro _ _ _ h; exact h) (Or.inl ⟨by rfl, ?_⟩) (by assumption) ?_
              rotate_left
              focus (intro wT hT; (try dsimp only at hT); go_simp; try with_reducible rfl)
              try simp only [Act.put, List.setIfInBounds_toArray, List.set_cons_zero, List.set_cons_succ]
              refine wpAnyH_ready (rs := [12]) (by kernel_rfl) (by simp) (AllReadyH.cons (by simp only [List.getElem?_toArray, List.getElem?_cons_succ, List.getElem?_cons_zero]; rfl) (fun K hK => ?_) AllReadyH.nil)
              go_simp
              go_at_call 17; refine (refAdd_any w.heap.size (.slice la ml.length lc) ml (tenB tn) id (secN s) x y _ (RefAt.older HP8R.out hbw9) (Nat.le_trans HB8.out.size hbw9.size) (by omega) (by omega)).mono ?_; rw [← HPE.out, HCC.out]; rintro e wA ⟨vA, rfl, hdA, _⟩; have hbwA : Below w8.heap.size w8 wA := hbw9.trans (hdA.bel.mono hbw9.size); clear c0 c1 c2 c3 c4 c5 c6 c7; obtain ⟨c0, c1, c2, c3, c4, c5, c6, c7⟩ := actB (HX8.out.older hbwA)
              go_wp2_with fail
              refine hK.out _ _ (by exact ⟨c0, c1, c2, c3, c4, c5, c6, c7⟩) (fun hHe3 => ?_)
              clear hK K
              try simp only [Act.put, List.setIfInBounds_toArray, List.set_cons_zero, List.set_cons_succ]
              refine wpAnyH_take (i := 13) (v := ?_) (by simp only [List.getElem?_toArray, List.getElem?_cons_succ, List.getElem?_cons_zero]; rfl) (by kernel_rfl) (by kernel_rfl) (by kernel_rfl) (by intro _ _ _ h; exact h) (Or.inl ⟨by rfl, ?_⟩) (by assumption) ?_
              rotate_left
              focus (intro wT hT; (try dsimp only at hT); go_simp; try with_reducible rfl)
              try simp only [Act.put, List.setIfInBounds_toArray, List.set_cons_zero, List.set_cons_succ]
              refine wpAnyH_take (i := 14) (v := ?_) (by simp only [List.getElem?_toArray, List.getElem?_cons_succ, List.getElem?_cons_zero]; rfl) (by kernel_rfl) (by kernel_rfl) (by kernel_rfl) (by intro _ _ _ h; exact h) (Or.inl ⟨by rfl, ?_⟩) (by assumption) ?_
              rotate_left
              focus (intro wT hT; (try dsimp only at hT); go_simp; try with_reducible rfl)
              try simp only [Act.put, List.setIfInBounds_toArray, List.set_cons_zero, List.set_cons_succ]
              refine wpAnyH_take (i := 15) (v := ?_) (by simp only [List.getElem?_toArray, List.getElem?_cons_succ, List.getElem?_cons_zero]; rfl) (by kernel_rfl) (by kernel_rfl) (by kernel_rfl) (by intro _ _ _ h; exact h) (Or.inl ⟨by rfl, ?_⟩) (by assumption) ?_
              rotate_left
              focus (intro wT hT; (try dsimp only at hT); go_simp; try with_reducible rfl)
              try simp only [Act.put, List.setIfInBounds_toArray, List.set_cons_zero, List.set_cons_succ]
              refine wpAnyH_take (i := 16) (v := ?_) (by simp only [List.getElem?_toArray, List.getElem?_cons_succ, List.getElem?_cons_zero]; rfl) (by kernel_rfl) (by kernel_rfl) (by kernel_rfl) (by intro _ _ _ h; exact h) (Or.inl ⟨by rfl, ?_⟩) (by assumption) ?_
              rotate_left
              focus (intro wT hT; (try dsimp only at hT); go_simp; try with_reducible rfl)
              try simp only [Act.put, List.setIfInBounds_toArray, List.set_cons_zero, List.set_cons_succ]
              refine wpAnyH_take (i := 17) (v := ?_) (by simp only [List.getElem?_toArray, List.getElem?_cons_succ, List.getElem?_cons_zero]; rfl) (by kernel_rfl) (by kernel_rfl) (by kernel_rfl) (by intro _ _ _ h; exact h) (Or.inl ⟨by rfl, ?_⟩) (by assumption) ?_
              rotate_left
              focus (intro wT hT; (try dsimp only at hT); go_simp; try with_reducible rfl)
              try simp only [Act.put, List.setIfInBounds_toArray, List.set_cons_zero, List.set_cons_succ]
              refine wpAnyH_done (by kernel_rfl) ?_ _
              have HPA0 := Lib.hid (show PlS w wA w1.heap.size V8 E8 vA (addR ml (tenB tn) ⟨id, secN s, x, y, 0⟩) from pls_add HP7.out HB8.out HD8.out.ring HST8.out hbwA hdA.ref (by rw [secN_len]; omega))
              have hmlA := addR_len ml (tenB tn) ⟨id, secN s, x, y, 0⟩
              generalize addR ml (tenB tn) ⟨id, secN s, x, y, 0⟩ = ml8 at HPA0 hmlA hdA
              have HSOA := Lib.hid (HD8.out.sec qi hqi7 HSO.out)
              have HYA := Lib.hid (bytes_touch HY8.out (Touch.of_below (S := fun _ => False) hbwA (Nat.le_refl _)) (fun h => h))
              have HXA := Lib.hid (HX8.out.older hbwA)
              obtain ⟨la8, lc8, hv8, _⟩ := HPA0.out.ref.slot
              subst hv8
              have HPA := Lib.hid HPA0.out
              have hsl := secN_len s
              have hsn80 : (secN s).length < 80 := by omega
              clear HPA0 hdA c0 c1 c2 c3 c4 c5 c6 c7 hsl
              go_wp2_with fail
              go_loopg [14, 133] (secN s).length (fun q2 s14 jv wx => ∃ j : Nat, jv = .int .i64 j ∧ j ≤ (secN s).length ∧ Hid ((secN s).length ≤ q2 + j) ∧ InW wx qi (secN s).length ∧ Touch (fun b => b = qi) wA wx)
              case atStart => exact ⟨0, rfl, Nat.zero_le _, Lib.hid (by omega), inW_of HYA.out, Touch.refl _ _⟩
              case round =>
                obtain ⟨j, rfl, hj, HQ2, hin, htch⟩ := hrel
                have HIN := Lib.hid hin
                have HTC := Lib.hid htch
                by_cases hlt2 : j < (secN s).length
                · obtain ⟨⟨mv, d0⟩, f0⟩ := hin.facts hlt2
                  have hj1 : (0 : Int) ≤ (j : Int) := by omega
                  have hj2 : (j : Int) < ((secN s).length : Int) := by omega
                  clear hin htch
                  go_wp2_with fail
                  go_roundg (gk - 1)
                  case rel => exact ⟨j + 1, by go_num, by omega, Lib.hid (by have := HQ2.out; omega), HIN.out.set j _, HTC.out.setCell (a := ⟨qi, j, none⟩) rfl _⟩
                  case measure => have := HQ2.out; omega
                · have HPR := Lib.hid (pls_touch HPA.out HYA.out HSOA.out (Nat.le_trans HP6.out.bel.size HQI.out) htch)
                  have HXR := Lib.hid (HXA.out.touch htch (fun e => bytes_typed (e ▸ HYA.out) HXA.out (by decide)))
                  have hml97 : ml8.length ≤ 97 := by omega
                  obtain ⟨c0, c1, c2, c3, c4, c5, c6, c7⟩ := actB HXR.out
                  clear hin htch
                  go_wp2_with (go_at_call 21; refine (is_any w.heap.size w1.heap.size w.heap.size V8 E8 (.slice la8 ml8.length lc8) ml8 kd tn s id x y z at_ _ HPR.out.ring HPR.out.ref HPR.out.mat hml97 htn HPR.out.secs).mono ?_; rintro e wZ ⟨rfl, hbZ⟩; have HPZ := Lib.hid (HPR.out.older hbZ); clear hbZ)
                  go_roundg (gk1 - 1)
                  case rel => exact ⟨k + 1, ml8, V8, E8, la8, lc8, by go_num, by omega, Lib.hid (by have := HQ.out; have := HGK.out; omega), rfl, by omega, HPZ.out⟩
                  case measure => have := HQ.out; have := HGK.out; omega
            · have e0 : ((kd : Int) % 6 == 0) = false := beq_eq_false_iff_ne.2 (by rw [HMOD.out]; decide)
              have e1 : ((kd : Int) % 6 == 1) = true := beq_iff_eq.2 HMOD.out
              have hadd := add_any w.heap.size w1.heap.size (tenB tn) id (secN s) x y (some ⟨qi, 0, none⟩) ci V E w7 HP7.out.ring HZ7.out (by omega) (by omega) (bytesAt_src HY7.out)
              obtain ⟨cc, hcc⟩ : ∃ cc, addC (tenB tn) (keysOf E (tenB tn)) ⟨id, secN s, x, y, 0⟩ = cc := ⟨_, rfl⟩
              have HCC := Lib.hid hcc
              rw [hcc] at hadd
              have HADD := Lib.hid hadd
              clear hadd hcc
              go_wp2_with (first | (go_at_call 8; refine HADD.out.mono ?_; rintro e w8 ⟨V8, E8, rfl, hd8, hst8, _⟩; have HD8 := Lib.hid hd8; have HST8 := Lib.hid hst8; have HX8 := Lib.hid (hd8.goes.bx HP7.out.ring HX7.out (by decide) (by decide) (by decide)); clear hd8 hst8 c0 c1 c2 c3 c4 c5 c6 c7; obtain ⟨c0, c1, c2, c3, c4, c5, c6, c7⟩ := actB HX8.out) | (go_at_call 16; refine (num_errC cc _).mono ?_; rintro e w' ⟨rfl, rfl⟩))
              have HP8R := Lib.hid (HD8.out.goes.own HP7.out.ring HP7.out.ref (by decide) (by decide) (by decide))
              have HY8 := Lib.hid (bytes_touch HY7.out HD8.out.goes.touch (bytes_off HY7.out HP7.out.ring))
              have HB8 := Lib.hid (HP7.out.bel.trans (HD8.out.goes.below HP7.out.ring HZ7.out))
              have HPE := Lib.hid (HP7.out.mat (tenB tn))
              refine wp_region_held_drew (S := fun w' => w'.cell? ⟨qa, 0, none⟩ = some (.int .u8 (kd : Int)) ∧ w'.cell? ⟨qa, 1, none⟩ = some (.int .u8 (tn : Int)) ∧ w'.cell? ⟨qa, 2, none⟩ = some (.int .u8 (s : Int)) ∧ w'.cell? ⟨qa, 3, none⟩ = some (.string ⟨id.toArray⟩) ∧ w'.cell? ⟨qa, 4, none⟩ = some (.int .i64 x) ∧ w'.cell? ⟨qa, 5, none⟩ = some (.int .i64 y) ∧ w'.cell? ⟨qa, 6, none⟩ = some (.int .i64 z) ∧ w'.cell? ⟨qa, 7, none⟩ = some (.int .i64 at_)) (by kernel_rfl) (by exact ⟨c0, c1, c2, c3, c4, c5, c6, c7⟩) (fun hHeld => ?_)
              refine wpAnyH_take (i := 0) (v := ?_) (by simp only [List.getElem?_toArray, List.getElem?_cons_succ, List.getElem?_cons_zero]; rfl) (by kernel_rfl) (by kernel_rfl) (by kernel_rfl) (by intro _ _ _ h; exact h) (Or.inl ⟨by rfl, ?_⟩) (by assumption) ?_
              rotate_left
              focus (intro wT hT; (try dsimp only at hT); go_simp; try with_reducible rfl)
              try simp only [Act.put, List.setIfInBounds_toArray, List.set_cons_zero, List.set_cons_succ]
              refine wpAnyH_take (i := 1) (v := ?_) (by simp only [List.getElem?_toArray, List.getElem?_cons_succ, List.getElem?_cons_zero]; rfl) (by kernel_rfl) (by kernel_rfl) (by kernel_rfl) (by intro _ _ _ h; exact h) (Or.inl ⟨by rfl, ?_⟩) (by assumption) ?_
              rotate_left
              focus (intro wT hT; (try dsimp only at hT); go_simp; try with_reducible rfl)
              try simp only [Act.put, List.setIfInBounds_toArray, List.set_cons_zero, List.set_cons_succ]
              refine wpAnyH_take (i := 2) (v := ?_) (by simp only [List.getElem?_toArray, List.getElem?_cons_succ, List.getElem?_cons_zero]; rfl) (by kernel_rfl) (by kernel_rfl) (by kernel_rfl) (by intro _ _ _ h; exact h) (Or.inl ⟨by rfl, ?_⟩) (by assumption) ?_
              rotate_left
              focus (intro wT hT; (try dsimp only at hT); go_simp; try with_reducible rfl)
              try simp only [Act.put, List.setIfInBounds_toArray, List.set_cons_zero, List.set_cons_succ]
              refine wpAnyH_take (i := 3) (v := ?_) (by simp only [List.getElem?_toArray, List.getElem?_cons_succ, List.getElem?_cons_zero]; rfl) (by kernel_rfl) (by kernel_rfl) (by kernel_rfl) (by intro _ _ _ h; exact h) (Or.inl ⟨by rfl, ?_⟩) (by assumption) ?_
              rotate_left
              focus (intro wT hT; (try dsimp only at hT); go_simp; try with_reducible rfl)
              try simp only [Act.put, List.setIfInBounds_toArray, List.set_cons_zero, List.set_cons_succ]
              refine wpAnyH_take (i := 4) (v := ?_) (by simp only [List.getElem?_toArray, List.getElem?_cons_succ, List.getElem?_cons_zero]; rfl) (by kernel_rfl) (by kernel_rfl) (by kernel_rfl) (by intro _ _ _ h; exact h) (Or.inl ⟨by rfl, ?_⟩) (by assumption) ?_
              rotate_left
              focus (intro wT hT; (try dsimp only at hT); go_simp; try with_reducible rfl)
              try simp only [Act.put, List.setIfInBounds_toArray, List.set_cons_zero, List.set_cons_succ]
              refine wpAnyH_take (i := 5) (v := ?_) (by simp only [List.getElem?_toArray, List.getElem?_cons_succ, List.getElem?_cons_zero]; rfl) (by kernel_rfl) (by kernel_rfl) (by kernel_rfl) (by intro _ _ _ h; exact h) (Or.inl ⟨by rfl, ?_⟩) (by assumption) ?_
              rotate_left
              focus (intro wT hT; (try dsimp only at hT); go_simp; try with_reducible rfl)
              try simp only [Act.put, List.setIfInBounds_toArray, List.set_cons_zero, List.set_cons_succ]
              refine wpAnyH_take (i := 7) (v := ?_) (by simp only [List.getElem?_toArray, List.getElem?_cons_succ, List.getElem?_cons_zero]; rfl) (by kernel_rfl) (by kernel_rfl) (by kernel_rfl) (by intro _ _ _ h; exact h) (Or.inl ⟨by rfl, ?_⟩) (by assumption) ?_
              rotate_left
              focus (intro wT hT; (try dsimp only at hT); go_simp; try with_reducible rfl)
              try simp only [Act.put, List.setIfInBounds_toArray, List.set_cons_zero, List.set_cons_succ]
              refine wpAnyH_take (i := 8) (v := ?_) (by simp only [List.getElem?_toArray, List.getElem?_cons_succ, List.getElem?_cons_zero]; rfl) (by kernel_rfl) (by kernel_rfl) (by kernel_rfl) (by intro _ _ _ h; exact h) (Or.inl ⟨by rfl, ?_⟩) (by assumption) ?_
              rotate_left
              focus (intro wT hT; (try dsimp only at hT); go_simp; try with_reducible rfl)
              try simp only [Act.put, List.setIfInBounds_toArray, List.set_cons_zero, List.set_cons_succ]
              refine wpAnyH_take (i := 9) (v := ?_) (by simp only [List.getElem?_toArray, List.getElem?_cons_succ, List.getElem?_cons_zero]; rfl) (by kernel_rfl) (by kernel_rfl) (by kernel_rfl) (by intro _ _ _ h; exact h) (Or.inl ⟨by rfl, ?_⟩) (by assumption) ?_
              rotate_left
              focus (intro wT hT; (try dsimp only at hT); go_simp; try with_reducible rfl)
              try simp only [Act.put, List.setIfInBounds_toArray, List.set_cons_zero, List.set_cons_succ]
              refine wpAnyH_take (i := 10) (v := ?_) (by simp only [List.getElem?_toArray, List.getElem?_cons_succ, List.getElem?_cons_zero]; rfl) (by kernel_rfl) (by kernel_rfl) (by kernel_rfl) (by intro _ _ _ h; exact h) (Or.inl ⟨by rfl, ?_⟩) (by assumption) ?_
              rotate_left
              focus (intro wT hT; (try dsimp only at hT); go_simp; try with_reducible rfl)
              try simp only [Act.put, List.setIfInBounds_toArray, List.set_cons_zero, List.set_cons_succ]
              refine wpAnyH_ready (rs := [6]) (by kernel_rfl) (by simp) (AllReadyH.cons (by simp only [List.getElem?_toArray, List.getElem?_cons_succ, List.getElem?_cons_zero]; rfl) (fun K hK => ?_) AllReadyH.nil)
              go_simp
              go_at_call 9; refine (secret_any s _ hsn).mono ?_; rintro e w9 ⟨rfl, hb9⟩; have hbw9 : Below w8.heap.size w8 w9 := ((Below.refl w8.heap.size w8).drew).trans hb9; clear c0 c1 c2 c3 c4 c5 c6 c7; obtain ⟨c0, c1, c2, c3, c4, c5, c6, c7⟩ := actB (HX8.out.older hbw9)
              go_wp2_with fail
              refine hK.out _ _ (by exact ⟨c0, c1, c2, c3, c4, c5, c6, c7⟩) (fun hHe2 => ?_)
              clear hK K
              try simp only [Act.put, List.setIfInBounds_toArray, List.set_cons_zero, List.set_cons_succ]
              refine wpAnyH_take (i := 11) (v := ?_) (by simp only [List.getElem?_toArray, List.getElem?_cons_succ, List.getElem?_cons_zero]; rfl) (by kernel_rfl) (by kernel_rfl) (by kernel_rfl) (by intro _ _ _ h; exact h) (Or.inl ⟨by rfl, ?_⟩) (by assumption) ?_
              rotate_left
              focus (intro wT hT; (try dsimp only at hT); go_simp; try with_reducible rfl)
              try simp only [Act.put, List.setIfInBounds_toArray, List.set_cons_zero, List.set_cons_succ]
              refine wpAnyH_ready (rs := [12]) (by kernel_rfl) (by simp) (AllReadyH.cons (by simp only [List.getElem?_toArray, List.getElem?_cons_succ, List.getElem?_cons_zero]; rfl) (fun K hK => ?_) AllReadyH.nil)
              go_simp
              go_at_call 17; refine (refAdd_any w.heap.size (.slice la ml.length lc) ml (tenB tn) id (secN s) x y _ (RefAt.older HP8R.out hbw9) (Nat.le_trans HB8.out.size hbw9.size) (by omega) (by omega)).mono ?_; rw [← HPE.out, HCC.out]; rintro e wA ⟨vA, rfl, hdA, _⟩; have hbwA : Below w8.heap.size w8 wA := hbw9.trans (hdA.bel.mono hbw9.size); clear c0 c1 c2 c3 c4 c5 c6 c7; obtain ⟨c0, c1, c2, c3, c4, c5, c6, c7⟩ := actB (HX8.out.older hbwA)
              go_wp2_with fail
              refine hK.out _ _ (by exact ⟨c0, c1, c2, c3, c4, c5, c6, c7⟩) (fun hHe3 => ?_)
              clear hK K
              try simp only [Act.put, List.setIfInBounds_toArray, List.set_cons_zero, List.set_cons_succ]
              refine wpAnyH_take (i := 13) (v := ?_) (by simp only [List.getElem?_toArray, List.getElem?_cons_succ, List.getElem?_cons_zero]; rfl) (by kernel_rfl) (by kernel_rfl) (by kernel_rfl) (by intro _ _ _ h; exact h) (Or.inl ⟨by rfl, ?_⟩) (by assumption) ?_
              rotate_left
              focus (intro wT hT; (try dsimp only at hT); go_simp; try with_reducible rfl)
              try simp only [Act.put, List.setIfInBounds_toArray, List.set_cons_zero, List.set_cons_succ]
              refine wpAnyH_take (i := 14) (v := ?_) (by simp only [List.getElem?_toArray, List.getElem?_cons_succ, List.getElem?_cons_zero]; rfl) (by kernel_rfl) (by kernel_rfl) (by kernel_rfl) (by intro _ _ _ h; exact h) (Or.inl ⟨by rfl, ?_⟩) (by assumption) ?_
              rotate_left
              focus (intro wT hT; (try dsimp only at hT); go_simp; try with_reducible rfl)
              try simp only [Act.put, List.setIfInBounds_toArray, List.set_cons_zero, List.set_cons_succ]
              refine wpAnyH_take (i := 15) (v := ?_) (by simp only [List.getElem?_toArray, List.getElem?_cons_succ, List.getElem?_cons_zero]; rfl) (by kernel_rfl) (by kernel_rfl) (by kernel_rfl) (by intro _ _ _ h; exact h) (Or.inl ⟨by rfl, ?_⟩) (by assumption) ?_
              rotate_left
              focus (intro wT hT; (try dsimp only at hT); go_simp; try with_reducible rfl)
              try simp only [Act.put, List.setIfInBounds_toArray, List.set_cons_zero, List.set_cons_succ]
              refine wpAnyH_take (i := 16) (v := ?_) (by simp only [List.getElem?_toArray, List.getElem?_cons_succ, List.getElem?_cons_zero]; rfl) (by kernel_rfl) (by kernel_rfl) (by kernel_rfl) (by intro _ _ _ h; exact h) (Or.inl ⟨by rfl, ?_⟩) (by assumption) ?_
              rotate_left
              focus (intro wT hT; (try dsimp only at hT); go_simp; try with_reducible rfl)
              try simp only [Act.put, List.setIfInBounds_toArray, List.set_cons_zero, List.set_cons_succ]
              refine wpAnyH_take (i := 17) (v := ?_) (by simp only [List.getElem?_toArray, List.getElem?_cons_succ, List.getElem?_cons_zero]; rfl) (by kernel_rfl) (by kernel_rfl) (by kernel_rfl) (by intro _ _ _ h; exact h) (Or.inl ⟨by rfl, ?_⟩) (by assumption) ?_
              rotate_left
              focus (intro wT hT; (try dsimp only at hT); go_simp; try with_reducible rfl)
              try simp only [Act.put, List.setIfInBounds_toArray, List.set_cons_zero, List.set_cons_succ]
              refine wpAnyH_done (by kernel_rfl) ?_ _
              have HPA0 := Lib.hid (show PlS w wA w1.heap.size V8 E8 vA (addR ml (tenB tn) ⟨id, secN s, x, y, 0⟩) from pls_add HP7.out HB8.out HD8.out.ring HST8.out hbwA hdA.ref (by rw [secN_len]; omega))
              have hmlA := addR_len ml (tenB tn) ⟨id, secN s, x, y, 0⟩
              generalize addR ml (tenB tn) ⟨id, secN s, x, y, 0⟩ = ml8 at HPA0 hmlA hdA
              have HSOA := Lib.hid (HD8.out.sec qi hqi7 HSO.out)
              have HYA := Lib.hid (bytes_touch HY8.out (Touch.of_below (S := fun _ => False) hbwA (Nat.le_refl _)) (fun h => h))
              have HXA := Lib.hid (HX8.out.older hbwA)
              obtain ⟨la8, lc8, hv8, _⟩ := HPA0.out.ref.slot
              subst hv8
              have HPA := Lib.hid HPA0.out
              have hsl := secN_len s
              have hsn80 : (secN s).length < 80 := by omega
              clear HPA0 hdA c0 c1 c2 c3 c4 c5 c6 c7 hsl
              go_wp2_with fail
              go_loopg [14, 133] (secN s).length (fun q2 s14 jv wx => ∃ j : Nat, jv = .int .i64 j ∧ j ≤ (secN s).length ∧ Hid ((secN s).length ≤ q2 + j) ∧ InW wx qi (secN s).length ∧ Touch (fun b => b = qi) wA wx)
              case atStart => exact ⟨0, rfl, Nat.zero_le _, Lib.hid (by omega), inW_of HYA.out, Touch.refl _ _⟩
              case round =>
                obtain ⟨j, rfl, hj, HQ2, hin, htch⟩ := hrel
                have HIN := Lib.hid hin
                have HTC := Lib.hid htch
                by_cases hlt2 : j < (secN s).length
                · obtain ⟨⟨mv, d0⟩, f0⟩ := hin.facts hlt2
                  have hj1 : (0 : Int) ≤ (j : Int) := by omega
                  have hj2 : (j : Int) < ((secN s).length : Int) := by omega
                  clear hin htch
                  go_wp2_with fail
                  go_roundg (gk - 1)
                  case rel => exact ⟨j + 1, by go_num, by omega, Lib.hid (by have := HQ2.out; omega), HIN.out.set j _, HTC.out.setCell (a := ⟨qi, j, none⟩) rfl _⟩
                  case measure => have := HQ2.out; omega
                · have HPR := Lib.hid (pls_touch HPA.out HYA.out HSOA.out (Nat.le_trans HP6.out.bel.size HQI.out) htch)
                  have HXR := Lib.hid (HXA.out.touch htch (fun e => bytes_typed (e ▸ HYA.out) HXA.out (by decide)))
                  have hml97 : ml8.length ≤ 97 := by omega
                  obtain ⟨c0, c1, c2, c3, c4, c5, c6, c7⟩ := actB HXR.out
                  clear hin htch
                  go_wp2_with (go_at_call 21; refine (is_any w.heap.size w1.heap.size w.heap.size V8 E8 (.slice la8 ml8.length lc8) ml8 kd tn s id x y z at_ _ HPR.out.ring HPR.out.ref HPR.out.mat hml97 htn HPR.out.secs).mono ?_; rintro e wZ ⟨rfl, hbZ⟩; have HPZ := Lib.hid (HPR.out.older hbZ); clear hbZ)
                  go_roundg (gk1 - 1)
                  case rel => exact ⟨k + 1, ml8, V8, E8, la8, lc8, by go_num, by omega, Lib.hid (by have := HQ.out; have := HGK.out; omega), rfl, by omega, HPZ.out⟩
                  case measure => have := HQ.out; have := HGK.out; omega
          · have h0 : ((kd : Int) % 6 == 0) = false := beq_eq_false_iff_ne.2 (by rw [HMOD.out]; omega)
            have h1 : ((kd : Int) % 6 == 1) = false := beq_eq_false_iff_ne.2 (by rw [HMOD.out]; omega)
            by_cases h2 : m6 = 2
            · subst h2
              have e2 : ((kd : Int) % 6 == 2) = true := beq_iff_eq.2 HMOD.out
              have hrv := revoke_any w.heap.size w1.heap.size (tenB tn) id x V E w7 HP7.out.ring (by omega)
              obtain ⟨cc, hcc⟩ : ∃ cc, revC (keysOf E (tenB tn)) id = cc := ⟨_, rfl⟩
              have HCC := Lib.hid hcc
              rw [hcc] at hrv
              have HRV := Lib.hid hrv
              have HPE := Lib.hid (HP7.out.mat (tenB tn))
              clear hrv hcc
              go_wp2_with (first | (go_at_call 18; refine HRV.out.mono ?_; rintro e w8 ⟨E8, rfl, hd8, hst8⟩; have HD8 := Lib.hid hd8; have HST8 := Lib.hid hst8; have HX8 := Lib.hid (hd8.goes.bx HP7.out.ring HX7.out (by decide) (by decide) (by decide)); have HP8R := Lib.hid (hd8.goes.own HP7.out.ring HP7.out.ref (by decide) (by decide) (by decide)); have HY8 := Lib.hid (bytes_touch HY7.out hd8.goes.touch (bytes_off HY7.out HP7.out.ring)); have HB8 := Lib.hid (HP7.out.bel.trans (hd8.goes.below HP7.out.ring HZ7.out)); clear hd8 hst8 c0 c1 c2 c3 c4 c5 c6 c7; obtain ⟨c0, c1, c2, c3, c4, c5, c6, c7⟩ := actB HX8.out) | (go_at_call 16; refine (num_errC cc _).mono ?_; rintro e w' ⟨rfl, rfl⟩) | (go_at_call 19; refine (refRevoke_any w.heap.size (.slice la ml.length lc) ml (tenB tn) id x _ HP8R.out HB8.out.size (by omega)).mono ?_; rw [← HPE.out, HCC.out]; rintro e wA ⟨vA, rfl, hdA⟩; have hbwA : Below w8.heap.size w8 wA := hdA.bel; obtain ⟨la8, lc8, hv8, _⟩ := hdA.ref.slot; subst hv8; clear c0 c1 c2 c3 c4 c5 c6 c7; obtain ⟨c0, c1, c2, c3, c4, c5, c6, c7⟩ := actB (HX8.out.older hbwA)))
              have HPA0 := Lib.hid (show PlS w wA w1.heap.size V E8 (.slice la8 (revR ml (tenB tn) id x).length lc8) (revR ml (tenB tn) id x) from pls_rev HP7.out HB8.out HD8.out.ring HST8.out hbwA hdA.ref)
              have hmlA := revR_len ml (tenB tn) id x
              generalize revR ml (tenB tn) id x = ml8 at HPA0 hmlA hdA
              have HSOA := Lib.hid (HD8.out.sec qi hqi7 HSO.out)
              have HYA := Lib.hid (bytes_touch HY8.out (Touch.of_below (S := fun _ => False) hbwA (Nat.le_refl _)) (fun h => h))
              have HXA := Lib.hid (HX8.out.older hbwA)
              have HPA := Lib.hid HPA0.out
              have hsl := secN_len s
              have hsn80 : (secN s).length < 80 := by omega
              clear HPA0 hdA c0 c1 c2 c3 c4 c5 c6 c7 hsl
              go_wp2_with fail
              go_loopg [14, 133] (secN s).length (fun q2 s14 jv wx => ∃ j : Nat, jv = .int .i64 j ∧ j ≤ (secN s).length ∧ Hid ((secN s).length ≤ q2 + j) ∧ InW wx qi (secN s).length ∧ Touch (fun b => b = qi) wA wx)
              case atStart => exact ⟨0, rfl, Nat.zero_le _, Lib.hid (by omega), inW_of HYA.out, Touch.refl _ _⟩
              case round =>
                obtain ⟨j, rfl, hj, HQ2, hin, htch⟩ := hrel
                have HIN := Lib.hid hin
                have HTC := Lib.hid htch
                by_cases hlt2 : j < (secN s).length
                · obtain ⟨⟨mv, d0⟩, f0⟩ := hin.facts hlt2
                  have hj1 : (0 : Int) ≤ (j : Int) := by omega
                  have hj2 : (j : Int) < ((secN s).length : Int) := by omega
                  clear hin htch
                  go_wp2_with fail
                  go_roundg (gk - 1)
                  case rel => exact ⟨j + 1, by go_num, by omega, Lib.hid (by have := HQ2.out; omega), HIN.out.set j _, HTC.out.setCell (a := ⟨qi, j, none⟩) rfl _⟩
                  case measure => have := HQ2.out; omega
                · have HPR := Lib.hid (pls_touch HPA.out HYA.out HSOA.out (Nat.le_trans HP6.out.bel.size HQI.out) htch)
                  have HXR := Lib.hid (HXA.out.touch htch (fun e => bytes_typed (e ▸ HYA.out) HXA.out (by decide)))
                  have hml97 : ml8.length ≤ 97 := by omega
                  obtain ⟨c0, c1, c2, c3, c4, c5, c6, c7⟩ := actB HXR.out
                  clear hin htch
                  go_wp2_with (go_at_call 21; refine (is_any w.heap.size w1.heap.size w.heap.size V E8 (.slice la8 ml8.length lc8) ml8 kd tn s id x y z at_ _ HPR.out.ring HPR.out.ref HPR.out.mat hml97 htn HPR.out.secs).mono ?_; rintro e wZ ⟨rfl, hbZ⟩; have HPZ := Lib.hid (HPR.out.older hbZ); clear hbZ)
                  go_roundg (gk1 - 1)
                  case rel => exact ⟨k + 1, ml8, V, E8, la8, lc8, by go_num, by omega, Lib.hid (by have := HQ.out; have := HGK.out; omega), rfl, by omega, HPZ.out⟩
                  case measure => have := HQ.out; have := HGK.out; omega
            · have e2 : ((kd : Int) % 6 == 2) = false := beq_eq_false_iff_ne.2 (by rw [HMOD.out]; omega)
              by_cases h5 : m6 = 5
              · have e3 : ((kd : Int) % 6 == 3) = false := beq_eq_false_iff_ne.2 (by rw [HMOD.out]; omega)
                have e4 : ((kd : Int) % 6 == 4) = false := beq_eq_false_iff_ne.2 (by rw [HMOD.out]; omega)
                clear h01 h2 h5
                have HPA0 := Lib.hid HP7.out
                have hmlA : ml.length ≤ ml.length + 1 := Nat.le_succ _
                have HSOA := Lib.hid HSO.out
                have HYA := Lib.hid HY7.out
                have HXA := Lib.hid HX7.out
                have HPA := Lib.hid HPA0.out
                have hsl := secN_len s
                have hsn80 : (secN s).length < 80 := by omega
                clear HPA0 hsl
                go_wp2_with fail
                clear c0 c1 c2 c3 c4 c5 c6 c7
                go_loopg [14, 133] (secN s).length (fun q2 s14 jv wx => ∃ j : Nat, jv = .int .i64 j ∧ j ≤ (secN s).length ∧ Hid ((secN s).length ≤ q2 + j) ∧ InW wx qi (secN s).length ∧ Touch (fun b => b = qi) w7 wx)
                case atStart => exact ⟨0, rfl, Nat.zero_le _, Lib.hid (by omega), inW_of HYA.out, Touch.refl _ _⟩
                case round =>
                  obtain ⟨j, rfl, hj, HQ2, hin, htch⟩ := hrel
                  have HIN := Lib.hid hin
                  have HTC := Lib.hid htch
                  by_cases hlt2 : j < (secN s).length
                  · obtain ⟨⟨mv, d0⟩, f0⟩ := hin.facts hlt2
                    have hj1 : (0 : Int) ≤ (j : Int) := by omega
                    have hj2 : (j : Int) < ((secN s).length : Int) := by omega
                    clear hin htch
                    go_wp2_with fail
                    go_roundg (gk - 1)
                    case rel => exact ⟨j + 1, by go_num, by omega, Lib.hid (by have := HQ2.out; omega), HIN.out.set j _, HTC.out.setCell (a := ⟨qi, j, none⟩) rfl _⟩
                    case measure => have := HQ2.out; omega
                  · have HPR := Lib.hid (pls_touch HPA.out HYA.out HSOA.out (Nat.le_trans HP6.out.bel.size HQI.out) htch)
                    have HXR := Lib.hid (HXA.out.touch htch (fun e => bytes_typed (e ▸ HYA.out) HXA.out (by decide)))
                    have hml97 : ml.length ≤ 97 := by omega
                    obtain ⟨c0, c1, c2, c3, c4, c5, c6, c7⟩ := actB HXR.out
                    clear hin htch
                    go_wp2_with (go_at_call 21; refine (is_any w.heap.size w1.heap.size w.heap.size V E (.slice la ml.length lc) ml kd tn s id x y z at_ _ HPR.out.ring HPR.out.ref HPR.out.mat hml97 htn HPR.out.secs).mono ?_; rintro e wZ ⟨rfl, hbZ⟩; have HPZ := Lib.hid (HPR.out.older hbZ); clear hbZ)
                    go_roundg (gk1 - 1)
                    case rel => exact ⟨k + 1, ml, V, E, la, lc, by go_num, by omega, Lib.hid (by have := HQ.out; have := HGK.out; omega), rfl, by omega, HPZ.out⟩
                    case measure => have := HQ.out; have := HGK.out; omega
              · by_cases h3 : m6 = 3
                · subst h3
                  have e3 : ((kd : Int) % 6 == 3) = true := beq_iff_eq.2 HMOD.out
                  clear h01 h2 h5
                  have hrt := rotate_any w.heap.size w1.heap.size (tenB tn) x y z (secN s) (some ⟨qi, 0, none⟩) ci V E w7 HP7.out.ring HZ7.out (by omega) (bytesAt_src HY7.out)
                  obtain ⟨cc, hcc⟩ : ∃ cc, rotC (tenB tn) (keysOf E (tenB tn)) x y (secN s) = cc := ⟨_, rfl⟩
                  obtain ⟨iv, hiv⟩ : ∃ iv : Bs, rotIdV cc (keysOf E (tenB tn)) = .string ⟨iv.toArray⟩ := by unfold rotIdV; split <;> exact ⟨_, rfl⟩
                  have HCC := Lib.hid hcc
                  have HIV := Lib.hid hiv
                  rw [hcc, hiv] at hrt
                  have HRT := Lib.hid hrt
                  have HPE := Lib.hid (HP7.out.mat (tenB tn))
                  clear hrt hcc hiv
                  go_wp2_with (first | (go_at_call 10; refine HRT.out.mono ?_; rintro e w8 ⟨V8, E8, rfl, hd8, hst8⟩; have HD8 := Lib.hid hd8; have HST8 := Lib.hid hst8; have HX8 := Lib.hid (hd8.goes.bx HP7.out.ring HX7.out (by decide) (by decide) (by decide)); have HP8R := Lib.hid (hd8.goes.own HP7.out.ring HP7.out.ref (by decide) (by decide) (by decide)); have HY8 := Lib.hid (bytes_touch HY7.out hd8.goes.touch (bytes_off HY7.out HP7.out.ring)); have HB8 := Lib.hid (HP7.out.bel.trans (hd8.goes.below HP7.out.ring HZ7.out)); clear hd8 hst8 c0 c1 c2 c3 c4 c5 c6 c7; obtain ⟨c0, c1, c2, c3, c4, c5, c6, c7⟩ := actB HX8.out))
                  refine wp_region_held_drew (S := fun w' => w'.cell? ⟨qa, 0, none⟩ = some (.int .u8 (kd : Int)) ∧ w'.cell? ⟨qa, 1, none⟩ = some (.int .u8 (tn : Int)) ∧ w'.cell? ⟨qa, 2, none⟩ = some (.int .u8 (s : Int)) ∧ w'.cell? ⟨qa, 3, none⟩ = some (.string ⟨id.toArray⟩) ∧ w'.cell? ⟨qa, 4, none⟩ = some (.int .i64 x) ∧ w'.cell? ⟨qa, 5, none⟩ = some (.int .i64 y) ∧ w'.cell? ⟨qa, 6, none⟩ = some (.int .i64 z) ∧ w'.cell? ⟨qa, 7, none⟩ = some (.int .i64 at_)) (by kernel_rfl) (by exact ⟨c0, c1, c2, c3, c4, c5, c6, c7⟩) (fun hHeld => ?_)
                  refine wpAnyH_take (i := 0) (v := ?_) (by simp only [List.getElem?_toArray, List.getElem?_cons_succ, List.getElem?_cons_zero]; rfl) (by kernel_rfl) (by kernel_rfl) (by kernel_rfl) (by intro _ _ _ h; exact h) (Or.inl ⟨by rfl, ?_⟩) (by assumption) ?_
                  rotate_left
                  focus (intro wT hT; (try dsimp only at hT); go_simp; try with_reducible rfl)
                  try simp only [Act.put, List.setIfInBounds_toArray, List.set_cons_zero, List.set_cons_succ]
                  refine wpAnyH_take (i := 1) (v := ?_) (by simp only [List.getElem?_toArray, List.getElem?_cons_succ, List.getElem?_cons_zero]; rfl) (by kernel_rfl) (by kernel_rfl) (by kernel_rfl) (by intro _ _ _ h; exact h) (Or.inl ⟨by rfl, ?_⟩) (by assumption) ?_
                  rotate_left
                  focus (intro wT hT; (try dsimp only at hT); go_simp; try with_reducible rfl)
                  try simp only [Act.put, List.setIfInBounds_toArray, List.set_cons_zero, List.set_cons_succ]
                  refine wpAnyH_take (i := 2) (v := ?_) (by simp only [List.getElem?_toArray, List.getElem?_cons_succ, List.getElem?_cons_zero]; rfl) (by kernel_rfl) (by kernel_rfl) (by kernel_rfl) (by intro _ _ _ h; exact h) (Or.inl ⟨by rfl, ?_⟩) (by assumption) ?_
                  rotate_left
                  focus (intro wT hT; (try dsimp only at hT); go_simp; try with_reducible rfl)
                  try simp only [Act.put, List.setIfInBounds_toArray, List.set_cons_zero, List.set_cons_succ]
                  refine wpAnyH_take (i := 3) (v := ?_) (by simp only [List.getElem?_toArray, List.getElem?_cons_succ, List.getElem?_cons_zero]; rfl) (by kernel_rfl) (by kernel_rfl) (by kernel_rfl) (by intro _ _ _ h; exact h) (Or.inl ⟨by rfl, ?_⟩) (by assumption) ?_
                  rotate_left
                  focus (intro wT hT; (try dsimp only at hT); go_simp; try with_reducible rfl)
                  try simp only [Act.put, List.setIfInBounds_toArray, List.set_cons_zero, List.set_cons_succ]
                  refine wpAnyH_take (i := 4) (v := ?_) (by simp only [List.getElem?_toArray, List.getElem?_cons_succ, List.getElem?_cons_zero]; rfl) (by kernel_rfl) (by kernel_rfl) (by kernel_rfl) (by intro _ _ _ h; exact h) (Or.inl ⟨by rfl, ?_⟩) (by assumption) ?_
                  rotate_left
                  focus (intro wT hT; (try dsimp only at hT); go_simp; try with_reducible rfl)
                  try simp only [Act.put, List.setIfInBounds_toArray, List.set_cons_zero, List.set_cons_succ]
                  refine wpAnyH_take (i := 5) (v := ?_) (by simp only [List.getElem?_toArray, List.getElem?_cons_succ, List.getElem?_cons_zero]; rfl) (by kernel_rfl) (by kernel_rfl) (by kernel_rfl) (by intro _ _ _ h; exact h) (Or.inl ⟨by rfl, ?_⟩) (by assumption) ?_
                  rotate_left
                  focus (intro wT hT; (try dsimp only at hT); go_simp; try with_reducible rfl)
                  try simp only [Act.put, List.setIfInBounds_toArray, List.set_cons_zero, List.set_cons_succ]
                  refine wpAnyH_take (i := 6) (v := ?_) (by simp only [List.getElem?_toArray, List.getElem?_cons_succ, List.getElem?_cons_zero]; rfl) (by kernel_rfl) (by kernel_rfl) (by kernel_rfl) (by intro _ _ _ h; exact h) (Or.inl ⟨by rfl, ?_⟩) (by assumption) ?_
                  rotate_left
                  focus (intro wT hT; (try dsimp only at hT); go_simp; try with_reducible rfl)
                  try simp only [Act.put, List.setIfInBounds_toArray, List.set_cons_zero, List.set_cons_succ]
                  refine wpAnyH_take (i := 7) (v := ?_) (by simp only [List.getElem?_toArray, List.getElem?_cons_succ, List.getElem?_cons_zero]; rfl) (by kernel_rfl) (by kernel_rfl) (by kernel_rfl) (by intro _ _ _ h; exact h) (Or.inl ⟨by rfl, ?_⟩) (by assumption) ?_
                  rotate_left
                  focus (intro wT hT; (try dsimp only at hT); go_simp; try with_reducible rfl)
                  try simp only [Act.put, List.setIfInBounds_toArray, List.set_cons_zero, List.set_cons_succ]
                  refine wpAnyH_take (i := 8) (v := ?_) (by simp only [List.getElem?_toArray, List.getElem?_cons_succ, List.getElem?_cons_zero]; rfl) (by kernel_rfl) (by kernel_rfl) (by kernel_rfl) (by intro _ _ _ h; exact h) (Or.inl ⟨by rfl, ?_⟩) (by assumption) ?_
                  rotate_left
                  focus (intro wT hT; (try dsimp only at hT); go_simp; try with_reducible rfl)
                  try simp only [Act.put, List.setIfInBounds_toArray, List.set_cons_zero, List.set_cons_succ]
                  refine wpAnyH_take (i := 9) (v := ?_) (by simp only [List.getElem?_toArray, List.getElem?_cons_succ, List.getElem?_cons_zero]; rfl) (by kernel_rfl) (by kernel_rfl) (by kernel_rfl) (by intro _ _ _ h; exact h) (Or.inl ⟨by rfl, ?_⟩) (by assumption) ?_
                  rotate_left
                  focus (intro wT hT; (try dsimp only at hT); go_simp; try with_reducible rfl)
                  try simp only [Act.put, List.setIfInBounds_toArray, List.set_cons_zero, List.set_cons_succ]
                  refine wpAnyH_ready (rs := [10]) (by kernel_rfl) (by simp) (AllReadyH.cons (by simp only [List.getElem?_toArray, List.getElem?_cons_succ, List.getElem?_cons_zero]; rfl) (fun K hK => ?_) AllReadyH.nil)
                  go_simp
                  go_at_call 9; refine (secret_any s _ hsn).mono ?_; rintro e w9 ⟨rfl, hb9⟩; have hbw9 : Below w8.heap.size w8 w9 := ((Below.refl w8.heap.size w8).drew).trans hb9; clear c0 c1 c2 c3 c4 c5 c6 c7; obtain ⟨c0, c1, c2, c3, c4, c5, c6, c7⟩ := actB (HX8.out.older hbw9)
                  go_wp2_with fail
                  refine hK.out _ _ (by exact ⟨c0, c1, c2, c3, c4, c5, c6, c7⟩) (fun hHe2 => ?_)
                  clear hK K
                  try simp only [Act.put, List.setIfInBounds_toArray, List.set_cons_zero, List.set_cons_succ]
                  refine wpAnyH_ready (rs := [11]) (by kernel_rfl) (by simp) (AllReadyH.cons (by simp only [List.getElem?_toArray, List.getElem?_cons_succ, List.getElem?_cons_zero]; rfl) (fun K hK => ?_) AllReadyH.nil)
                  go_simp
                  go_at_call 20; refine (refRotate_any w.heap.size (.slice la ml.length lc) ml (tenB tn) x y z (secN s) _ (RefAt.older HP8R.out hbw9) (Nat.le_trans HB8.out.size hbw9.size) (by omega)).mono ?_; rw [← HPE.out, HCC.out, HIV.out]; rintro e wA ⟨vA, rfl, hdA⟩; have hbwA : Below w8.heap.size w8 wA := hbw9.trans (hdA.bel.mono hbw9.size); clear c0 c1 c2 c3 c4 c5 c6 c7; obtain ⟨c0, c1, c2, c3, c4, c5, c6, c7⟩ := actB (HX8.out.older hbwA)
                  go_wp2_with fail
                  refine hK.out _ _ (by exact ⟨c0, c1, c2, c3, c4, c5, c6, c7⟩) (fun hHe3 => ?_)
                  clear hK K
                  try simp only [Act.put, List.setIfInBounds_toArray, List.set_cons_zero, List.set_cons_succ]
                  refine wpAnyH_take (i := 12) (v := ?_) (by simp only [List.getElem?_toArray, List.getElem?_cons_succ, List.getElem?_cons_zero]; rfl) (by kernel_rfl) (by kernel_rfl) (by kernel_rfl) (by intro _ _ _ h; exact h) (Or.inl ⟨by rfl, ?_⟩) (by assumption) ?_
                  rotate_left
                  focus (intro wT hT; (try dsimp only at hT); go_simp; try with_reducible rfl)
                  try simp only [Act.put, List.setIfInBounds_toArray, List.set_cons_zero, List.set_cons_succ]
                  refine wpAnyH_take (i := 13) (v := ?_) (by simp only [List.getElem?_toArray, List.getElem?_cons_succ, List.getElem?_cons_zero]; rfl) (by kernel_rfl) (by kernel_rfl) (by kernel_rfl) (by intro _ _ _ h; exact h) (Or.inl ⟨by rfl, ?_⟩) (by assumption) ?_
                  rotate_left
                  focus (intro wT hT; (try dsimp only at hT); go_simp; try with_reducible rfl)
                  try simp only [Act.put, List.setIfInBounds_toArray, List.set_cons_zero, List.set_cons_succ]
                  refine wpAnyH_take (i := 14) (v := ?_) (by simp only [List.getElem?_toArray, List.getElem?_cons_succ, List.getElem?_cons_zero]; rfl) (by kernel_rfl) (by kernel_rfl) (by kernel_rfl) (by intro _ _ _ h; exact h) (Or.inl ⟨by rfl, ?_⟩) (by assumption) ?_
                  rotate_left
                  focus (intro wT hT; (try dsimp only at hT); go_simp; try with_reducible rfl)
                  try simp only [Act.put, List.setIfInBounds_toArray, List.set_cons_zero, List.set_cons_succ]
                  refine wpAnyH_take (i := 15) (v := ?_) (by simp only [List.getElem?_toArray, List.getElem?_cons_succ, List.getElem?_cons_zero]; rfl) (by kernel_rfl) (by kernel_rfl) (by kernel_rfl) (by intro _ _ _ h; exact h) (Or.inl ⟨by rfl, ?_⟩) (by assumption) ?_
                  rotate_left
                  focus (intro wT hT; (try dsimp only at hT); go_simp; try with_reducible rfl)
                  try simp only [Act.put, List.setIfInBounds_toArray, List.set_cons_zero, List.set_cons_succ]
                  refine wpAnyH_take (i := 16) (v := ?_) (by simp only [List.getElem?_toArray, List.getElem?_cons_succ, List.getElem?_cons_zero]; rfl) (by kernel_rfl) (by kernel_rfl) (by kernel_rfl) (by intro _ _ _ h; exact h) (Or.inl ⟨by rfl, ?_⟩) (by assumption) ?_
                  rotate_left
                  focus (intro wT hT; (try dsimp only at hT); go_simp; try with_reducible rfl)
                  try simp only [Act.put, List.setIfInBounds_toArray, List.set_cons_zero, List.set_cons_succ]
                  refine wpAnyH_take (i := 17) (v := ?_) (by simp only [List.getElem?_toArray, List.getElem?_cons_succ, List.getElem?_cons_zero]; rfl) (by kernel_rfl) (by kernel_rfl) (by kernel_rfl) (by intro _ _ _ h; exact h) (Or.inl ⟨by rfl, ?_⟩) (by assumption) ?_
                  rotate_left
                  focus (intro wT hT; (try dsimp only at hT); go_simp; try with_reducible rfl)
                  try simp only [Act.put, List.setIfInBounds_toArray, List.set_cons_zero, List.set_cons_succ]
                  refine wpAnyH_take (i := 18) (v := ?_) (by simp only [List.getElem?_toArray, List.getElem?_cons_succ, List.getElem?_cons_zero]; rfl) (by kernel_rfl) (by kernel_rfl) (by kernel_rfl) (by intro _ _ _ h; exact h) (Or.inl ⟨by rfl, ?_⟩) (by assumption) ?_
                  rotate_left
                  focus (intro wT hT; (try dsimp only at hT); go_simp; try with_reducible rfl)
                  try simp only [Act.put, List.setIfInBounds_toArray, List.set_cons_zero, List.set_cons_succ]
                  refine wpAnyH_done (by kernel_rfl) ?_ _
                  have HPA0 := Lib.hid (show PlS w wA w1.heap.size V8 E8 vA (rotR ml (tenB tn) x y z (secN s)) from pls_rot HP7.out HB8.out HD8.out.ring HST8.out hbwA hdA.ref (by rw [secN_len]; omega))
                  have hmlA := rotR_len ml (tenB tn) x y z (secN s)
                  generalize rotR ml (tenB tn) x y z (secN s) = ml8 at HPA0 hmlA hdA
                  have HSOA := Lib.hid (HD8.out.sec qi hqi7 HSO.out)
                  have HYA := Lib.hid (bytes_touch HY8.out (Touch.of_below (S := fun _ => False) hbwA (Nat.le_refl _)) (fun h => h))
                  have HXA := Lib.hid (HX8.out.older hbwA)
                  obtain ⟨la8, lc8, hv8, _⟩ := HPA0.out.ref.slot
                  subst hv8
                  have HPA := Lib.hid HPA0.out
                  have hsl := secN_len s
                  have hsn80 : (secN s).length < 80 := by omega
                  clear HPA0 hdA c0 c1 c2 c3 c4 c5 c6 c7 hsl
                  go_wp2_with (go_at_call 16; refine (num_errC cc _).mono ?_; rintro e w' ⟨rfl, rfl⟩)
                  go_loopg [14, 133] (secN s).length (fun q2 s14 jv wx => ∃ j : Nat, jv = .int .i64 j ∧ j ≤ (secN s).length ∧ Hid ((secN s).length ≤ q2 + j) ∧ InW wx qi (secN s).length ∧ Touch (fun b => b = qi) wA wx)
                  case atStart => exact ⟨0, rfl, Nat.zero_le _, Lib.hid (by omega), inW_of HYA.out, Touch.refl _ _⟩
                  case round =>
                    obtain ⟨j, rfl, hj, HQ2, hin, htch⟩ := hrel
                    have HIN := Lib.hid hin
                    have HTC := Lib.hid htch
                    by_cases hlt2 : j < (secN s).length
                    · obtain ⟨⟨mv, d0⟩, f0⟩ := hin.facts hlt2
                      have hj1 : (0 : Int) ≤ (j : Int) := by omega
                      have hj2 : (j : Int) < ((secN s).length : Int) := by omega
                      clear hin htch
                      go_wp2_with fail
                      go_roundg (gk - 1)
                      case rel => exact ⟨j + 1, by go_num, by omega, Lib.hid (by have := HQ2.out; omega), HIN.out.set j _, HTC.out.setCell (a := ⟨qi, j, none⟩) rfl _⟩
                      case measure => have := HQ2.out; omega
                    · have HPR := Lib.hid (pls_touch HPA.out HYA.out HSOA.out (Nat.le_trans HP6.out.bel.size HQI.out) htch)
                      have HXR := Lib.hid (HXA.out.touch htch (fun e => bytes_typed (e ▸ HYA.out) HXA.out (by decide)))
                      have hml97 : ml8.length ≤ 97 := by omega
                      obtain ⟨c0, c1, c2, c3, c4, c5, c6, c7⟩ := actB HXR.out
                      clear hin htch
                      go_wp2_with (go_at_call 21; refine (is_any w.heap.size w1.heap.size w.heap.size V8 E8 (.slice la8 ml8.length lc8) ml8 kd tn s id x y z at_ _ HPR.out.ring HPR.out.ref HPR.out.mat hml97 htn HPR.out.secs).mono ?_; rintro e wZ ⟨rfl, hbZ⟩; have HPZ := Lib.hid (HPR.out.older hbZ); clear hbZ)
                      go_roundg (gk1 - 1)
                      case rel => exact ⟨k + 1, ml8, V8, E8, la8, lc8, by go_num, by omega, Lib.hid (by have := HQ.out; have := HGK.out; omega), rfl, by omega, HPZ.out⟩
                      case measure => have := HQ.out; have := HGK.out; omega
                · have e3 : ((kd : Int) % 6 == 3) = false := beq_eq_false_iff_ne.2 (by rw [HMOD.out]; omega)
                  have e4 : ((kd : Int) % 6 == 4) = true := beq_iff_eq.2 (by rw [HMOD.out]; omega)
                  clear h01 h2 h5 h3
                  have hrt := rotate_any w.heap.size w1.heap.size (tenB tn) x y z (secN s) (some ⟨qi, 0, none⟩) ci V E w7 HP7.out.ring HZ7.out (by omega) (bytesAt_src HY7.out)
                  obtain ⟨cc, hcc⟩ : ∃ cc, rotC (tenB tn) (keysOf E (tenB tn)) x y (secN s) = cc := ⟨_, rfl⟩
                  obtain ⟨iv, hiv⟩ : ∃ iv : Bs, rotIdV cc (keysOf E (tenB tn)) = .string ⟨iv.toArray⟩ := by unfold rotIdV; split <;> exact ⟨_, rfl⟩
                  have HCC := Lib.hid hcc
                  have HIV := Lib.hid hiv
                  rw [hcc, hiv] at hrt
                  have HRT := Lib.hid hrt
                  have HPE := Lib.hid (HP7.out.mat (tenB tn))
                  clear hrt hcc hiv
                  go_wp2_with (first | (go_at_call 10; refine HRT.out.mono ?_; rintro e w8 ⟨V8, E8, rfl, hd8, hst8⟩; have HD8 := Lib.hid hd8; have HST8 := Lib.hid hst8; have HX8 := Lib.hid (hd8.goes.bx HP7.out.ring HX7.out (by decide) (by decide) (by decide)); have HP8R := Lib.hid (hd8.goes.own HP7.out.ring HP7.out.ref (by decide) (by decide) (by decide)); have HY8 := Lib.hid (bytes_touch HY7.out hd8.goes.touch (bytes_off HY7.out HP7.out.ring)); have HB8 := Lib.hid (HP7.out.bel.trans (hd8.goes.below HP7.out.ring HZ7.out)); clear hd8 hst8 c0 c1 c2 c3 c4 c5 c6 c7; obtain ⟨c0, c1, c2, c3, c4, c5, c6, c7⟩ := actB HX8.out))
                  refine wp_region_held_drew (S := fun w' => w'.cell? ⟨qa, 0, none⟩ = some (.int .u8 (kd : Int)) ∧ w'.cell? ⟨qa, 1, none⟩ = some (.int .u8 (tn : Int)) ∧ w'.cell? ⟨qa, 2, none⟩ = some (.int .u8 (s : Int)) ∧ w'.cell? ⟨qa, 3, none⟩ = some (.string ⟨id.toArray⟩) ∧ w'.cell? ⟨qa, 4, none⟩ = some (.int .i64 x) ∧ w'.cell? ⟨qa, 5, none⟩ = some (.int .i64 y) ∧ w'.cell? ⟨qa, 6, none⟩ = some (.int .i64 z) ∧ w'.cell? ⟨qa, 7, none⟩ = some (.int .i64 at_)) (by kernel_rfl) (by exact ⟨c0, c1, c2, c3, c4, c5, c6, c7⟩) (fun hHeld => ?_)
                  refine wpAnyH_take (i := 0) (v := ?_) (by simp only [List.getElem?_toArray, List.getElem?_cons_succ, List.getElem?_cons_zero]; rfl) (by kernel_rfl) (by kernel_rfl) (by kernel_rfl) (by intro _ _ _ h; exact h) (Or.inl ⟨by rfl, ?_⟩) (by assumption) ?_
                  rotate_left
                  focus (intro wT hT; (try dsimp only at hT); go_simp; try with_reducible rfl)
                  try simp only [Act.put, List.setIfInBounds_toArray, List.set_cons_zero, List.set_cons_succ]
                  refine wpAnyH_take (i := 1) (v := ?_) (by simp only [List.getElem?_toArray, List.getElem?_cons_succ, List.getElem?_cons_zero]; rfl) (by kernel_rfl) (by kernel_rfl) (by kernel_rfl) (by intro _ _ _ h; exact h) (Or.inl ⟨by rfl, ?_⟩) (by assumption) ?_
                  rotate_left
                  focus (intro wT hT; (try dsimp only at hT); go_simp; try with_reducible rfl)
                  try simp only [Act.put, List.setIfInBounds_toArray, List.set_cons_zero, List.set_cons_succ]
                  refine wpAnyH_take (i := 2) (v := ?_) (by simp only [List.getElem?_toArray, List.getElem?_cons_succ, List.getElem?_cons_zero]; rfl) (by kernel_rfl) (by kernel_rfl) (by kernel_rfl) (by intro _ _ _ h; exact h) (Or.inl ⟨by rfl, ?_⟩) (by assumption) ?_
                  rotate_left
                  focus (intro wT hT; (try dsimp only at hT); go_simp; try with_reducible rfl)
                  try simp only [Act.put, List.setIfInBounds_toArray, List.set_cons_zero, List.set_cons_succ]
                  refine wpAnyH_take (i := 3) (v := ?_) (by simp only [List.getElem?_toArray, List.getElem?_cons_succ, List.getElem?_cons_zero]; rfl) (by kernel_rfl) (by kernel_rfl) (by kernel_rfl) (by intro _ _ _ h; exact h) (Or.inl ⟨by rfl, ?_⟩) (by assumption) ?_
                  rotate_left
                  focus (intro wT hT; (try dsimp only at hT); go_simp; try with_reducible rfl)
                  try simp only [Act.put, List.setIfInBounds_toArray, List.set_cons_zero, List.set_cons_succ]
                  refine wpAnyH_take (i := 4) (v := ?_) (by simp only [List.getElem?_toArray, List.getElem?_cons_succ, List.getElem?_cons_zero]; rfl) (by kernel_rfl) (by kernel_rfl) (by kernel_rfl) (by intro _ _ _ h; exact h) (Or.inl ⟨by rfl, ?_⟩) (by assumption) ?_
                  rotate_left
                  focus (intro wT hT; (try dsimp only at hT); go_simp; try with_reducible rfl)
                  try simp only [Act.put, List.setIfInBounds_toArray, List.set_cons_zero, List.set_cons_succ]
                  refine wpAnyH_take (i := 5) (v := ?_) (by simp only [List.getElem?_toArray, List.getElem?_cons_succ, List.getElem?_cons_zero]; rfl) (by kernel_rfl) (by kernel_rfl) (by kernel_rfl) (by intro _ _ _ h; exact h) (Or.inl ⟨by rfl, ?_⟩) (by assumption) ?_
                  rotate_left
                  focus (intro wT hT; (try dsimp only at hT); go_simp; try with_reducible rfl)
                  try simp only [Act.put, List.setIfInBounds_toArray, List.set_cons_zero, List.set_cons_succ]
                  refine wpAnyH_take (i := 6) (v := ?_) (by simp only [List.getElem?_toArray, List.getElem?_cons_succ, List.getElem?_cons_zero]; rfl) (by kernel_rfl) (by kernel_rfl) (by kernel_rfl) (by intro _ _ _ h; exact h) (Or.inl ⟨by rfl, ?_⟩) (by assumption) ?_
                  rotate_left
                  focus (intro wT hT; (try dsimp only at hT); go_simp; try with_reducible rfl)
                  try simp only [Act.put, List.setIfInBounds_toArray, List.set_cons_zero, List.set_cons_succ]
                  refine wpAnyH_take (i := 7) (v := ?_) (by simp only [List.getElem?_toArray, List.getElem?_cons_succ, List.getElem?_cons_zero]; rfl) (by kernel_rfl) (by kernel_rfl) (by kernel_rfl) (by intro _ _ _ h; exact h) (Or.inl ⟨by rfl, ?_⟩) (by assumption) ?_
                  rotate_left
                  focus (intro wT hT; (try dsimp only at hT); go_simp; try with_reducible rfl)
                  try simp only [Act.put, List.setIfInBounds_toArray, List.set_cons_zero, List.set_cons_succ]
                  refine wpAnyH_take (i := 8) (v := ?_) (by simp only [List.getElem?_toArray, List.getElem?_cons_succ, List.getElem?_cons_zero]; rfl) (by kernel_rfl) (by kernel_rfl) (by kernel_rfl) (by intro _ _ _ h; exact h) (Or.inl ⟨by rfl, ?_⟩) (by assumption) ?_
                  rotate_left
                  focus (intro wT hT; (try dsimp only at hT); go_simp; try with_reducible rfl)
                  try simp only [Act.put, List.setIfInBounds_toArray, List.set_cons_zero, List.set_cons_succ]
                  refine wpAnyH_take (i := 9) (v := ?_) (by simp only [List.getElem?_toArray, List.getElem?_cons_succ, List.getElem?_cons_zero]; rfl) (by kernel_rfl) (by kernel_rfl) (by kernel_rfl) (by intro _ _ _ h; exact h) (Or.inl ⟨by rfl, ?_⟩) (by assumption) ?_
                  rotate_left
                  focus (intro wT hT; (try dsimp only at hT); go_simp; try with_reducible rfl)
                  try simp only [Act.put, List.setIfInBounds_toArray, List.set_cons_zero, List.set_cons_succ]
                  refine wpAnyH_ready (rs := [10]) (by kernel_rfl) (by simp) (AllReadyH.cons (by simp only [List.getElem?_toArray, List.getElem?_cons_succ, List.getElem?_cons_zero]; rfl) (fun K hK => ?_) AllReadyH.nil)
                  go_simp
                  go_at_call 9; refine (secret_any s _ hsn).mono ?_; rintro e w9 ⟨rfl, hb9⟩; have hbw9 : Below w8.heap.size w8 w9 := ((Below.refl w8.heap.size w8).drew).trans hb9; clear c0 c1 c2 c3 c4 c5 c6 c7; obtain ⟨c0, c1, c2, c3, c4, c5, c6, c7⟩ := actB (HX8.out.older hbw9)
                  go_wp2_with fail
                  refine hK.out _ _ (by exact ⟨c0, c1, c2, c3, c4, c5, c6, c7⟩) (fun hHe2 => ?_)
                  clear hK K
                  try simp only [Act.put, List.setIfInBounds_toArray, List.set_cons_zero, List.set_cons_succ]
                  refine wpAnyH_ready (rs := [11]) (by kernel_rfl) (by simp) (AllReadyH.cons (by simp only [List.getElem?_toArray, List.getElem?_cons_succ, List.getElem?_cons_zero]; rfl) (fun K hK => ?_) AllReadyH.nil)
                  go_simp
                  go_at_call 20; refine (refRotate_any w.heap.size (.slice la ml.length lc) ml (tenB tn) x y z (secN s) _ (RefAt.older HP8R.out hbw9) (Nat.le_trans HB8.out.size hbw9.size) (by omega)).mono ?_; rw [← HPE.out, HCC.out, HIV.out]; rintro e wA ⟨vA, rfl, hdA⟩; have hbwA : Below w8.heap.size w8 wA := hbw9.trans (hdA.bel.mono hbw9.size); clear c0 c1 c2 c3 c4 c5 c6 c7; obtain ⟨c0, c1, c2, c3, c4, c5, c6, c7⟩ := actB (HX8.out.older hbwA)
                  go_wp2_with fail
                  refine hK.out _ _ (by exact ⟨c0, c1, c2, c3, c4, c5, c6, c7⟩) (fun hHe3 => ?_)
                  clear hK K
                  try simp only [Act.put, List.setIfInBounds_toArray, List.set_cons_zero, List.set_cons_succ]
                  refine wpAnyH_take (i := 12) (v := ?_) (by simp only [List.getElem?_toArray, List.getElem?_cons_succ, List.getElem?_cons_zero]; rfl) (by kernel_rfl) (by kernel_rfl) (by kernel_rfl) (by intro _ _ _ h; exact h) (Or.inl ⟨by rfl, ?_⟩) (by assumption) ?_
                  rotate_left
                  focus (intro wT hT; (try dsimp only at hT); go_simp; try with_reducible rfl)
                  try simp only [Act.put, List.setIfInBounds_toArray, List.set_cons_zero, List.set_cons_succ]
                  refine wpAnyH_take (i := 13) (v := ?_) (by simp only [List.getElem?_toArray, List.getElem?_cons_succ, List.getElem?_cons_zero]; rfl) (by kernel_rfl) (by kernel_rfl) (by kernel_rfl) (by intro _ _ _ h; exact h) (Or.inl ⟨by rfl, ?_⟩) (by assumption) ?_
                  rotate_left
                  focus (intro wT hT; (try dsimp only at hT); go_simp; try with_reducible rfl)
                  try simp only [Act.put, List.setIfInBounds_toArray, List.set_cons_zero, List.set_cons_succ]
                  refine wpAnyH_take (i := 14) (v := ?_) (by simp only [List.getElem?_toArray, List.getElem?_cons_succ, List.getElem?_cons_zero]; rfl) (by kernel_rfl) (by kernel_rfl) (by kernel_rfl) (by intro _ _ _ h; exact h) (Or.inl ⟨by rfl, ?_⟩) (by assumption) ?_
                  rotate_left
                  focus (intro wT hT; (try dsimp only at hT); go_simp; try with_reducible rfl)
                  try simp only [Act.put, List.setIfInBounds_toArray, List.set_cons_zero, List.set_cons_succ]
                  refine wpAnyH_take (i := 15) (v := ?_) (by simp only [List.getElem?_toArray, List.getElem?_cons_succ, List.getElem?_cons_zero]; rfl) (by kernel_rfl) (by kernel_rfl) (by kernel_rfl) (by intro _ _ _ h; exact h) (Or.inl ⟨by rfl, ?_⟩) (by assumption) ?_
                  rotate_left
                  focus (intro wT hT; (try dsimp only at hT); go_simp; try with_reducible rfl)
                  try simp only [Act.put, List.setIfInBounds_toArray, List.set_cons_zero, List.set_cons_succ]
                  refine wpAnyH_take (i := 16) (v := ?_) (by simp only [List.getElem?_toArray, List.getElem?_cons_succ, List.getElem?_cons_zero]; rfl) (by kernel_rfl) (by kernel_rfl) (by kernel_rfl) (by intro _ _ _ h; exact h) (Or.inl ⟨by rfl, ?_⟩) (by assumption) ?_
                  rotate_left
                  focus (intro wT hT; (try dsimp only at hT); go_simp; try with_reducible rfl)
                  try simp only [Act.put, List.setIfInBounds_toArray, List.set_cons_zero, List.set_cons_succ]
                  refine wpAnyH_take (i := 17) (v := ?_) (by simp only [List.getElem?_toArray, List.getElem?_cons_succ, List.getElem?_cons_zero]; rfl) (by kernel_rfl) (by kernel_rfl) (by kernel_rfl) (by intro _ _ _ h; exact h) (Or.inl ⟨by rfl, ?_⟩) (by assumption) ?_
                  rotate_left
                  focus (intro wT hT; (try dsimp only at hT); go_simp; try with_reducible rfl)
                  try simp only [Act.put, List.setIfInBounds_toArray, List.set_cons_zero, List.set_cons_succ]
                  refine wpAnyH_take (i := 18) (v := ?_) (by simp only [List.getElem?_toArray, List.getElem?_cons_succ, List.getElem?_cons_zero]; rfl) (by kernel_rfl) (by kernel_rfl) (by kernel_rfl) (by intro _ _ _ h; exact h) (Or.inl ⟨by rfl, ?_⟩) (by assumption) ?_
                  rotate_left
                  focus (intro wT hT; (try dsimp only at hT); go_simp; try with_reducible rfl)
                  try simp only [Act.put, List.setIfInBounds_toArray, List.set_cons_zero, List.set_cons_succ]
                  refine wpAnyH_done (by kernel_rfl) ?_ _
                  have HPA0 := Lib.hid (show PlS w wA w1.heap.size V8 E8 vA (rotR ml (tenB tn) x y z (secN s)) from pls_rot HP7.out HB8.out HD8.out.ring HST8.out hbwA hdA.ref (by rw [secN_len]; omega))
                  have hmlA := rotR_len ml (tenB tn) x y z (secN s)
                  generalize rotR ml (tenB tn) x y z (secN s) = ml8 at HPA0 hmlA hdA
                  have HSOA := Lib.hid (HD8.out.sec qi hqi7 HSO.out)
                  have HYA := Lib.hid (bytes_touch HY8.out (Touch.of_below (S := fun _ => False) hbwA (Nat.le_refl _)) (fun h => h))
                  have HXA := Lib.hid (HX8.out.older hbwA)
                  obtain ⟨la8, lc8, hv8, _⟩ := HPA0.out.ref.slot
                  subst hv8
                  have HPA := Lib.hid HPA0.out
                  have hsl := secN_len s
                  have hsn80 : (secN s).length < 80 := by omega
                  clear HPA0 hdA c0 c1 c2 c3 c4 c5 c6 c7 hsl
                  go_wp2_with (go_at_call 16; refine (num_errC cc _).mono ?_; rintro e w' ⟨rfl, rfl⟩)
                  go_loopg [14, 133] (secN s).length (fun q2 s14 jv wx => ∃ j : Nat, jv = .int .i64 j ∧ j ≤ (secN s).length ∧ Hid ((secN s).length ≤ q2 + j) ∧ InW wx qi (secN s).length ∧ Touch (fun b => b = qi) wA wx)
                  case atStart => exact ⟨0, rfl, Nat.zero_le _, Lib.hid (by omega), inW_of HYA.out, Touch.refl _ _⟩
                  case round =>
                    obtain ⟨j, rfl, hj, HQ2, hin, htch⟩ := hrel
                    have HIN := Lib.hid hin
                    have HTC := Lib.hid htch
                    by_cases hlt2 : j < (secN s).length
                    · obtain ⟨⟨mv, d0⟩, f0⟩ := hin.facts hlt2
                      have hj1 : (0 : Int) ≤ (j : Int) := by omega
                      have hj2 : (j : Int) < ((secN s).length : Int) := by omega
                      clear hin htch
                      go_wp2_with fail
                      go_roundg (gk - 1)
                      case rel => exact ⟨j + 1, by go_num, by omega, Lib.hid (by have := HQ2.out; omega), HIN.out.set j _, HTC.out.setCell (a := ⟨qi, j, none⟩) rfl _⟩
                      case measure => have := HQ2.out; omega
                    · have HPR := Lib.hid (pls_touch HPA.out HYA.out HSOA.out (Nat.le_trans HP6.out.bel.size HQI.out) htch)
                      have HXR := Lib.hid (HXA.out.touch htch (fun e => bytes_typed (e ▸ HYA.out) HXA.out (by decide)))
                      have hml97 : ml8.length ≤ 97 := by omega
                      obtain ⟨c0, c1, c2, c3, c4, c5, c6, c7⟩ := actB HXR.out
                      clear hin htch
                      go_wp2_with (go_at_call 21; refine (is_any w.heap.size w1.heap.size w.heap.size V8 E8 (.slice la8 ml8.length lc8) ml8 kd tn s id x y z at_ _ HPR.out.ring HPR.out.ref HPR.out.mat hml97 htn HPR.out.secs).mono ?_; rintro e wZ ⟨rfl, hbZ⟩; have HPZ := Lib.hid (HPR.out.older hbZ); clear hbZ)
                      go_roundg (gk1 - 1)
                      case rel => exact ⟨k + 1, ml8, V8, E8, la8, lc8, by go_num, by omega, Lib.hid (by have := HQ.out; have := HGK.out; omega), rfl, by omega, HPZ.out⟩
                      case measure => have := HQ.out; have := HGK.out; omega
      · have hid' : 100 < (id.length : Int) := by omega
        go_wp2_with fail
        go_ret
        exact ⟨rfl, HP6.out.bel⟩
    · go_wp2_with fail
      go_ret
      exact ⟨rfl, HP.out.bel⟩
theorem walk (acts : List KAct) (v : Value) (w : World) (hv : A1.RowsV actK 8 w v acts) (hl : acts.length ≤ 9223372036854775807) (ha : ∀ a ∈ acts, a.ok) :
    Calls Tryd.prog 4 #[v] w fun e w' => e = .returned (.bool true) ∧ Below w.heap.size w w' := by
  obtain ⟨va, vc, rfl, _⟩ := hv.form
  by_cases h : acts.length ≤ 40
  · exact walk_ok va vc acts w hv ha h
  · exact walk_big va vc acts w hl h

/-- What the walk gives, for every argument. -/
theorem contract (H : Type) (enc : TypeId × Value → H) (W : World) (base : Nat) (args : Array Value) (ds gs : List (DataW H)) (before : List MemPlace)
    (hval : ∀ (j : Nat) t v, Tryd.f4.params[j]? = some t → args[j]? = some v → Value.okWide Tryd.prog W .any base t v)
    (hW : DataW.Whole enc Tryd.prog Tryd.f4.params.toList Rows.keyringPlaysSpec.vars false W args.toList ds gs before) (hsz : (DataW.weightsEach Tryd.prog Tryd.f4.params.toList (ds ++ gs)).all (· ≤ reachBytes) = true) :
    Calls Tryd.prog 4 args W fun e W' => ∃ v, e = .returned v ∧ Rows.keyringPlaysSpec.post enc Tryd.prog Tryd.f4 false true false false W args v W' := by
  have hW' := hW
  have hlt := fun p hp => hW.lt p hp
  obtain ⟨p, q, hA0, hV, rfl, hfz, hnd⟩ := hW
  have hA : DataW.TrodAll enc Tryd.prog W 0 (fun _ => true) true Tryd.f4.params.toList args.toList ds p := hA0
  have hA1 := hA
  obtain ⟨rfl, rfl⟩ := trodVars_none hV
  rw [Tryd.params4] at hA hval
  obtain ⟨v0, vs0, d0, ds0, p0, q0, hargs, rfl, rfl, h0, r0⟩ := trodAll_cons hA
  obtain ⟨rfl, rfl, rfl⟩ := trodAll_nil r0
  obtain rfl : args = #[v0] := by cases args; simp_all
  have fin : ∀ W', Below W.heap.size W W' → Rows.keyringPlaysSpec.post enc Tryd.prog Tryd.f4 false true false false W #[v0] (.bool true) W' := fun W' hb => by
    simp only [List.append_nil] at hA1 hW' hlt
    exact ⟨_, _, _, [], _, [], hW', trodAll_cons_mk (shut_bool Tryd.underlying4 _) trodAll_mk0, Fr.trodAll_below (by kernel_rfl) _ (by kernel_rfl) hA1 hb hlt, rfl, hb.frame _, fun h => by cases h⟩
  clear hW' hA0 hA1 hlt
  rw [Tryd.params4, List.append_nil] at hsz
  obtain ⟨ua0, ul0, uc0, rfl⟩ := okWide_slice Tryd.underlying43 (hval 0 43 v0 rfl rfl)
  obtain ⟨fu0, hf0⟩ := h0
  obtain ⟨xs0, hx0, hl0, ha0⟩ := Op.actsK_trod hf0
  refine (walk xs0 (.slice ua0 ul0 uc0) W hx0 hl0 ha0).mono fun e W' ⟨he, hb⟩ => ?_
  subst he
  exact ⟨_, rfl, fin W' hb⟩

theorem laid_met (os : Os) : laidMet Tryd.prog Rows.keyringPlaysRow.laid ((Fr.laidW Rows.keyringPlaysRow.laid os).forCall (fun _ _ => 0) ⟨#[], #[.slice none 0 0], []⟩).memory :=
  laidMet_of_run' 8 (by kernel_rfl) (by kernel_rfl)
theorem reads (os : Os) {H : Type} (enc : TypeId × Value → H) : ∃ places, DataW.whole enc Tryd.prog ((Fr.laidW Rows.keyringPlaysRow.laid os).forCall (fun _ _ => 0) ⟨#[], #[.slice none 0 0], []⟩).memory Tryd.f4.params.toList Rows.keyringPlaysSpec.vars false (#[.slice none 0 0] : Array Value).toList 8 = some ([.nil], [], places) :=
  ⟨[], by kernel_rfl⟩

theorem lifted (os : Os) (started : os.Started) (H : Type) (enc : TypeId × Value → H) (F : Stop.Interp) :
    ReturnsInHanded {} Tryd.checked os 4 .any ((OpenSpec.ofChange Rows.keyringPlaysSpec).preRow enc Tryd.prog Tryd.f4 Rows.keyringPlaysRow.domain false Rows.keyringPlaysRow.laid) (((OpenSpec.ofChange Rows.keyringPlaysSpec).at F).post enc Tryd.prog Tryd.f4 false true false false) := by
  obtain ⟨places, hx⟩ := reads os enc
  refine returnsInHanded_of_row (C := Tryd.checked) (s := OpenSpec.ofChange Rows.keyringPlaysSpec) Fr.own started (by kernel_rfl) Tryd.func4
    (witness_row_at (enc := enc) (C := Tryd.checked) false (Fr.laidW Rows.keyringPlaysRow.laid os) #[.slice none 0 0] rfl (by kernel_rfl) (by kernel_rfl) (by kernel_rfl)
      (OpenSpec.preRow_of_cond 8 hx (by kernel_rfl) (fun k hk => by cases hk) (by kernel_rfl) (laid_met os))) ?_
  intro W base args ds gs before hval hW _ hcond hsz _ hsh _
  exact contract H enc W base args ds gs before hval hW (by have h9 : (DataW.weightsEach Tryd.prog (Tryd.f4.params.toList ++ []) (ds ++ gs)).all (· ≤ reachBytes) = true := hsz; rw [List.append_nil] at h9; exact h9)

theorem said : Rows.KeyringPlaysSaid :=
  OpenClaim.holds_of_cond 4 Tryd.f4 rfl rfl rfl rfl rfl rfl rfl ⟨rfl, rfl, rfl, rfl, rfl⟩ rfl rfl rfl rfl rfl (by kernel_rfl) Tryd.func4 (by kernel_rfl)
    (of_decide_eq_true (by kernel_rfl)) (by unfold Func.isWrapper; first | (rw [if_pos (by decide +kernel)]; kernel_rfl) | (rw [if_neg (by decide +kernel)]; exact ⟨rfl, rfl⟩))
    (fun os started H enc _ F => by rw [OpenClaim.pre_eq_preRow]; exact lifted os started H enc F)

theorem plain (b : Bool) (hb : b = Tryd.pinned.checked.prog.looks []) (f : FuncId) (fn : Func) (hf : Tryd.pinned.checked.prog.funcNamed "quayside/quaysidelaw50.KeyringPlays" = some f) (hfn : Tryd.pinned.checked.prog.funcs[f]? = some fn) :
    b = Tryd.pinned.checked.prog.looks [] ∧ ∀ (j : Nat) t, fn.params[j]? = some t → Tryd.pinned.checked.prog.wantsStandIn t = false := by
  obtain rfl : f = 4 := Option.some.inj ((show Tryd.prog.funcNamed "quayside/quaysidelaw50.KeyringPlays" = some 4 by kernel_rfl).symm.trans hf) |>.symm
  obtain rfl : fn = Tryd.f4 := (Option.some.inj (Tryd.func4.symm.trans hfn)).symm
  refine ⟨hb, fun j t ht => ?_⟩
  rw [Tryd.params4] at ht
  have hm : t ∈ [43] := by simpa using Array.mem_of_getElem? ht
  have hall : ([43].all fun u => !Tryd.prog.wantsStandIn u) = true := by kernel_rfl
  exact (show Tryd.prog.wantsStandIn t = false by simpa using List.all_eq_true.1 hall t hm)

theorem proved : Rows.KeyringPlaysCardSaid :=
  Claim7.holds_tied_plain_at .later [] _ _ _ _ said (fun _ h => by cases h) (by kernel_rfl) (fun _ h => by cases h) keyringPlays_row_tie rfl ⟨rfl, rfl⟩ (by kernel_rfl) rfl (plain _ (by kernel_rfl)) (by kernel_rfl)
#print axioms proved
end Go.Proofs.YtbpbopjlcidefaaDoor.lawKeyringPlays
