/- What the laws over the log of purges share: a run's state; window, fits, awake. Conditions: logs of at most a million entries. -/
import Derived.Test.YtijjggbiljkalaaDoorPlogS
import Derived.Test.YtijjggbiljkalaaDoorPlogC
namespace Go.Proofs.YtijjggbiljkalaaDoor
open Go.RowKit Pl Ad
attribute [local go_sem] ba_get ba_append ba_extract_end ba_extract_zero ba_extract
set_option maxRecDepth 100000
set_option maxHeartbeats 4000000
set_option linter.unusedVariables false
namespace A1
/-- A law's log on its way: the law began at w0. -/
structure Run (w0 w : World) (R : Nat) (v : Value) (L : LogM) : Prop where
  bel : Below w0.heap.size w0 w
  log : LogAt w w0.heap.size R v L
  ok : L.Ok
theorem Run.older {w0 w w' : World} {R : Nat} {v : Value} {L : LogM} (h : Run w0 w R v L) (hb : Below w.heap.size w w') : Run w0 w' R v L := ⟨h.bel.trans (hb.mono h.bel.size), h.log.below hb, h.ok⟩
theorem Goes.below {w0 w w' : World} {R : Nat} {v v' : Value} {L : LogM} (hg : Goes w w' R v v') (h : Run w0 w R v L) : Below w0.heap.size w w' :=
  hg.touch.below h.bel.size fun i hi => by
    rcases hi with rfl | hi
    · exact h.log.hR
    · exact (h.log.own.lt i hi).1
theorem Run.goes {w0 w w' : World} {R : Nat} {v v' : Value} {L L' : LogM} (h : Run w0 w R v L) (hl : LogAt w' w0.heap.size R v' L') (hg : Goes w w' R v v') (ho : L'.Ok) : Run w0 w' R v' L' := ⟨h.bel.trans (hg.below h), hl, ho⟩
theorem own_own_ne {w : World} {B B' e e' n n' s s' : Nat} {v v' : Value} {xs xs' : List Value} (h : OwnWin w B e s v n xs) (h' : OwnWin w B' e' s' v' n' xs') (hne : e ≠ e') : ∀ q, v.ownBlock = some q → ¬ v'.ownBlock = some q := fun q hq hq' => by
  rcases h.2 with ⟨rfl, _⟩ | ⟨g, o, cap, cur, rfl, _, hg, _⟩
  · cases hq
  · rcases h'.2 with ⟨rfl, _⟩ | ⟨g', o', cap', cur', rfl, _, hg', _⟩
    · cases hq'
    · simp [Value.ownBlock] at hq hq'
      subst hq hq'
      have := Option.some.inj (hg.symm.trans hg')
      injection this with _ e2
      exact hne e2
theorem RefOwn.goes {w w' : World} {B B' R : Nat} {u v v' : Value} {L L' : LogM} (h : RefOwn w B u L) (hl : LogAt w B' R v L') (hg : Goes w w' R v v') : RefOwn w' B u L := by
  unfold RefOwn at h ⊢
  refine h.touch hg.touch fun q hq hs => ?_
  rcases hs with hs | hs
  · exact own_neT hl.box h (by decide) q hq hs
  · exact own_own_ne h hl.own (by decide) q hq hs
theorem RefOwn.older {w w' : World} {B : Nat} {u : Value} {L : LogM} (h : RefOwn w B u L) (hb : Below w.heap.size w w') : RefOwn w' B u L := OwnWin.older h hb
theorem run_append (w0 w : World) (R : Nat) (v : Value) (L : LogM) (p : Pg) (h : Run w0 w R v L) (hr : Ready w0) (hc : checkN p = 0) (hp : p.value.length ≤ 134217728) (hl : L.all.length < 1000000) :
    Calls Tryd.prog 22 #[ptrV R, pgV p] w fun e w' => ∃ v', e = .returned (.tuple #[.int .i64 ((L.all.length : Int) + 1), .nilIface]) ∧ Run w0 w' R v' (L.push p) ∧ Goes w w' R v v' :=
  (plogAppend_ok w0.heap.size R v L p w h.log h.ok (hr.below h.bel) hc hp hl h.bel.size).mono fun e w' he => by
    obtain ⟨v', h1, h2, h3⟩ := he
    exact ⟨v', h1, h.goes h2 h3 (LogM.ok_push h.ok hc hp), h3⟩
theorem run_last (w0 w : World) (R : Nat) (v : Value) (L : LogM) (h : Run w0 w R v L) (hl : L.all.length ≤ 1000000) :
    Calls Tryd.prog 17 #[ptrV R] w fun e w' => e = .returned (.int .i64 L.all.length) ∧ Run w0 w' R v L ∧ Below w.heap.size w w' :=
  (plogLast_log w0.heap.size R v L w h.log h.ok.drop hl).mono fun e w' he => ⟨he.1, h.older he.2.2, he.2.2⟩
theorem Box3.goes {w w' : World} {R R' T : Nat} {a b c v v' : Value} (h : Box3 w R' T a b c) (hg : Goes w w' R v v') (h1 : R' ≠ R) (h2 : v.ownBlock ≠ some R') : Box3 w' R' T a b c :=
  (hg.touch.block R' h.facts.2.2 (fun hs => by rcases hs with hs | hs; exact h1 hs; exact h2 hs)).trans h

theorem window37_any (n : Int) (w : World) (h0 : 0 ≤ n) (h1 : n < 256) :
    Calls Tryd.prog 20 #[.int .u8 n] w fun e w' => e = .returned (.int .i64 (1 + n % 24)) ∧ w = w' := by
  go_enter Tryd.func20, Tryd.ntmps20
  go_wp2
  go_ret
  exact ⟨rfl, rfl⟩
def p1 : Pg := ⟨3, 0, [116]⟩
theorem awake37_any (w : World) (hr : Ready w) : Calls Tryd.prog 14 #[] w fun e w' => e = .returned (.bool true) ∧ Below w.heap.size w w' := by
  have hp1 : checkN p1 = 0 := by decide
  have HP := Lib.hid hp1
  have h0 : Run w (w.alloc (.cells #[.int .i64 3, .int .i64 1, .slice none 0 0] 100)) w.heap.size (.slice none 0 0) (.start 3) := ⟨(Below.refl _ _).alloc (Nat.le_refl _) _, logAt_new w 3 w.heap.size (Nat.le_refl _), LogM.ok_start (by decide) (by decide)⟩
  have HR := Lib.hid (h0.older ((Below.refl _ _).alloc (Nat.le_refl _) (.cells #[.int .i64 3, .int .i64 0, .string ⟨#[116]⟩] 37)))
  have hb := box3_new (w.alloc (.cells #[.int .i64 3, .int .i64 1, .slice none 0 0] 100)) 37 (.int .i64 3) (.int .i64 0) (.string ⟨#[116]⟩)
  rw [show (w.alloc (.cells #[.int .i64 3, .int .i64 1, .slice none 0 0] 100)).heap.size = w.heap.size + 1 by simp] at hb
  have HB := Lib.hid hb
  clear h0 hb hp1
  go_enter Tryd.func14, Tryd.ntmps14
  go_wp2_with fail
  refine (plogNew_ok 3 _ (by decide) (by decide)).mono ?_
  rintro e w1 ⟨rfl, rfl⟩
  go_wp2_with fail
  refine (run_append w _ w.heap.size _ (.start 3) p1 HR.out hr HP.out (by decide) (by decide)).mono ?_
  rintro e w2 ⟨v2, rfl, hr2, hg2⟩
  have hb2 := HB.out.goes hg2 (by omega) (by simp [Value.ownBlock])
  obtain ⟨⟨c0, c1, c2⟩, _, _⟩ := hb2.facts
  have HR2 := Lib.hid hr2
  clear hr2 hg2 hb2
  rw [show (((LogM.start 3).all.length : Int) + 1) = 1 from rfl]
  go_wp2_with fail
  refine (run_append w _ w.heap.size v2 _ p1 HR2.out hr HP.out (by decide) (by decide)).mono ?_
  rintro e w3 ⟨v3, rfl, hr3, hg3⟩
  have HR3 := Lib.hid hr3
  clear hr3 hg3
  rw [show ((((LogM.start 3).push p1).all.length : Int) + 1) = 2 from rfl]
  go_wp2_with (go_at_call 17; refine (run_last w _ w.heap.size v3 _ HR3.out (by decide)).mono ?_; rintro e w4 ⟨rfl, hr4, hb4⟩; rw [show ((((LogM.start 3).push p1).push p1).all.length : Int) = 2 from rfl]; have HR4 := Lib.hid hr4; clear hr4 hb4)
  go_ret
  exact ⟨rfl, HR4.out.bel⟩
end A1
end Go.Proofs.YtijjggbiljkalaaDoor
