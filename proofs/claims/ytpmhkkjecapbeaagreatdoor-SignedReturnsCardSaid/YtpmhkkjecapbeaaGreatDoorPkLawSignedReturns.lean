/- PROVED: SignedReturns returns true for every input and leaves its arguments as they were. No condition beyond the statement's own (the listed variables read as the program's text lays them, which the card ties). -/
import Derived.Deep.RegionHeld3
import Derived.OrdersHeld
import Derived.Deep.DeepCutAuto
import Derived.Deep.LoopGhost
import Derived.Test.YtpmhkkjecapbeaaGreatDoorPkG
import Derived.Test.YtpmhkkjecapbeaaGreatDoorPkQ
import Derived.Test.YtpmhkkjecapbeaaGreatDoorPkU
import Derived.Test.YtpmhkkjecapbeaaGreatDoorPkW
namespace Go.Proofs.YtpmhkkjecapbeaaGreatDoor.lawSignedReturns
open Go.ChangeShapes Go.WideShapes Go.ChangeAt Go.RowKit Pl Ad
open Go.ChangeMaps (open_string shut_string)
attribute [local go_sem] ba_get ba_append ba_extract_end ba_extract_zero ba_extract conv_one
set_option maxRecDepth 100000
set_option maxHeartbeats 4000000
set_option linter.unusedVariables false
set_option linter.unusedSimpArgs false
open Sg Dg Kr A1
/-- An address and a token in two boxes. -/
structure PrS (w0 w : World) (R U1 U2 : Nat) (r : Adr) (t : TokM) : Prop where
  bel : Below w0.heap.size w0 w
  kb : Bx w R U1 #[.string ⟨r.host.toArray⟩, .string ⟨r.path.toArray⟩, .string ⟨r.query.toArray⟩, .bool r.has]
  tb : Bx w (R + 1) U2 #[.string ⟨t.id.toArray⟩, .int .i64 t.frm, .int .i64 t.til]
theorem PrS.older {w0 w w' : World} {R U1 U2 : Nat} {r : Adr} {t : TokM} (h : PrS w0 w R U1 U2 r t) (hb : Below w.heap.size w w') : PrS w0 w' R U1 U2 r t := ⟨h.bel.trans (hb.mono h.bel.size), h.kb.older hb, h.tb.older hb⟩
theorem prS_new {w0 w : World} (U1 U2 : Nat) (h : Below w0.heap.size w0 w) (hh pp qq id : Bs) (bb : Bool) (frm til : Int) : PrS w0 ((w.alloc (.cells #[.string ⟨hh.toArray⟩, .string ⟨pp.toArray⟩, .string ⟨qq.toArray⟩, .bool bb] U1)).alloc (.cells #[.string ⟨id.toArray⟩, .int .i64 frm, .int .i64 til] U2)) w.heap.size U1 U2 ⟨hh, pp, qq, bb⟩ ⟨id, frm, til⟩ :=
  have b1 : Below w.heap.size w (w.alloc (.cells #[.string ⟨hh.toArray⟩, .string ⟨pp.toArray⟩, .string ⟨qq.toArray⟩, .bool bb] U1)) := (Below.refl _ _).alloc (Nat.le_refl _) _
  ⟨h.trans ((b1.alloc b1.size _).mono h.size), (Bx.new _ _ _).older ((Below.refl _ _).alloc (Nat.le_refl _) _),
   by have h9 := Bx.new (w.alloc (.cells #[.string ⟨hh.toArray⟩, .string ⟨pp.toArray⟩, .string ⟨qq.toArray⟩, .bool bb] U1)) U2 #[.string ⟨id.toArray⟩, .int .i64 frm, .int .i64 til]; rw [show (w.alloc (.cells #[.string ⟨hh.toArray⟩, .string ⟨pp.toArray⟩, .string ⟨qq.toArray⟩, .bool bb] U1)).heap.size = w.heap.size + 1 by simp] at h9; exact h9⟩
theorem PrS.facts {w0 w : World} {R U1 U2 : Nat} {r : Adr} {t : TokM} (h : PrS w0 w R U1 U2 r t) :
    (w.cell? ⟨R, 0, none⟩ = some (.string ⟨r.host.toArray⟩) ∧ w.cell? ⟨R, 1, none⟩ = some (.string ⟨r.path.toArray⟩) ∧ w.cell? ⟨R, 2, none⟩ = some (.string ⟨r.query.toArray⟩) ∧ w.cell? ⟨R, 3, none⟩ = some (.bool r.has)) ∧
    (w.cell? ⟨R + 1, 0, none⟩ = some (.string ⟨t.id.toArray⟩) ∧ w.cell? ⟨R + 1, 1, none⟩ = some (.int .i64 t.frm) ∧ w.cell? ⟨R + 1, 2, none⟩ = some (.int .i64 t.til)) ∧ R + 1 < w.heap.size :=
  ⟨⟨h.kb.cell (i := 0) rfl, h.kb.cell (i := 1) rfl, h.kb.cell (i := 2) rfl, h.kb.cell (i := 3) rfl⟩, ⟨h.tb.cell (i := 0) rfl, h.tb.cell (i := 1) rfl, h.tb.cell (i := 2) rfl⟩, h.tb.lt⟩
theorem PrS.set4 {w0 w : World} {R U1 U2 : Nat} {r : Adr} {t : TokM} (h : PrS w0 w R U1 U2 r t) {Q : Nat} (hQ : R + 1 < Q) (hB : w0.heap.size ≤ Q) (u0 u1 u2 u3 : Value) : PrS w0 ((((w.setCell ⟨Q, 0, none⟩ u0).setCell ⟨Q, 1, none⟩ u1).setCell ⟨Q, 2, none⟩ u2).setCell ⟨Q, 3, none⟩ u3) R U1 U2 r t :=
  have st : ∀ {w : World} {R T i : Nat} {cs : Array Value} {u : Value}, Bx w R T cs → ¬ R = Q → Bx (w.setCell ⟨Q, i, none⟩ u) R T cs := fun h hne => h.touch (touch_set1 _ _ _ _) hne
  have s4 : ∀ {R T : Nat} {cs : Array Value}, Bx w R T cs → ¬ R = Q → Bx ((((w.setCell ⟨Q, 0, none⟩ u0).setCell ⟨Q, 1, none⟩ u1).setCell ⟨Q, 2, none⟩ u2).setCell ⟨Q, 3, none⟩ u3) R T cs := fun h hne => st (st (st (st h hne) hne) hne) hne
  ⟨Box.set h.bel hB _ _ _ _, s4 h.kb (by omega), s4 h.tb (by omega)⟩
/-- The statement's boxes and the secret's bytes. -/
structure SrS (w0 w : World) (g n c : Nat) (l : Bs) (a : Adr) (t : TokM) : Prop where
  pr : PrS w0 w w0.heap.size 62 63 a t
  src : SrcAt w (.slice (some ⟨g, 0, none⟩) n c) n (bvals l)
  lt : g < w.heap.size
theorem SrS.older {w0 w w' : World} {g n c : Nat} {l : Bs} {a : Adr} {t : TokM} (h : SrS w0 w g n c l a t) (hb : Below w.heap.size w w') : SrS w0 w' g n c l a t := ⟨h.pr.older hb, h.src.older hb, Nat.lt_of_lt_of_le h.lt hb.size⟩
theorem src_set4 {w : World} {g n c : Nat} {l : Bs} (h : SrcAt w (.slice (some ⟨g, 0, none⟩) n c) n (bvals l)) {Q : Nat} (hQ : g < Q) (u0 u1 u2 u3 : Value) : SrcAt ((((w.setCell ⟨Q, 0, none⟩ u0).setCell ⟨Q, 1, none⟩ u1).setCell ⟨Q, 2, none⟩ u2).setCell ⟨Q, 3, none⟩ u3) (.slice (some ⟨g, 0, none⟩) n c) n (bvals l) := by
  have st : ∀ {w : World} (i : Nat) (u : Value), SrcAt w (.slice (some ⟨g, 0, none⟩) n c) n (bvals l) → SrcAt (w.setCell ⟨Q, i, none⟩ u) (.slice (some ⟨g, 0, none⟩) n c) n (bvals l) := fun {w} i u h => by
    rcases h with ⟨h1, _⟩ | ⟨a, c', h1, h2⟩
    · cases h1
    · injection h1 with e1 _ _
      injection e1 with e1
      subst e1
      refine .inr ⟨_, c, rfl, fun j x hx => ?_⟩
      have h3 := h2 j x hx
      rw [Op.add_off] at h3 ⊢
      exact (touch_set1 w Q i u).cell h3 (fun (e : g = Q) => by omega)
  exact st 3 u3 (st 2 u2 (st 1 u1 (st 0 u0 h)))
theorem SrS.set4 {w0 w : World} {g n c : Nat} {l : Bs} {a : Adr} {t : TokM} (h : SrS w0 w g n c l a t) {Q : Nat} (hQ : w0.heap.size + 1 < Q) (hB : w0.heap.size ≤ Q) (hg : g < Q) (u0 u1 u2 u3 : Value) : SrS w0 ((((w.setCell ⟨Q, 0, none⟩ u0).setCell ⟨Q, 1, none⟩ u1).setCell ⟨Q, 2, none⟩ u2).setCell ⟨Q, 3, none⟩ u3) g n c l a t :=
  ⟨h.pr.set4 hQ hB _ _ _ _, src_set4 h.src hg _ _ _ _, by simpa using h.lt⟩
/-- The statement's boxes and the signed address. -/
structure StS (w0 w : World) (R : Nat) (a : Adr) (t : TokM) (s : Adr) : Prop where
  pr : PrS w0 w w0.heap.size 62 63 a t
  sb : Bx w R 27 #[.string ⟨s.host.toArray⟩, .string ⟨s.path.toArray⟩, .string ⟨s.query.toArray⟩, .bool s.has]
section
variable {w0 w w' : World} {R : Nat} {a s : Adr} {t : TokM}
theorem StS.older (h : StS w0 w R a t s) (hb : Below w.heap.size w w') : StS w0 w' R a t s := ⟨h.pr.older hb, h.sb.older hb⟩
theorem StS.facts (h : StS w0 w R a t s) :
    (w.cell? ⟨R, 0, none⟩ = some (.string ⟨s.host.toArray⟩) ∧ w.cell? ⟨R, 1, none⟩ = some (.string ⟨s.path.toArray⟩) ∧ w.cell? ⟨R, 2, none⟩ = some (.string ⟨s.query.toArray⟩) ∧ w.cell? ⟨R, 3, none⟩ = some (.bool s.has)) ∧
    (w.cell? ⟨w0.heap.size + 1, 0, none⟩ = some (.string ⟨t.id.toArray⟩) ∧ w.cell? ⟨w0.heap.size + 1, 1, none⟩ = some (.int .i64 t.frm) ∧ w.cell? ⟨w0.heap.size + 1, 2, none⟩ = some (.int .i64 t.til)) ∧ (R < w.heap.size ∧ w0.heap.size + 1 < w.heap.size ∧ w0.heap.size < w.heap.size) :=
  ⟨⟨h.sb.cell (i := 0) rfl, h.sb.cell (i := 1) rfl, h.sb.cell (i := 2) rfl, h.sb.cell (i := 3) rfl⟩, h.pr.facts.2.1, h.sb.lt, h.pr.facts.2.2, Nat.lt_of_succ_lt h.pr.facts.2.2⟩
theorem StS.set4 (h : StS w0 w R a t s) {Q : Nat} (hQ : w0.heap.size + 1 < Q) (hR : R < Q) (u0 u1 u2 u3 : Value) : StS w0 ((((w.setCell ⟨Q, 0, none⟩ u0).setCell ⟨Q, 1, none⟩ u1).setCell ⟨Q, 2, none⟩ u2).setCell ⟨Q, 3, none⟩ u3) R a t s :=
  have st : ∀ {w : World} {R T i : Nat} {cs : Array Value} {u : Value}, Bx w R T cs → ¬ R = Q → Bx (w.setCell ⟨Q, i, none⟩ u) R T cs := fun h hne => h.touch (touch_set1 _ _ _ _) hne
  have hne : ¬ R = Q := by omega
  ⟨h.pr.set4 hQ (by omega) _ _ _ _, st (st (st (st h.sb hne) hne) hne) hne⟩
end
/-- Within the loop. -/
structure LoS (w0 w : World) (R R7 R9 g : Nat) (l : Bs) (a s : Adr) (t : TokM) (cs : Array Value) : Prop where
  st : StS w0 w R a t s
  sc : SrcAt w (.slice (some ⟨g, 0, none⟩) 24 24) 24 (bvals l)
  pp : PrS w0 w R7 27 51 a t
  nb : Bx w R9 3 cs
theorem LoS.older {w0 w w' : World} {R R7 R9 g : Nat} {l : Bs} {a s : Adr} {t : TokM} {cs : Array Value} (h : LoS w0 w R R7 R9 g l a s t cs) (hb : Below w.heap.size w w') : LoS w0 w' R R7 R9 g l a s t cs := ⟨h.st.older hb, h.sc.older hb, h.pp.older hb, h.nb.older hb⟩
/-- Behind the loop. -/
structure LqS (w0 w : World) (R g : Nat) (l : Bs) (a s : Adr) (t : TokM) : Prop where
  st : StS w0 w R a t s
  sc : SrcAt w (.slice (some ⟨g, 0, none⟩) 24 24) 24 (bvals l)
  lt : g < w.heap.size
theorem LqS.older {w0 w w' : World} {R g : Nat} {l : Bs} {a s : Adr} {t : TokM} (h : LqS w0 w R g l a s t) (hb : Below w.heap.size w w') : LqS w0 w' R g l a s t := ⟨h.st.older hb, h.sc.older hb, Nat.lt_of_lt_of_le h.lt hb.size⟩
theorem LqS.set4 {w0 w : World} {R g : Nat} {l : Bs} {a s : Adr} {t : TokM} (h : LqS w0 w R g l a s t) {Q : Nat} (hQ : w0.heap.size + 1 < Q) (hR : R < Q) (hg : g < Q) (u0 u1 u2 u3 : Value) : LqS w0 ((((w.setCell ⟨Q, 0, none⟩ u0).setCell ⟨Q, 1, none⟩ u1).setCell ⟨Q, 2, none⟩ u2).setCell ⟨Q, 3, none⟩ u3) R g l a s t :=
  ⟨h.st.set4 hQ hR _ _ _ _, src_set4 h.sc hg _ _ _ _, by simpa using h.lt⟩
theorem src_lt {w : World} {g n c : Nat} {l : Bs} (h : SrcAt w (.slice (some ⟨g, 0, none⟩) n c) n (bvals l)) (hl : 0 < l.length) : g < w.heap.size := by
  rcases h with ⟨h1, _⟩ | ⟨a, c', h1, h2⟩
  · cases h1
  · injection h1 with e1 _ _
    injection e1 with e1
    subst e1
    have h3 := h2 0 (.int .u8 ((l[0]'hl).toNat : Int)) (by simp [bvals, hl])
    rw [Op.add_off] at h3
    exact World.block_lt_of_cell? w _ h3
attribute [local go_sem] guard_pa guard_ra guard_pt eql_pa neq_pa eql_pt neq_pt conv_lit
attribute [-go_sem] run_eql_struct run_neq_struct run_eqGuard_agg
theorem adB_refl (h p q : Bs) (b : Bool) : adB h p q b h p q b = true := by rw [adB_iff]; exact decide_eq_true rfl
theorem tkB_refl (id : Bs) (f t : Int) : tkB id f t id f t = true := by rw [tkB_iff]; exact decide_eq_true rfl
def sec3 : Bs := [97, 32, 115, 101, 99, 114, 101, 116, 32, 111, 102, 32, 50, 52, 32, 98, 121, 116, 101, 115, 32, 46, 46, 46]
theorem check_again {a : Adr} {t : TokM} {s : Bs} (h : checkS a t = 0) (hs : hexOk s = true) : checkS (signed a t s) t = 2 := by
  unfold checkS
  exact if_pos (.inr (.inl (signed_notplain (checkS_ok.1 h).2.2.1 hs)))
theorem walk (h p q : Bs) (b : Bool) (id : Bs) (frm til : Int) (now : Int) (w : World) (hg : Sg.SgnAt w) (z0 : h.length ≤ 140737488351232) (z1 : p.length ≤ 140737488351232) (z2 : q.length ≤ 140737488351232) (z3 : id.length ≤ 140737488351232) :
    Calls Tryz.prog 7 #[adV ⟨h, p, q, b⟩, tkV ⟨id, frm, til⟩, .int .i64 now] w fun e w' => e = .returned (.bool true) ∧ Below w.heap.size w w' := by
  have HG := Lib.hid hg
  have HP0 := Lib.hid (prS_new 62 63 (Below.refl w.heap.size w) h p q id b frm til)
  clear hg
  go_enter Tryz.func7, Tryz.ntmps7
  go_wp2_with fail
  refine (awake49_any _ (HG.out.below HP0.out.bel)).mono ?_
  rintro e w1 ⟨rfl, hb1⟩
  have HP1 := Lib.hid (HP0.out.older hb1)
  clear hb1
  obtain ⟨⟨c0, c1, c2, c3⟩, ⟨d0, d1, d2⟩, hz⟩ := HP1.out.facts
  by_cases hs : h.length + p.length + q.length + id.length ≤ 3000
  · go_wp2_with fail
    refine (short_yes ⟨h, p, q, b⟩ (some ⟨w1.heap.size, 0, none⟩) 1 [id.length] (w1.alloc (.cells #[.int .i64 (id.length : Int)] 3)) (nvals_src w1 [id.length] 1) (by simp) (fun n hn => by simp at hn; omega) (by simp only; omega) (by simp only; omega) (by simp only; omega) (by simp only [List.sum_cons, List.sum_nil, Nat.add_zero]; exact hs)).mono ?_
    rintro e w2 ⟨rfl, hb2⟩
    have HP2 := Lib.hid ((HP1.out.older ((Below.refl _ _).alloc (Nat.le_refl _) (.cells #[.int .i64 (id.length : Int)] 3))).older hb2)
    clear hb2; clear c0 c1 c2 c3 d0 d1 d2 hz
    have HPL := Lib.hid (HP2.out.older ((Below.refl _ _).alloc (Nat.le_refl _) (.cells #[.int .u8 97, .int .u8 32, .int .u8 115, .int .u8 101, .int .u8 99, .int .u8 114, .int .u8 101, .int .u8 116, .int .u8 32, .int .u8 111, .int .u8 102, .int .u8 32, .int .u8 50, .int .u8 52, .int .u8 32, .int .u8 98, .int .u8 121, .int .u8 116, .int .u8 101, .int .u8 115, .int .u8 32, .int .u8 46, .int .u8 46, .int .u8 46] 5 (24, 25))))
    have HSL := Lib.hid (show SrcAt (w2.alloc (.cells #[.int .u8 97, .int .u8 32, .int .u8 115, .int .u8 101, .int .u8 99, .int .u8 114, .int .u8 101, .int .u8 116, .int .u8 32, .int .u8 111, .int .u8 102, .int .u8 32, .int .u8 50, .int .u8 52, .int .u8 32, .int .u8 98, .int .u8 121, .int .u8 116, .int .u8 101, .int .u8 115, .int .u8 32, .int .u8 46, .int .u8 46, .int .u8 46] 5 (24, 25))) (.slice (some ⟨w2.heap.size, 0, none⟩) 24 24) 24 (bvals sec3) from src_lit w2 sec3 24 (24, 25))
    have HGS0 := Lib.hid (show w2.heap.size < (w2.alloc (.cells #[.int .u8 97, .int .u8 32, .int .u8 115, .int .u8 101, .int .u8 99, .int .u8 114, .int .u8 101, .int .u8 116, .int .u8 32, .int .u8 111, .int .u8 102, .int .u8 32, .int .u8 50, .int .u8 52, .int .u8 32, .int .u8 98, .int .u8 121, .int .u8 116, .int .u8 101, .int .u8 115, .int .u8 32, .int .u8 46, .int .u8 46, .int .u8 46] 5 (24, 25))).heap.size by simp)
    go_upto_region 4 with fail
    obtain ⟨wl, hwl⟩ : ∃ z, w2.alloc (.cells #[.int .u8 97, .int .u8 32, .int .u8 115, .int .u8 101, .int .u8 99, .int .u8 114, .int .u8 101, .int .u8 116, .int .u8 32, .int .u8 111, .int .u8 102, .int .u8 32, .int .u8 50, .int .u8 52, .int .u8 32, .int .u8 98, .int .u8 121, .int .u8 116, .int .u8 101, .int .u8 115, .int .u8 32, .int .u8 46, .int .u8 46, .int .u8 46] 5 (24, 25)) = z := ⟨_, rfl⟩
    obtain ⟨gs, hgs⟩ : ∃ z, w2.heap.size = z := ⟨_, rfl⟩
    rw [hwl] at HPL HSL HGS0 ⊢
    rw [hgs] at HSL HGS0 ⊢
    have HGS := Lib.hid (show gs < wl.drew.heap.size from HGS0.out)
    clear hwl hgs
    have HSGN0 := fun wz hz hv => sign_any ⟨h, p, q, b⟩ ⟨id, frm, til⟩ (some ⟨gs, 0, none⟩) 24 sec3 wz hz hv (by simp only; omega) (by simp only; omega) (by simp only; omega) (by simp only; omega) (by decide)
    rw [show sec3.length = 24 from rfl] at HSGN0
    obtain ⟨sd, hsd⟩ : ∃ z, signA ⟨h, p, q, b⟩ ⟨id, frm, til⟩ sec3 = z := ⟨_, rfl⟩
    obtain ⟨ev, hev⟩ : ∃ z, Sg.errC (checkS ⟨h, p, q, b⟩ ⟨id, frm, til⟩) = z := ⟨_, rfl⟩
    rw [hsd, hev] at HSGN0
    obtain ⟨sh, sp, sq, sb⟩ := sd
    have HSGN := Lib.hid HSGN0
    have HSD := Lib.hid hsd
    have HEV := Lib.hid hev
    clear HSGN0 hsd hev
    go_cut [8, 9] (fun s8 s9 wx => ∃ R : Nat, s8 = .pointer (some ⟨R, 0, none⟩) ∧ s9 = ev ∧ StS w wx R ⟨h, p, q, b⟩ ⟨id, frm, til⟩ ⟨sh, sp, sq, sb⟩ ∧ SrcAt wx (.slice (some ⟨gs, 0, none⟩) 24 24) 24 (bvals sec3))
    case first =>
      obtain ⟨⟨c0, c1, c2, c3⟩, ⟨d0, d1, d2⟩, hz⟩ := HPL.out.facts
      have HPd := Lib.hid (HPL.out.older ((Below.refl _ _).drew))
      have HSLt := HSL.out
      have HRd := Lib.hid (show SrS w wl.drew gs 24 24 sec3 ⟨h, p, q, b⟩ ⟨id, frm, til⟩ from ⟨HPd.out, HSLt.older ((Below.refl _ _).drew), HGS.out⟩)
      refine wp_region_held_drew (S := fun w' => w'.cell? ⟨w.heap.size, 0, none⟩ = some (.string ⟨h.toArray⟩) ∧ w'.cell? ⟨w.heap.size, 1, none⟩ = some (.string ⟨p.toArray⟩) ∧ w'.cell? ⟨w.heap.size, 2, none⟩ = some (.string ⟨q.toArray⟩) ∧ w'.cell? ⟨w.heap.size, 3, none⟩ = some (.bool b) ∧ w'.cell? ⟨w.heap.size + 1, 0, none⟩ = some (.string ⟨id.toArray⟩) ∧ w'.cell? ⟨w.heap.size + 1, 1, none⟩ = some (.int .i64 frm) ∧ w'.cell? ⟨w.heap.size + 1, 2, none⟩ = some (.int .i64 til)) (by kernel_rfl) (by exact ⟨c0, c1, c2, c3, d0, d1, d2⟩) (fun hHeld => ?_)
      obtain ⟨wd, hwd⟩ : ∃ z, wl.drew = z := ⟨_, rfl⟩
      rw [hwd] at hHeld HRd ⊢
      clear hwd
      clear c0 c1 c2 c3 d0 d1 d2 hz
      obtain ⟨⟨c0, c1, c2, c3⟩, ⟨d0, d1, d2⟩, hz⟩ := HRd.out.pr.facts
      refine wpAnyH_take (i := 0) (v := ?_) (by simp only [List.getElem?_toArray, List.getElem?_cons_succ, List.getElem?_cons_zero]; rfl) (by kernel_rfl) (by kernel_rfl) (by kernel_rfl) (by intro _ _ _ h; exact h) (Or.inl ⟨by rfl, ?_⟩) (by assumption) ?_
      rotate_left
      focus (intro wT hT; (try dsimp only at hT); go_simp; try with_reducible rfl)
      try simp only [Act.put, List.setIfInBounds_toArray, List.set_cons_zero, List.set_cons_succ]
      refine wpAnyH_take (i := 2) (v := ?_) (by simp only [List.getElem?_toArray, List.getElem?_cons_succ, List.getElem?_cons_zero]; rfl) (by kernel_rfl) (by kernel_rfl) (by kernel_rfl) (by intro _ _ _ h; exact h) (Or.inl ⟨by rfl, ?_⟩) (by assumption) ?_
      rotate_left
      focus (intro wT hT; (try dsimp only at hT); go_simp; try with_reducible rfl)
      try simp only [Act.put, List.setIfInBounds_toArray, List.set_cons_zero, List.set_cons_succ]
      refine wpAnyH_take (i := 4) (v := ?_) (by simp only [List.getElem?_toArray, List.getElem?_cons_succ, List.getElem?_cons_zero]; rfl) (by kernel_rfl) (by kernel_rfl) (by kernel_rfl) (by intro _ _ _ h; exact h) (Or.inl ⟨by rfl, ?_⟩) (by assumption) ?_
      rotate_left
      focus (intro wT hT; (try dsimp only at hT); go_simp; try with_reducible rfl)
      try simp only [Act.put, List.setIfInBounds_toArray, List.set_cons_zero, List.set_cons_succ]
      refine wpAnyH_ready (rs := [1, 9]) (by kernel_rfl) (by simp) (AllReadyH.cons (by simp only [List.getElem?_toArray, List.getElem?_cons_succ, List.getElem?_cons_zero]; rfl) (fun K hK => ?_) (AllReadyH.cons (by simp only [List.getElem?_toArray, List.getElem?_cons_succ, List.getElem?_cons_zero]; rfl) (fun K hK => ?_) AllReadyH.nil))
      · go_simp
        go_at_call 32
        refine (of_any ⟨h, p, q, b⟩ _).mono ?_
        rintro e v30 ⟨rfl, hb30⟩
        have HV30 := Lib.hid (HRd.out.older hb30)
        clear c0 c1 c2 c3 d0 d1 d2 hz
        obtain ⟨⟨c0, c1, c2, c3⟩, ⟨d0, d1, d2⟩, hz⟩ := HV30.out.pr.facts
        clear hb30
        go_wp2_with fail
        refine hK.out _ _ (by exact ⟨c0, c1, c2, c3, d0, d1, d2⟩) (fun hHf30 => ?_)
        clear hK K
        try simp only [Act.put, List.setIfInBounds_toArray, List.set_cons_zero, List.set_cons_succ]
        refine wpAnyH_ready (rs := [3, 9]) (by kernel_rfl) (by simp) (AllReadyH.cons (by simp only [List.getElem?_toArray, List.getElem?_cons_succ, List.getElem?_cons_zero]; rfl) (fun K hK => ?_) (AllReadyH.cons (by simp only [List.getElem?_toArray, List.getElem?_cons_succ, List.getElem?_cons_zero]; rfl) (fun K hK => ?_) AllReadyH.nil))
        · go_simp
          go_at_call 33
          refine (token_any ⟨id, frm, til⟩ _).mono ?_
          rintro e v31 ⟨rfl, hb31⟩
          have HV31 := Lib.hid (HV30.out.older hb31)
          clear c0 c1 c2 c3 d0 d1 d2 hz
          obtain ⟨⟨c0, c1, c2, c3⟩, ⟨d0, d1, d2⟩, hz⟩ := HV31.out.pr.facts
          clear hb31
          go_wp2_with fail
          refine hK.out _ _ (by exact ⟨c0, c1, c2, c3, d0, d1, d2⟩) (fun hHf31 => ?_)
          clear hK K
          try simp only [Act.put, List.setIfInBounds_toArray, List.set_cons_zero, List.set_cons_succ]
          refine wpAnyH_ready (rs := [5, 9]) (by kernel_rfl) (by simp) (AllReadyH.cons (by simp only [List.getElem?_toArray, List.getElem?_cons_succ, List.getElem?_cons_zero]; rfl) (fun K hK => ?_) (AllReadyH.cons (by simp only [List.getElem?_toArray, List.getElem?_cons_succ, List.getElem?_cons_zero]; rfl) (fun K hK => ?_) AllReadyH.nil))
          · go_simp
            go_at_call 22
            refine (HSGN.out _ (HG.out.below HV31.out.pr.bel) HV31.out.src).mono ?_
            rintro e v32 ⟨rfl, hb32⟩
            have HV32 := Lib.hid (HV31.out.older hb32)
            clear c0 c1 c2 c3 d0 d1 d2 hz
            obtain ⟨⟨c0, c1, c2, c3⟩, ⟨d0, d1, d2⟩, hz⟩ := HV32.out.pr.facts
            clear hb32
            go_wp2_with fail
            refine hK.out _ _ (by exact ⟨c0, c1, c2, c3, d0, d1, d2⟩) (fun hHf32 => ?_)
            clear hK K
            try simp only [Act.put, List.setIfInBounds_toArray, List.set_cons_zero, List.set_cons_succ]
            refine wpAnyH_take (i := 6) (v := ?_) (by simp only [List.getElem?_toArray, List.getElem?_cons_succ, List.getElem?_cons_zero]; rfl) (by kernel_rfl) (by kernel_rfl) (by kernel_rfl) (by intro _ _ _ h; exact h) (Or.inl ⟨by rfl, ?_⟩) (by assumption) ?_
            rotate_left
            focus (intro wT hT; (try dsimp only at hT); go_simp; try with_reducible rfl)
            try simp only [Act.put, List.setIfInBounds_toArray, List.set_cons_zero, List.set_cons_succ]
            refine wpAnyH_take (i := 7) (v := ?_) (by simp only [List.getElem?_toArray, List.getElem?_cons_succ, List.getElem?_cons_zero]; rfl) (by kernel_rfl) (by kernel_rfl) (by kernel_rfl) (by intro _ _ _ h; exact h) (Or.inl ⟨by rfl, ?_⟩) (by assumption) ?_
            rotate_left
            focus (intro wT hT; (try dsimp only at hT); go_simp; try with_reducible rfl)
            try simp only [Act.put, List.setIfInBounds_toArray, List.set_cons_zero, List.set_cons_succ]
            refine wpAnyH_take (i := 8) (v := ?_) (by simp only [List.getElem?_toArray, List.getElem?_cons_succ, List.getElem?_cons_zero]; rfl) (by kernel_rfl) (by kernel_rfl) (by kernel_rfl) (by intro _ _ _ h; exact h) (Or.inl ⟨by rfl, ?_⟩) (by assumption) ?_
            rotate_left
            focus (intro wT hT; (try dsimp only at hT); go_simp; try with_reducible rfl)
            try simp only [Act.put, List.setIfInBounds_toArray, List.set_cons_zero, List.set_cons_succ]
            refine wpAnyH_ready (rs := [9]) (by kernel_rfl) (by simp) (AllReadyH.cons (by simp only [List.getElem?_toArray, List.getElem?_cons_succ, List.getElem?_cons_zero]; rfl) (fun K hK => ?_) AllReadyH.nil)
            go_simp
            have HV33 := Lib.hid (HV32.out.older ((Below.refl _ _).alloc (Nat.le_refl _) (.cells #[.string ⟨#[]⟩, .string ⟨#[]⟩, .string ⟨#[]⟩, .bool false] 27)))
            have HY33 := Lib.hid (Bx.new v32 27 #[.string ⟨#[]⟩, .string ⟨#[]⟩, .string ⟨#[]⟩, .bool false])
            have hR9 := HV32.out.pr.tb.lt; have hR8 := HV32.out.pr.bel.size; have hR7 := HV32.out.lt
            obtain ⟨v33, hwa33⟩ : ∃ z, (v32).alloc (.cells #[.string ⟨#[]⟩, .string ⟨#[]⟩, .string ⟨#[]⟩, .bool false] 27) = z := ⟨_, rfl⟩
            rw [hwa33] at HV33 HY33 ⊢
            clear hwa33
            clear c0 c1 c2 c3 d0 d1 d2 hz
            obtain ⟨⟨c0, c1, c2, c3⟩, ⟨d0, d1, d2⟩, hz⟩ := HV33.out.pr.facts
            have x0 := HY33.out.cell (i := 0) rfl; have x1 := HY33.out.cell (i := 1) rfl; have x2 := HY33.out.cell (i := 2) rfl; have x3 := HY33.out.cell (i := 3) rfl; have y0 := HY33.out.frz 0; have y1 := HY33.out.frz 1; have y2 := HY33.out.frz 2; have y3 := HY33.out.frz 3; have hx := HY33.out.lt
            refine hK.out _ _ (by exact ⟨c0, c1, c2, c3, d0, d1, d2⟩) (fun hHf33 => ?_)
            clear hK K
            try simp only [Act.put, List.setIfInBounds_toArray, List.set_cons_zero, List.set_cons_succ]
            refine wpAnyH_ready (rs := [10]) (by kernel_rfl) (by simp) (AllReadyH.cons (by simp only [List.getElem?_toArray, List.getElem?_cons_succ, List.getElem?_cons_zero]; rfl) (fun K hK => ?_) AllReadyH.nil)
            go_simp
            have HZ9 := Lib.hid (HV33.out.set4 hR9 hR8 hR7 (.string ⟨sh.toArray⟩) (.string ⟨sp.toArray⟩) (.string ⟨sq.toArray⟩) (.bool sb))
            have HXZ := Lib.hid (show Bx ((((v33.setCell ⟨v32.heap.size, 0, none⟩ (.string ⟨sh.toArray⟩)).setCell ⟨v32.heap.size, 1, none⟩ (.string ⟨sp.toArray⟩)).setCell ⟨v32.heap.size, 2, none⟩ (.string ⟨sq.toArray⟩)).setCell ⟨v32.heap.size, 3, none⟩ (.bool sb)) v32.heap.size 27 #[.string ⟨sh.toArray⟩, .string ⟨sp.toArray⟩, .string ⟨sq.toArray⟩, .bool sb] from ((((HY33.out.set 0 (.string ⟨sh.toArray⟩)).set 1 (.string ⟨sp.toArray⟩)).set 2 (.string ⟨sq.toArray⟩)).set 3 (.bool sb)))
            obtain ⟨w9, hw9⟩ : ∃ z, ((((v33.setCell ⟨v32.heap.size, 0, none⟩ (.string ⟨sh.toArray⟩)).setCell ⟨v32.heap.size, 1, none⟩ (.string ⟨sp.toArray⟩)).setCell ⟨v32.heap.size, 2, none⟩ (.string ⟨sq.toArray⟩)).setCell ⟨v32.heap.size, 3, none⟩ (.bool sb)) = z := ⟨_, rfl⟩
            rw [hw9] at HZ9 HXZ ⊢
            clear hw9
            clear c0 c1 c2 c3 d0 d1 d2 hz
            clear x0 x1 x2 x3 y0 y1 y2 y3 hx
            obtain ⟨⟨c0, c1, c2, c3⟩, ⟨d0, d1, d2⟩, hz⟩ := HZ9.out.pr.facts
            refine hK.out _ _ (by exact ⟨c0, c1, c2, c3, d0, d1, d2⟩) (fun hHf9 => ?_)
            clear hK K
            try simp only [Act.put, List.setIfInBounds_toArray, List.set_cons_zero, List.set_cons_succ]
            refine wpAnyH_take (i := 11) (v := ?_) (by simp only [List.getElem?_toArray, List.getElem?_cons_succ, List.getElem?_cons_zero]; rfl) (by kernel_rfl) (by kernel_rfl) (by kernel_rfl) (by intro _ _ _ h; exact h) (Or.inl ⟨by rfl, ?_⟩) (by assumption) ?_
            rotate_left
            focus (intro wT hT; (try dsimp only at hT); go_simp; try with_reducible rfl)
            try simp only [Act.put, List.setIfInBounds_toArray, List.set_cons_zero, List.set_cons_succ]
            refine wpAnyH_done (by kernel_rfl) ?_ _
            go_wp2_with fail
            go_meet
            exact ⟨_, rfl, rfl, ⟨HZ9.out.pr, HXZ.out⟩, HZ9.out.src⟩
          · go_simp
            have HV32 := Lib.hid (HV31.out.older ((Below.refl _ _).alloc (Nat.le_refl _) (.cells #[.string ⟨#[]⟩, .string ⟨#[]⟩, .string ⟨#[]⟩, .bool false] 27)))
            have HY32 := Lib.hid (Bx.new v31 27 #[.string ⟨#[]⟩, .string ⟨#[]⟩, .string ⟨#[]⟩, .bool false])
            have hR9 := HV31.out.pr.tb.lt; have hR8 := HV31.out.pr.bel.size; have hR7 := HV31.out.lt
            obtain ⟨v32, hwa32⟩ : ∃ z, (v31).alloc (.cells #[.string ⟨#[]⟩, .string ⟨#[]⟩, .string ⟨#[]⟩, .bool false] 27) = z := ⟨_, rfl⟩
            rw [hwa32] at HV32 HY32 ⊢
            clear hwa32
            clear c0 c1 c2 c3 d0 d1 d2 hz
            obtain ⟨⟨c0, c1, c2, c3⟩, ⟨d0, d1, d2⟩, hz⟩ := HV32.out.pr.facts
            have x0 := HY32.out.cell (i := 0) rfl; have x1 := HY32.out.cell (i := 1) rfl; have x2 := HY32.out.cell (i := 2) rfl; have x3 := HY32.out.cell (i := 3) rfl; have y0 := HY32.out.frz 0; have y1 := HY32.out.frz 1; have y2 := HY32.out.frz 2; have y3 := HY32.out.frz 3; have hx := HY32.out.lt
            refine hK.out _ _ (by exact ⟨c0, c1, c2, c3, d0, d1, d2⟩) (fun hHf32 => ?_)
            clear hK K
            try simp only [Act.put, List.setIfInBounds_toArray, List.set_cons_zero, List.set_cons_succ]
            refine wpAnyH_ready (rs := [5]) (by kernel_rfl) (by simp) (AllReadyH.cons (by simp only [List.getElem?_toArray, List.getElem?_cons_succ, List.getElem?_cons_zero]; rfl) (fun K hK => ?_) AllReadyH.nil)
            go_simp
            go_at_call 22
            refine (HSGN.out _ (HG.out.below HV32.out.pr.bel) HV32.out.src).mono ?_
            rintro e v33 ⟨rfl, hb33⟩
            have HV33 := Lib.hid (HV32.out.older hb33)
            have HY33 := Lib.hid (HY32.out.older hb33)
            clear x0 x1 x2 x3 y0 y1 y2 y3 hx
            have x0 := HY33.out.cell (i := 0) rfl; have x1 := HY33.out.cell (i := 1) rfl; have x2 := HY33.out.cell (i := 2) rfl; have x3 := HY33.out.cell (i := 3) rfl; have y0 := HY33.out.frz 0; have y1 := HY33.out.frz 1; have y2 := HY33.out.frz 2; have y3 := HY33.out.frz 3; have hx := HY33.out.lt
            clear c0 c1 c2 c3 d0 d1 d2 hz
            obtain ⟨⟨c0, c1, c2, c3⟩, ⟨d0, d1, d2⟩, hz⟩ := HV33.out.pr.facts
            clear hb33
            go_wp2_with fail
            refine hK.out _ _ (by exact ⟨c0, c1, c2, c3, d0, d1, d2⟩) (fun hHf33 => ?_)
            clear hK K
            try simp only [Act.put, List.setIfInBounds_toArray, List.set_cons_zero, List.set_cons_succ]
            refine wpAnyH_take (i := 6) (v := ?_) (by simp only [List.getElem?_toArray, List.getElem?_cons_succ, List.getElem?_cons_zero]; rfl) (by kernel_rfl) (by kernel_rfl) (by kernel_rfl) (by intro _ _ _ h; exact h) (Or.inl ⟨by rfl, ?_⟩) (by assumption) ?_
            rotate_left
            focus (intro wT hT; (try dsimp only at hT); go_simp; try with_reducible rfl)
            try simp only [Act.put, List.setIfInBounds_toArray, List.set_cons_zero, List.set_cons_succ]
            refine wpAnyH_take (i := 7) (v := ?_) (by simp only [List.getElem?_toArray, List.getElem?_cons_succ, List.getElem?_cons_zero]; rfl) (by kernel_rfl) (by kernel_rfl) (by kernel_rfl) (by intro _ _ _ h; exact h) (Or.inl ⟨by rfl, ?_⟩) (by assumption) ?_
            rotate_left
            focus (intro wT hT; (try dsimp only at hT); go_simp; try with_reducible rfl)
            try simp only [Act.put, List.setIfInBounds_toArray, List.set_cons_zero, List.set_cons_succ]
            refine wpAnyH_take (i := 8) (v := ?_) (by simp only [List.getElem?_toArray, List.getElem?_cons_succ, List.getElem?_cons_zero]; rfl) (by kernel_rfl) (by kernel_rfl) (by kernel_rfl) (by intro _ _ _ h; exact h) (Or.inl ⟨by rfl, ?_⟩) (by assumption) ?_
            rotate_left
            focus (intro wT hT; (try dsimp only at hT); go_simp; try with_reducible rfl)
            try simp only [Act.put, List.setIfInBounds_toArray, List.set_cons_zero, List.set_cons_succ]
            refine wpAnyH_ready (rs := [10]) (by kernel_rfl) (by simp) (AllReadyH.cons (by simp only [List.getElem?_toArray, List.getElem?_cons_succ, List.getElem?_cons_zero]; rfl) (fun K hK => ?_) AllReadyH.nil)
            go_simp
            have HZ9 := Lib.hid (HV33.out.set4 hR9 hR8 hR7 (.string ⟨sh.toArray⟩) (.string ⟨sp.toArray⟩) (.string ⟨sq.toArray⟩) (.bool sb))
            have HXZ := Lib.hid (show Bx ((((v33.setCell ⟨v31.heap.size, 0, none⟩ (.string ⟨sh.toArray⟩)).setCell ⟨v31.heap.size, 1, none⟩ (.string ⟨sp.toArray⟩)).setCell ⟨v31.heap.size, 2, none⟩ (.string ⟨sq.toArray⟩)).setCell ⟨v31.heap.size, 3, none⟩ (.bool sb)) v31.heap.size 27 #[.string ⟨sh.toArray⟩, .string ⟨sp.toArray⟩, .string ⟨sq.toArray⟩, .bool sb] from ((((HY33.out.set 0 (.string ⟨sh.toArray⟩)).set 1 (.string ⟨sp.toArray⟩)).set 2 (.string ⟨sq.toArray⟩)).set 3 (.bool sb)))
            obtain ⟨w9, hw9⟩ : ∃ z, ((((v33.setCell ⟨v31.heap.size, 0, none⟩ (.string ⟨sh.toArray⟩)).setCell ⟨v31.heap.size, 1, none⟩ (.string ⟨sp.toArray⟩)).setCell ⟨v31.heap.size, 2, none⟩ (.string ⟨sq.toArray⟩)).setCell ⟨v31.heap.size, 3, none⟩ (.bool sb)) = z := ⟨_, rfl⟩
            rw [hw9] at HZ9 HXZ ⊢
            clear hw9
            clear c0 c1 c2 c3 d0 d1 d2 hz
            clear x0 x1 x2 x3 y0 y1 y2 y3 hx
            obtain ⟨⟨c0, c1, c2, c3⟩, ⟨d0, d1, d2⟩, hz⟩ := HZ9.out.pr.facts
            refine hK.out _ _ (by exact ⟨c0, c1, c2, c3, d0, d1, d2⟩) (fun hHf9 => ?_)
            clear hK K
            try simp only [Act.put, List.setIfInBounds_toArray, List.set_cons_zero, List.set_cons_succ]
            refine wpAnyH_take (i := 11) (v := ?_) (by simp only [List.getElem?_toArray, List.getElem?_cons_succ, List.getElem?_cons_zero]; rfl) (by kernel_rfl) (by kernel_rfl) (by kernel_rfl) (by intro _ _ _ h; exact h) (Or.inl ⟨by rfl, ?_⟩) (by assumption) ?_
            rotate_left
            focus (intro wT hT; (try dsimp only at hT); go_simp; try with_reducible rfl)
            try simp only [Act.put, List.setIfInBounds_toArray, List.set_cons_zero, List.set_cons_succ]
            refine wpAnyH_done (by kernel_rfl) ?_ _
            go_wp2_with fail
            go_meet
            exact ⟨_, rfl, rfl, ⟨HZ9.out.pr, HXZ.out⟩, HZ9.out.src⟩
        · go_simp
          have HV31 := Lib.hid (HV30.out.older ((Below.refl _ _).alloc (Nat.le_refl _) (.cells #[.string ⟨#[]⟩, .string ⟨#[]⟩, .string ⟨#[]⟩, .bool false] 27)))
          have HY31 := Lib.hid (Bx.new v30 27 #[.string ⟨#[]⟩, .string ⟨#[]⟩, .string ⟨#[]⟩, .bool false])
          have hR9 := HV30.out.pr.tb.lt; have hR8 := HV30.out.pr.bel.size; have hR7 := HV30.out.lt
          obtain ⟨v31, hwa31⟩ : ∃ z, (v30).alloc (.cells #[.string ⟨#[]⟩, .string ⟨#[]⟩, .string ⟨#[]⟩, .bool false] 27) = z := ⟨_, rfl⟩
          rw [hwa31] at HV31 HY31 ⊢
          clear hwa31
          clear c0 c1 c2 c3 d0 d1 d2 hz
          obtain ⟨⟨c0, c1, c2, c3⟩, ⟨d0, d1, d2⟩, hz⟩ := HV31.out.pr.facts
          have x0 := HY31.out.cell (i := 0) rfl; have x1 := HY31.out.cell (i := 1) rfl; have x2 := HY31.out.cell (i := 2) rfl; have x3 := HY31.out.cell (i := 3) rfl; have y0 := HY31.out.frz 0; have y1 := HY31.out.frz 1; have y2 := HY31.out.frz 2; have y3 := HY31.out.frz 3; have hx := HY31.out.lt
          refine hK.out _ _ (by exact ⟨c0, c1, c2, c3, d0, d1, d2⟩) (fun hHf31 => ?_)
          clear hK K
          try simp only [Act.put, List.setIfInBounds_toArray, List.set_cons_zero, List.set_cons_succ]
          refine wpAnyH_ready (rs := [3]) (by kernel_rfl) (by simp) (AllReadyH.cons (by simp only [List.getElem?_toArray, List.getElem?_cons_succ, List.getElem?_cons_zero]; rfl) (fun K hK => ?_) AllReadyH.nil)
          go_simp
          go_at_call 33
          refine (token_any ⟨id, frm, til⟩ _).mono ?_
          rintro e v32 ⟨rfl, hb32⟩
          have HV32 := Lib.hid (HV31.out.older hb32)
          have HY32 := Lib.hid (HY31.out.older hb32)
          clear x0 x1 x2 x3 y0 y1 y2 y3 hx
          have x0 := HY32.out.cell (i := 0) rfl; have x1 := HY32.out.cell (i := 1) rfl; have x2 := HY32.out.cell (i := 2) rfl; have x3 := HY32.out.cell (i := 3) rfl; have y0 := HY32.out.frz 0; have y1 := HY32.out.frz 1; have y2 := HY32.out.frz 2; have y3 := HY32.out.frz 3; have hx := HY32.out.lt
          clear c0 c1 c2 c3 d0 d1 d2 hz
          obtain ⟨⟨c0, c1, c2, c3⟩, ⟨d0, d1, d2⟩, hz⟩ := HV32.out.pr.facts
          clear hb32
          go_wp2_with fail
          refine hK.out _ _ (by exact ⟨c0, c1, c2, c3, d0, d1, d2⟩) (fun hHf32 => ?_)
          clear hK K
          try simp only [Act.put, List.setIfInBounds_toArray, List.set_cons_zero, List.set_cons_succ]
          refine wpAnyH_ready (rs := [5]) (by kernel_rfl) (by simp) (AllReadyH.cons (by simp only [List.getElem?_toArray, List.getElem?_cons_succ, List.getElem?_cons_zero]; rfl) (fun K hK => ?_) AllReadyH.nil)
          go_simp
          go_at_call 22
          refine (HSGN.out _ (HG.out.below HV32.out.pr.bel) HV32.out.src).mono ?_
          rintro e v33 ⟨rfl, hb33⟩
          have HV33 := Lib.hid (HV32.out.older hb33)
          have HY33 := Lib.hid (HY32.out.older hb33)
          clear x0 x1 x2 x3 y0 y1 y2 y3 hx
          have x0 := HY33.out.cell (i := 0) rfl; have x1 := HY33.out.cell (i := 1) rfl; have x2 := HY33.out.cell (i := 2) rfl; have x3 := HY33.out.cell (i := 3) rfl; have y0 := HY33.out.frz 0; have y1 := HY33.out.frz 1; have y2 := HY33.out.frz 2; have y3 := HY33.out.frz 3; have hx := HY33.out.lt
          clear c0 c1 c2 c3 d0 d1 d2 hz
          obtain ⟨⟨c0, c1, c2, c3⟩, ⟨d0, d1, d2⟩, hz⟩ := HV33.out.pr.facts
          clear hb33
          go_wp2_with fail
          refine hK.out _ _ (by exact ⟨c0, c1, c2, c3, d0, d1, d2⟩) (fun hHf33 => ?_)
          clear hK K
          try simp only [Act.put, List.setIfInBounds_toArray, List.set_cons_zero, List.set_cons_succ]
          refine wpAnyH_take (i := 6) (v := ?_) (by simp only [List.getElem?_toArray, List.getElem?_cons_succ, List.getElem?_cons_zero]; rfl) (by kernel_rfl) (by kernel_rfl) (by kernel_rfl) (by intro _ _ _ h; exact h) (Or.inl ⟨by rfl, ?_⟩) (by assumption) ?_
          rotate_left
          focus (intro wT hT; (try dsimp only at hT); go_simp; try with_reducible rfl)
          try simp only [Act.put, List.setIfInBounds_toArray, List.set_cons_zero, List.set_cons_succ]
          refine wpAnyH_take (i := 7) (v := ?_) (by simp only [List.getElem?_toArray, List.getElem?_cons_succ, List.getElem?_cons_zero]; rfl) (by kernel_rfl) (by kernel_rfl) (by kernel_rfl) (by intro _ _ _ h; exact h) (Or.inl ⟨by rfl, ?_⟩) (by assumption) ?_
          rotate_left
          focus (intro wT hT; (try dsimp only at hT); go_simp; try with_reducible rfl)
          try simp only [Act.put, List.setIfInBounds_toArray, List.set_cons_zero, List.set_cons_succ]
          refine wpAnyH_take (i := 8) (v := ?_) (by simp only [List.getElem?_toArray, List.getElem?_cons_succ, List.getElem?_cons_zero]; rfl) (by kernel_rfl) (by kernel_rfl) (by kernel_rfl) (by intro _ _ _ h; exact h) (Or.inl ⟨by rfl, ?_⟩) (by assumption) ?_
          rotate_left
          focus (intro wT hT; (try dsimp only at hT); go_simp; try with_reducible rfl)
          try simp only [Act.put, List.setIfInBounds_toArray, List.set_cons_zero, List.set_cons_succ]
          refine wpAnyH_ready (rs := [10]) (by kernel_rfl) (by simp) (AllReadyH.cons (by simp only [List.getElem?_toArray, List.getElem?_cons_succ, List.getElem?_cons_zero]; rfl) (fun K hK => ?_) AllReadyH.nil)
          go_simp
          have HZ9 := Lib.hid (HV33.out.set4 hR9 hR8 hR7 (.string ⟨sh.toArray⟩) (.string ⟨sp.toArray⟩) (.string ⟨sq.toArray⟩) (.bool sb))
          have HXZ := Lib.hid (show Bx ((((v33.setCell ⟨v30.heap.size, 0, none⟩ (.string ⟨sh.toArray⟩)).setCell ⟨v30.heap.size, 1, none⟩ (.string ⟨sp.toArray⟩)).setCell ⟨v30.heap.size, 2, none⟩ (.string ⟨sq.toArray⟩)).setCell ⟨v30.heap.size, 3, none⟩ (.bool sb)) v30.heap.size 27 #[.string ⟨sh.toArray⟩, .string ⟨sp.toArray⟩, .string ⟨sq.toArray⟩, .bool sb] from ((((HY33.out.set 0 (.string ⟨sh.toArray⟩)).set 1 (.string ⟨sp.toArray⟩)).set 2 (.string ⟨sq.toArray⟩)).set 3 (.bool sb)))
          obtain ⟨w9, hw9⟩ : ∃ z, ((((v33.setCell ⟨v30.heap.size, 0, none⟩ (.string ⟨sh.toArray⟩)).setCell ⟨v30.heap.size, 1, none⟩ (.string ⟨sp.toArray⟩)).setCell ⟨v30.heap.size, 2, none⟩ (.string ⟨sq.toArray⟩)).setCell ⟨v30.heap.size, 3, none⟩ (.bool sb)) = z := ⟨_, rfl⟩
          rw [hw9] at HZ9 HXZ ⊢
          clear hw9
          clear c0 c1 c2 c3 d0 d1 d2 hz
          clear x0 x1 x2 x3 y0 y1 y2 y3 hx
          obtain ⟨⟨c0, c1, c2, c3⟩, ⟨d0, d1, d2⟩, hz⟩ := HZ9.out.pr.facts
          refine hK.out _ _ (by exact ⟨c0, c1, c2, c3, d0, d1, d2⟩) (fun hHf9 => ?_)
          clear hK K
          try simp only [Act.put, List.setIfInBounds_toArray, List.set_cons_zero, List.set_cons_succ]
          refine wpAnyH_take (i := 11) (v := ?_) (by simp only [List.getElem?_toArray, List.getElem?_cons_succ, List.getElem?_cons_zero]; rfl) (by kernel_rfl) (by kernel_rfl) (by kernel_rfl) (by intro _ _ _ h; exact h) (Or.inl ⟨by rfl, ?_⟩) (by assumption) ?_
          rotate_left
          focus (intro wT hT; (try dsimp only at hT); go_simp; try with_reducible rfl)
          try simp only [Act.put, List.setIfInBounds_toArray, List.set_cons_zero, List.set_cons_succ]
          refine wpAnyH_done (by kernel_rfl) ?_ _
          go_wp2_with fail
          go_meet
          exact ⟨_, rfl, rfl, ⟨HZ9.out.pr, HXZ.out⟩, HZ9.out.src⟩
      · go_simp
        have HV30 := Lib.hid (HRd.out.older ((Below.refl _ _).alloc (Nat.le_refl _) (.cells #[.string ⟨#[]⟩, .string ⟨#[]⟩, .string ⟨#[]⟩, .bool false] 27)))
        have HY30 := Lib.hid (Bx.new wd 27 #[.string ⟨#[]⟩, .string ⟨#[]⟩, .string ⟨#[]⟩, .bool false])
        have hR9 := HRd.out.pr.tb.lt; have hR8 := HRd.out.pr.bel.size; have hR7 := HRd.out.lt
        obtain ⟨v30, hwa30⟩ : ∃ z, (wd).alloc (.cells #[.string ⟨#[]⟩, .string ⟨#[]⟩, .string ⟨#[]⟩, .bool false] 27) = z := ⟨_, rfl⟩
        rw [hwa30] at HV30 HY30 ⊢
        clear hwa30
        clear c0 c1 c2 c3 d0 d1 d2 hz
        obtain ⟨⟨c0, c1, c2, c3⟩, ⟨d0, d1, d2⟩, hz⟩ := HV30.out.pr.facts
        have x0 := HY30.out.cell (i := 0) rfl; have x1 := HY30.out.cell (i := 1) rfl; have x2 := HY30.out.cell (i := 2) rfl; have x3 := HY30.out.cell (i := 3) rfl; have y0 := HY30.out.frz 0; have y1 := HY30.out.frz 1; have y2 := HY30.out.frz 2; have y3 := HY30.out.frz 3; have hx := HY30.out.lt
        refine hK.out _ _ (by exact ⟨c0, c1, c2, c3, d0, d1, d2⟩) (fun hHf30 => ?_)
        clear hK K
        try simp only [Act.put, List.setIfInBounds_toArray, List.set_cons_zero, List.set_cons_succ]
        refine wpAnyH_ready (rs := [1]) (by kernel_rfl) (by simp) (AllReadyH.cons (by simp only [List.getElem?_toArray, List.getElem?_cons_succ, List.getElem?_cons_zero]; rfl) (fun K hK => ?_) AllReadyH.nil)
        go_simp
        go_at_call 32
        refine (of_any ⟨h, p, q, b⟩ _).mono ?_
        rintro e v31 ⟨rfl, hb31⟩
        have HV31 := Lib.hid (HV30.out.older hb31)
        have HY31 := Lib.hid (HY30.out.older hb31)
        clear x0 x1 x2 x3 y0 y1 y2 y3 hx
        have x0 := HY31.out.cell (i := 0) rfl; have x1 := HY31.out.cell (i := 1) rfl; have x2 := HY31.out.cell (i := 2) rfl; have x3 := HY31.out.cell (i := 3) rfl; have y0 := HY31.out.frz 0; have y1 := HY31.out.frz 1; have y2 := HY31.out.frz 2; have y3 := HY31.out.frz 3; have hx := HY31.out.lt
        clear c0 c1 c2 c3 d0 d1 d2 hz
        obtain ⟨⟨c0, c1, c2, c3⟩, ⟨d0, d1, d2⟩, hz⟩ := HV31.out.pr.facts
        clear hb31
        go_wp2_with fail
        refine hK.out _ _ (by exact ⟨c0, c1, c2, c3, d0, d1, d2⟩) (fun hHf31 => ?_)
        clear hK K
        try simp only [Act.put, List.setIfInBounds_toArray, List.set_cons_zero, List.set_cons_succ]
        refine wpAnyH_ready (rs := [3]) (by kernel_rfl) (by simp) (AllReadyH.cons (by simp only [List.getElem?_toArray, List.getElem?_cons_succ, List.getElem?_cons_zero]; rfl) (fun K hK => ?_) AllReadyH.nil)
        go_simp
        go_at_call 33
        refine (token_any ⟨id, frm, til⟩ _).mono ?_
        rintro e v32 ⟨rfl, hb32⟩
        have HV32 := Lib.hid (HV31.out.older hb32)
        have HY32 := Lib.hid (HY31.out.older hb32)
        clear x0 x1 x2 x3 y0 y1 y2 y3 hx
        have x0 := HY32.out.cell (i := 0) rfl; have x1 := HY32.out.cell (i := 1) rfl; have x2 := HY32.out.cell (i := 2) rfl; have x3 := HY32.out.cell (i := 3) rfl; have y0 := HY32.out.frz 0; have y1 := HY32.out.frz 1; have y2 := HY32.out.frz 2; have y3 := HY32.out.frz 3; have hx := HY32.out.lt
        clear c0 c1 c2 c3 d0 d1 d2 hz
        obtain ⟨⟨c0, c1, c2, c3⟩, ⟨d0, d1, d2⟩, hz⟩ := HV32.out.pr.facts
        clear hb32
        go_wp2_with fail
        refine hK.out _ _ (by exact ⟨c0, c1, c2, c3, d0, d1, d2⟩) (fun hHf32 => ?_)
        clear hK K
        try simp only [Act.put, List.setIfInBounds_toArray, List.set_cons_zero, List.set_cons_succ]
        refine wpAnyH_ready (rs := [5]) (by kernel_rfl) (by simp) (AllReadyH.cons (by simp only [List.getElem?_toArray, List.getElem?_cons_succ, List.getElem?_cons_zero]; rfl) (fun K hK => ?_) AllReadyH.nil)
        go_simp
        go_at_call 22
        refine (HSGN.out _ (HG.out.below HV32.out.pr.bel) HV32.out.src).mono ?_
        rintro e v33 ⟨rfl, hb33⟩
        have HV33 := Lib.hid (HV32.out.older hb33)
        have HY33 := Lib.hid (HY32.out.older hb33)
        clear x0 x1 x2 x3 y0 y1 y2 y3 hx
        have x0 := HY33.out.cell (i := 0) rfl; have x1 := HY33.out.cell (i := 1) rfl; have x2 := HY33.out.cell (i := 2) rfl; have x3 := HY33.out.cell (i := 3) rfl; have y0 := HY33.out.frz 0; have y1 := HY33.out.frz 1; have y2 := HY33.out.frz 2; have y3 := HY33.out.frz 3; have hx := HY33.out.lt
        clear c0 c1 c2 c3 d0 d1 d2 hz
        obtain ⟨⟨c0, c1, c2, c3⟩, ⟨d0, d1, d2⟩, hz⟩ := HV33.out.pr.facts
        clear hb33
        go_wp2_with fail
        refine hK.out _ _ (by exact ⟨c0, c1, c2, c3, d0, d1, d2⟩) (fun hHf33 => ?_)
        clear hK K
        try simp only [Act.put, List.setIfInBounds_toArray, List.set_cons_zero, List.set_cons_succ]
        refine wpAnyH_take (i := 6) (v := ?_) (by simp only [List.getElem?_toArray, List.getElem?_cons_succ, List.getElem?_cons_zero]; rfl) (by kernel_rfl) (by kernel_rfl) (by kernel_rfl) (by intro _ _ _ h; exact h) (Or.inl ⟨by rfl, ?_⟩) (by assumption) ?_
        rotate_left
        focus (intro wT hT; (try dsimp only at hT); go_simp; try with_reducible rfl)
        try simp only [Act.put, List.setIfInBounds_toArray, List.set_cons_zero, List.set_cons_succ]
        refine wpAnyH_take (i := 7) (v := ?_) (by simp only [List.getElem?_toArray, List.getElem?_cons_succ, List.getElem?_cons_zero]; rfl) (by kernel_rfl) (by kernel_rfl) (by kernel_rfl) (by intro _ _ _ h; exact h) (Or.inl ⟨by rfl, ?_⟩) (by assumption) ?_
        rotate_left
        focus (intro wT hT; (try dsimp only at hT); go_simp; try with_reducible rfl)
        try simp only [Act.put, List.setIfInBounds_toArray, List.set_cons_zero, List.set_cons_succ]
        refine wpAnyH_take (i := 8) (v := ?_) (by simp only [List.getElem?_toArray, List.getElem?_cons_succ, List.getElem?_cons_zero]; rfl) (by kernel_rfl) (by kernel_rfl) (by kernel_rfl) (by intro _ _ _ h; exact h) (Or.inl ⟨by rfl, ?_⟩) (by assumption) ?_
        rotate_left
        focus (intro wT hT; (try dsimp only at hT); go_simp; try with_reducible rfl)
        try simp only [Act.put, List.setIfInBounds_toArray, List.set_cons_zero, List.set_cons_succ]
        refine wpAnyH_ready (rs := [10]) (by kernel_rfl) (by simp) (AllReadyH.cons (by simp only [List.getElem?_toArray, List.getElem?_cons_succ, List.getElem?_cons_zero]; rfl) (fun K hK => ?_) AllReadyH.nil)
        go_simp
        have HZ9 := Lib.hid (HV33.out.set4 hR9 hR8 hR7 (.string ⟨sh.toArray⟩) (.string ⟨sp.toArray⟩) (.string ⟨sq.toArray⟩) (.bool sb))
        have HXZ := Lib.hid (show Bx ((((v33.setCell ⟨wd.heap.size, 0, none⟩ (.string ⟨sh.toArray⟩)).setCell ⟨wd.heap.size, 1, none⟩ (.string ⟨sp.toArray⟩)).setCell ⟨wd.heap.size, 2, none⟩ (.string ⟨sq.toArray⟩)).setCell ⟨wd.heap.size, 3, none⟩ (.bool sb)) wd.heap.size 27 #[.string ⟨sh.toArray⟩, .string ⟨sp.toArray⟩, .string ⟨sq.toArray⟩, .bool sb] from ((((HY33.out.set 0 (.string ⟨sh.toArray⟩)).set 1 (.string ⟨sp.toArray⟩)).set 2 (.string ⟨sq.toArray⟩)).set 3 (.bool sb)))
        obtain ⟨w9, hw9⟩ : ∃ z, ((((v33.setCell ⟨wd.heap.size, 0, none⟩ (.string ⟨sh.toArray⟩)).setCell ⟨wd.heap.size, 1, none⟩ (.string ⟨sp.toArray⟩)).setCell ⟨wd.heap.size, 2, none⟩ (.string ⟨sq.toArray⟩)).setCell ⟨wd.heap.size, 3, none⟩ (.bool sb)) = z := ⟨_, rfl⟩
        rw [hw9] at HZ9 HXZ ⊢
        clear hw9
        clear c0 c1 c2 c3 d0 d1 d2 hz
        clear x0 x1 x2 x3 y0 y1 y2 y3 hx
        obtain ⟨⟨c0, c1, c2, c3⟩, ⟨d0, d1, d2⟩, hz⟩ := HZ9.out.pr.facts
        refine hK.out _ _ (by exact ⟨c0, c1, c2, c3, d0, d1, d2⟩) (fun hHf9 => ?_)
        clear hK K
        try simp only [Act.put, List.setIfInBounds_toArray, List.set_cons_zero, List.set_cons_succ]
        refine wpAnyH_take (i := 11) (v := ?_) (by simp only [List.getElem?_toArray, List.getElem?_cons_succ, List.getElem?_cons_zero]; rfl) (by kernel_rfl) (by kernel_rfl) (by kernel_rfl) (by intro _ _ _ h; exact h) (Or.inl ⟨by rfl, ?_⟩) (by assumption) ?_
        rotate_left
        focus (intro wT hT; (try dsimp only at hT); go_simp; try with_reducible rfl)
        try simp only [Act.put, List.setIfInBounds_toArray, List.set_cons_zero, List.set_cons_succ]
        refine wpAnyH_done (by kernel_rfl) ?_ _
        go_wp2_with fail
        go_meet
        exact ⟨_, rfl, rfl, ⟨HZ9.out.pr, HXZ.out⟩, HZ9.out.src⟩
    case rest =>
      obtain ⟨R, rfl, hs9, hpx, hsx⟩ := hcut
      have hs9' := hs9.symm
      subst hs9'
      have HST := Lib.hid hpx
      have HSC := Lib.hid hsx
      clear hpx hsx
      by_cases hck : checkS ⟨h, p, q, b⟩ ⟨id, frm, til⟩ = 0
      · have hev2 := HEV.out
        have hev3 : ev = .nilIface := by rw [← hev2]; exact if_pos hck
        subst hev3
        clear hev2 HEV
        have hsd2 := HSD.out
        rw [show signA ⟨h, p, q, b⟩ ⟨id, frm, til⟩ sec3 = signed ⟨h, p, q, b⟩ ⟨id, frm, til⟩ (sigM mixM sec3 (Ad.begun ⟨h, p, q, b⟩ ⟨id, frm, til⟩).text) from if_pos hck] at hsd2
        have hrd := signed_read (sec := sec3) hck
        have hag := check_again hck (sigM_hex mixM sec3 (Ad.begun ⟨h, p, q, b⟩ ⟨id, frm, til⟩).text)
        have hvd := signed_valid hck (sigM_hex mixM sec3 (Ad.begun ⟨h, p, q, b⟩ ⟨id, frm, til⟩).text)
        have hvr := fun (kn : Bool) (n : Int) => signed_ver (sec := sec3) hck kn n
        rw [hsd2] at hrd hag hvd hvr
        obtain ⟨_, _, _, m4, m5, m6, _⟩ := checkS_ok.1 hck
        simp only at m4 m5 m6
        have hlv := valid_lens hvd
        simp only at hlv
        obtain ⟨sx, hsx⟩ : ∃ z, sigM mixM sec3 (Ad.begun ⟨h, p, q, b⟩ ⟨id, frm, til⟩).text = z := ⟨_, rfl⟩
        have hsl : sx.length = 32 := by rw [← hsx]; exact sigM_len _ _ _
        rw [hsx] at hrd
        have HRD : Hid (∀ wz, SgnAt wz → Calls Tryz.prog 27 #[adV ⟨sh, sp, sq, sb⟩] wz fun e w' => e = .returned (.tuple #[adV ⟨h, p, q, b⟩, tkV ⟨id, frm, til⟩, .string ⟨sx.toArray⟩, .nilIface]) ∧ Below wz.heap.size wz w') := Lib.hid (fun wz hz => by have h9 := read_any ⟨sh, sp, sq, sb⟩ wz hz (by simp only; omega) (by simp only; omega) (by simp only; omega); rw [hrd] at h9; exact h9)
        have HVE : Hid (∀ (kn : Bool) (n : Int) wz, SgnAt wz → SrcAt wz (.slice (some ⟨gs, 0, none⟩) 24 24) 24 (bvals sec3) → Calls Tryz.prog 38 #[adV ⟨sh, sp, sq, sb⟩, .slice (some ⟨gs, 0, none⟩) 24 24, .bool kn, .int .i64 n] wz fun e w' => e = .returned (.tuple #[adV (verA ⟨sh, sp, sq, sb⟩ sec3 kn n), Sg.errC (verC ⟨sh, sp, sq, sb⟩ sec3 kn n)]) ∧ Below wz.heap.size wz w') := Lib.hid (fun kn n wz hz hv => by have h9 := verify_any ⟨sh, sp, sq, sb⟩ (some ⟨gs, 0, none⟩) 24 sec3 kn n wz hz hv (by simp only; omega) (by simp only; omega) (by simp only; omega) (by decide); exact h9)
        have HVR := Lib.hid hvr
        have HVY := Lib.hid (fun (kn : Bool) (n : Int) h0 => verA_yes (sec := sec3) (k := kn) (n := n) hrd h0)
        have HSG2 : Hid (∀ wz, SgnAt wz → SrcAt wz (.slice (some ⟨gs, 0, none⟩) 24 24) 24 (bvals sec3) → Calls Tryz.prog 22 #[adV ⟨sh, sp, sq, sb⟩, tkV ⟨id, frm, til⟩, .slice (some ⟨gs, 0, none⟩) 24 24] wz fun e w' => e = .returned (.tuple #[adV ⟨[], [], [], false⟩, errV 2]) ∧ Below wz.heap.size wz w') := Lib.hid (fun wz hz hv => by have h9 := sign_any ⟨sh, sp, sq, sb⟩ ⟨id, frm, til⟩ (some ⟨gs, 0, none⟩) 24 sec3 wz hz hv (by simp only; omega) (by simp only; omega) (by simp only; omega) (by simp only; omega) (by decide); rw [show signA ⟨sh, sp, sq, sb⟩ ⟨id, frm, til⟩ sec3 = ⟨[], [], [], false⟩ from if_neg (by rw [hag]; decide), show Sg.errC (checkS ⟨sh, sp, sq, sb⟩ ⟨id, frm, til⟩) = errV 2 from by rw [hag]; rfl] at h9; exact h9)
        have hf1 : -9223372036854775808 ≤ frm - 1 ∧ frm - 1 ≤ 9223372036854775807 := by omega
        have hf2 : -9223372036854775808 ≤ til - 1 ∧ til - 1 ≤ 9223372036854775807 := by omega
        have HAB := adB_refl h p q b
        have HTB := tkB_refl id frm til
        have HZB := adB_refl [] [] [] false
        clear hsd2 HSD hrd hag hvd hvr hlv hsx hck m4 m5 m6 HSGN
        obtain ⟨⟨x0, x1, x2, x3⟩, ⟨d0, d1, d2⟩, ⟨hza, hzb, hzc⟩⟩ := HST.out.facts
        go_wp2_with fail
        refine (HRD.out _ (HG.out.below HST.out.pr.bel)).mono ?_
        rintro e w5 ⟨rfl, hb5⟩
        have HST5 := Lib.hid (HST.out.older hb5)
        have HSC5 := Lib.hid (HSC.out.older hb5)
        clear hb5 HRD
        clear x0 x1 x2 x3 d0 d1 d2 hza hzb hzc
        have HPP6 := Lib.hid (prS_new 27 51 HST5.out.pr.bel h p q id b frm til)
        have HST6 := Lib.hid (HST5.out.older (((Below.refl w5.heap.size w5).alloc (Nat.le_refl _) (.cells #[.string ⟨h.toArray⟩, .string ⟨p.toArray⟩, .string ⟨q.toArray⟩, .bool b] 27)).alloc (by simp) (.cells #[.string ⟨id.toArray⟩, .int .i64 frm, .int .i64 til] 51)))
        have HSC6 := Lib.hid (HSC5.out.older (((Below.refl w5.heap.size w5).alloc (Nat.le_refl _) (.cells #[.string ⟨h.toArray⟩, .string ⟨p.toArray⟩, .string ⟨q.toArray⟩, .bool b] 27)).alloc (by simp) (.cells #[.string ⟨id.toArray⟩, .int .i64 frm, .int .i64 til] 51)))
        go_upto_region 8 with fail
        obtain ⟨w6, hw6⟩ : ∃ z, ((w5.alloc (.cells #[.string ⟨h.toArray⟩, .string ⟨p.toArray⟩, .string ⟨q.toArray⟩, .bool b] 27)).alloc (.cells #[.string ⟨id.toArray⟩, .int .i64 frm, .int .i64 til] 51)) = z := ⟨_, rfl⟩
        obtain ⟨R7, hR7⟩ : ∃ z, w5.heap.size = z := ⟨_, rfl⟩
        rw [hw6] at HPP6 HST6 HSC6 ⊢
        rw [hR7] at HPP6 ⊢
        clear hw6 hR7
        obtain ⟨⟨c0, c1, c2, c3⟩, ⟨d0, d1, d2⟩, hz⟩ := HST6.out.pr.facts; obtain ⟨⟨a0, a1, a2, a3⟩, ⟨b0, b1, b2⟩, hzp⟩ := HPP6.out.facts
        have HST7 := Lib.hid (HST6.out.older ((Below.refl _ _).drew))
        have HPP7 := Lib.hid (HPP6.out.older ((Below.refl _ _).drew))
        have HSC7 := Lib.hid (HSC6.out.older ((Below.refl _ _).drew))
        go_wp2_with fail
        refine wp_region_held_drew (S := fun w' => w'.cell? ⟨w.heap.size, 0, none⟩ = some (.string ⟨h.toArray⟩) ∧ w'.cell? ⟨w.heap.size, 1, none⟩ = some (.string ⟨p.toArray⟩) ∧ w'.cell? ⟨w.heap.size, 2, none⟩ = some (.string ⟨q.toArray⟩) ∧ w'.cell? ⟨w.heap.size, 3, none⟩ = some (.bool b) ∧ w'.cell? ⟨w.heap.size + 1, 0, none⟩ = some (.string ⟨id.toArray⟩) ∧ w'.cell? ⟨w.heap.size + 1, 1, none⟩ = some (.int .i64 frm) ∧ w'.cell? ⟨w.heap.size + 1, 2, none⟩ = some (.int .i64 til) ∧ w'.cell? ⟨R7, 0, none⟩ = some (.string ⟨h.toArray⟩) ∧ w'.cell? ⟨R7, 1, none⟩ = some (.string ⟨p.toArray⟩) ∧ w'.cell? ⟨R7, 2, none⟩ = some (.string ⟨q.toArray⟩) ∧ w'.cell? ⟨R7, 3, none⟩ = some (.bool b) ∧ w'.cell? ⟨R7 + 1, 0, none⟩ = some (.string ⟨id.toArray⟩) ∧ w'.cell? ⟨R7 + 1, 1, none⟩ = some (.int .i64 frm) ∧ w'.cell? ⟨R7 + 1, 2, none⟩ = some (.int .i64 til)) (by kernel_rfl) (by exact ⟨c0, c1, c2, c3, d0, d1, d2, a0, a1, a2, a3, b0, b1, b2⟩) (fun hHeld => ?_)
        obtain ⟨wd, hwd⟩ : ∃ z, w6.drew = z := ⟨_, rfl⟩
        rw [hwd] at hHeld HST7 HPP7 HSC7 ⊢
        clear hwd
        clear c0 c1 c2 c3 d0 d1 d2 hz a0 a1 a2 a3 b0 b1 b2 hzp
        obtain ⟨⟨c0, c1, c2, c3⟩, ⟨d0, d1, d2⟩, hz⟩ := HST7.out.pr.facts; obtain ⟨⟨a0, a1, a2, a3⟩, ⟨b0, b1, b2⟩, hzp⟩ := HPP7.out.facts
        refine wpAnyH_take (i := 0) (v := ?_) (by simp only [List.getElem?_toArray, List.getElem?_cons_succ, List.getElem?_cons_zero]; rfl) (by kernel_rfl) (by kernel_rfl) (by kernel_rfl) (by intro _ _ _ h; exact h) (Or.inl ⟨by rfl, ?_⟩) (by assumption) ?_
        rotate_left
        focus (intro wT hT; (try dsimp only at hT); go_simp; try with_reducible rfl)
        try simp only [Act.put, List.setIfInBounds_toArray, List.set_cons_zero, List.set_cons_succ]
        refine wpAnyH_take (i := 1) (v := ?_) (by simp only [List.getElem?_toArray, List.getElem?_cons_succ, List.getElem?_cons_zero]; rfl) (by kernel_rfl) (by kernel_rfl) (by kernel_rfl) (by intro _ _ _ h; exact h) (Or.inl ⟨by rfl, ?_⟩) (by assumption) ?_
        rotate_left
        focus (intro wT hT; (try dsimp only at hT); go_simp; try with_reducible rfl)
        try simp only [Act.put, List.setIfInBounds_toArray, List.set_cons_zero, List.set_cons_succ]
        refine wpAnyH_take (i := 2) (v := ?_) (by simp only [List.getElem?_toArray, List.getElem?_cons_succ, List.getElem?_cons_zero]; rfl) (by kernel_rfl) (by kernel_rfl) (by kernel_rfl) (by intro _ _ _ h; exact h) (Or.inl ⟨by rfl, ?_⟩) (by assumption) ?_
        rotate_left
        focus (intro wT hT; (try dsimp only at hT); go_simp; try with_reducible rfl)
        try simp only [Act.put, List.setIfInBounds_toArray, List.set_cons_zero, List.set_cons_succ]
        refine wpAnyH_take (i := 3) (v := ?_) (by simp only [List.getElem?_toArray, List.getElem?_cons_succ, List.getElem?_cons_zero]; rfl) (by kernel_rfl) (by kernel_rfl) (by kernel_rfl) (by intro _ _ _ h; exact h) (Or.inl ⟨by rfl, ?_⟩) (by assumption) ?_
        rotate_left
        focus (intro wT hT; (try dsimp only at hT); go_simp; try with_reducible rfl)
        try simp only [Act.put, List.setIfInBounds_toArray, List.set_cons_zero, List.set_cons_succ]
        refine wpAnyH_take (i := 4) (v := ?_) (by simp only [List.getElem?_toArray, List.getElem?_cons_succ, List.getElem?_cons_zero]; rfl) (by kernel_rfl) (by kernel_rfl) (by kernel_rfl) (by intro _ _ _ h; exact h) (Or.inl ⟨by rfl, ?_⟩) (by assumption) ?_
        rotate_left
        focus (intro wT hT; (try dsimp only at hT); go_simp; try with_reducible rfl)
        try simp only [Act.put, List.setIfInBounds_toArray, List.set_cons_zero, List.set_cons_succ]
        refine wpAnyH_ready (rs := [5]) (by kernel_rfl) (by simp) (AllReadyH.cons (by simp only [List.getElem?_toArray, List.getElem?_cons_succ, List.getElem?_cons_zero]; rfl) (fun K hK => ?_) AllReadyH.nil)
        go_simp
        go_at_call 32
        refine (of_any ⟨h, p, q, b⟩ _).mono ?_
        rintro e v1 ⟨rfl, hv1⟩
        have HST1 := Lib.hid (HST7.out.older hv1)
        have HPP1 := Lib.hid (HPP7.out.older hv1)
        have HSC1 := Lib.hid (HSC7.out.older hv1)
        clear c0 c1 c2 c3 d0 d1 d2 hz a0 a1 a2 a3 b0 b1 b2 hzp
        obtain ⟨⟨c0, c1, c2, c3⟩, ⟨d0, d1, d2⟩, hz⟩ := HST1.out.pr.facts; obtain ⟨⟨a0, a1, a2, a3⟩, ⟨b0, b1, b2⟩, hzp⟩ := HPP1.out.facts
        clear hv1
        go_wp2_with fail
        refine hK.out _ _ (by exact ⟨c0, c1, c2, c3, d0, d1, d2, a0, a1, a2, a3, b0, b1, b2⟩) (fun hHf1 => ?_)
        clear hK K
        try simp only [Act.put, List.setIfInBounds_toArray, List.set_cons_zero, List.set_cons_succ]
        refine wpAnyH_take (i := 6) (v := ?_) (by simp only [List.getElem?_toArray, List.getElem?_cons_succ, List.getElem?_cons_zero]; rfl) (by kernel_rfl) (by kernel_rfl) (by kernel_rfl) (by intro _ _ _ h; exact h) (Or.inl ⟨by rfl, ?_⟩) (by assumption) ?_
        rotate_left
        focus (intro wT hT; (try dsimp only at hT); go_simp; try with_reducible rfl)
        try simp only [Act.put, List.setIfInBounds_toArray, List.set_cons_zero, List.set_cons_succ]
        refine wpAnyH_take (i := 7) (v := ?_) (by simp only [List.getElem?_toArray, List.getElem?_cons_succ, List.getElem?_cons_zero]; rfl) (by kernel_rfl) (by kernel_rfl) (by kernel_rfl) (by intro _ _ _ h; exact h) (Or.inl ⟨by rfl, ?_⟩) (by assumption) ?_
        rotate_left
        focus (intro wT hT; (try dsimp only at hT); go_simp; try with_reducible rfl)
        try simp only [Act.put, List.setIfInBounds_toArray, List.set_cons_zero, List.set_cons_succ]
        refine wpAnyH_take (i := 8) (v := ?_) (by simp only [List.getElem?_toArray, List.getElem?_cons_succ, List.getElem?_cons_zero]; rfl) (by kernel_rfl) (by kernel_rfl) (by kernel_rfl) (by intro _ _ _ h; exact h) (Or.inl ⟨by rfl, ?_⟩) (by assumption) ?_
        rotate_left
        focus (intro wT hT; (try dsimp only at hT); go_simp; try with_reducible rfl)
        try simp only [Act.put, List.setIfInBounds_toArray, List.set_cons_zero, List.set_cons_succ]
        refine wpAnyH_take (i := 9) (v := ?_) (by simp only [List.getElem?_toArray, List.getElem?_cons_succ, List.getElem?_cons_zero]; rfl) (by kernel_rfl) (by kernel_rfl) (by kernel_rfl) (by intro _ _ _ h; exact h) (Or.inl ⟨by rfl, ?_⟩) (by assumption) ?_
        rotate_left
        focus (intro wT hT; (try dsimp only at hT); go_simp; try with_reducible rfl)
        try simp only [Act.put, List.setIfInBounds_toArray, List.set_cons_zero, List.set_cons_succ]
        refine wpAnyH_take (i := 10) (v := ?_) (by simp only [List.getElem?_toArray, List.getElem?_cons_succ, List.getElem?_cons_zero]; rfl) (by kernel_rfl) (by kernel_rfl) (by kernel_rfl) (by intro _ _ _ h; exact h) (Or.inl ⟨by rfl, ?_⟩) (by assumption) ?_
        rotate_left
        focus (intro wT hT; (try dsimp only at hT); go_simp; try with_reducible rfl)
        try simp only [Act.put, List.setIfInBounds_toArray, List.set_cons_zero, List.set_cons_succ]
        refine wpAnyH_ready (rs := [11]) (by kernel_rfl) (by simp) (AllReadyH.cons (by simp only [List.getElem?_toArray, List.getElem?_cons_succ, List.getElem?_cons_zero]; rfl) (fun K hK => ?_) AllReadyH.nil)
        go_simp
        go_at_call 33
        refine (token_any ⟨id, frm, til⟩ _).mono ?_
        rintro e v2 ⟨rfl, hv2⟩
        have HST2 := Lib.hid (HST1.out.older hv2)
        have HPP2 := Lib.hid (HPP1.out.older hv2)
        have HSC2 := Lib.hid (HSC1.out.older hv2)
        clear c0 c1 c2 c3 d0 d1 d2 hz a0 a1 a2 a3 b0 b1 b2 hzp
        obtain ⟨⟨c0, c1, c2, c3⟩, ⟨d0, d1, d2⟩, hz⟩ := HST2.out.pr.facts; obtain ⟨⟨a0, a1, a2, a3⟩, ⟨b0, b1, b2⟩, hzp⟩ := HPP2.out.facts
        clear hv2
        go_wp2_with fail
        refine hK.out _ _ (by exact ⟨c0, c1, c2, c3, d0, d1, d2, a0, a1, a2, a3, b0, b1, b2⟩) (fun hHf2 => ?_)
        clear hK K
        try simp only [Act.put, List.setIfInBounds_toArray, List.set_cons_zero, List.set_cons_succ]
        refine wpAnyH_take (i := 12) (v := ?_) (by simp only [List.getElem?_toArray, List.getElem?_cons_succ, List.getElem?_cons_zero]; rfl) (by kernel_rfl) (by kernel_rfl) (by kernel_rfl) (by intro _ _ _ h; exact h) (Or.inl ⟨by rfl, ?_⟩) (by assumption) ?_
        rotate_left
        focus (intro wT hT; (try dsimp only at hT); go_simp; try with_reducible rfl)
        try simp only [Act.put, List.setIfInBounds_toArray, List.set_cons_zero, List.set_cons_succ]
        refine wpAnyH_take (i := 13) (v := ?_) (by simp only [List.getElem?_toArray, List.getElem?_cons_succ, List.getElem?_cons_zero]; rfl) (by kernel_rfl) (by kernel_rfl) (by kernel_rfl) (by intro _ _ _ h; exact h) (Or.inl ⟨by rfl, ?_⟩) (by assumption) ?_
        rotate_left
        focus (intro wT hT; (try dsimp only at hT); go_simp; try with_reducible rfl)
        try simp only [Act.put, List.setIfInBounds_toArray, List.set_cons_zero, List.set_cons_succ]
        refine wpAnyH_take (i := 14) (v := ?_) (by simp only [List.getElem?_toArray, List.getElem?_cons_succ, List.getElem?_cons_zero]; rfl) (by kernel_rfl) (by kernel_rfl) (by kernel_rfl) (by intro _ _ _ h; exact h) (Or.inl ⟨by rfl, ?_⟩) (by assumption) ?_
        rotate_left
        focus (intro wT hT; (try dsimp only at hT); go_simp; try with_reducible rfl)
        try simp only [Act.put, List.setIfInBounds_toArray, List.set_cons_zero, List.set_cons_succ]
        refine wpAnyH_take (i := 15) (v := ?_) (by simp only [List.getElem?_toArray, List.getElem?_cons_succ, List.getElem?_cons_zero]; rfl) (by kernel_rfl) (by kernel_rfl) (by kernel_rfl) (by intro _ _ _ h; exact h) (Or.inl ⟨by rfl, ?_⟩) (by assumption) ?_
        rotate_left
        focus (intro wT hT; (try dsimp only at hT); go_simp; try with_reducible rfl)
        try simp only [Act.put, List.setIfInBounds_toArray, List.set_cons_zero, List.set_cons_succ]
        refine wpAnyH_take (i := 16) (v := ?_) (by simp only [List.getElem?_toArray, List.getElem?_cons_succ, List.getElem?_cons_zero]; rfl) (by kernel_rfl) (by kernel_rfl) (by kernel_rfl) (by intro _ _ _ h; exact h) (Or.inl ⟨by rfl, ?_⟩) (by assumption) ?_
        rotate_left
        focus (intro wT hT; (try dsimp only at hT); go_simp; try with_reducible rfl)
        try simp only [Act.put, List.setIfInBounds_toArray, List.set_cons_zero, List.set_cons_succ]
        refine wpAnyH_take (i := 17) (v := ?_) (by simp only [List.getElem?_toArray, List.getElem?_cons_succ, List.getElem?_cons_zero]; rfl) (by kernel_rfl) (by kernel_rfl) (by kernel_rfl) (by intro _ _ _ h; exact h) (Or.inl ⟨by rfl, ?_⟩) (by assumption) ?_
        rotate_left
        focus (intro wT hT; (try dsimp only at hT); go_simp; try with_reducible rfl)
        try simp only [Act.put, List.setIfInBounds_toArray, List.set_cons_zero, List.set_cons_succ]
        refine wpAnyH_take (i := 18) (v := ?_) (by simp only [List.getElem?_toArray, List.getElem?_cons_succ, List.getElem?_cons_zero]; rfl) (by kernel_rfl) (by kernel_rfl) (by kernel_rfl) (by intro _ _ _ h; exact h) (Or.inl ⟨by rfl, ?_⟩) (by assumption) ?_
        rotate_left
        focus (intro wT hT; (try dsimp only at hT); go_simp; try with_reducible rfl)
        try simp only [Act.put, List.setIfInBounds_toArray, List.set_cons_zero, List.set_cons_succ]
        refine wpAnyH_done (by kernel_rfl) ?_ _
        clear c0 c1 c2 c3 d0 d1 d2 hz a0 a1 a2 a3 b0 b1 b2 hzp
        obtain ⟨⟨x0, x1, x2, x3⟩, ⟨d0, d1, d2⟩, ⟨hza, hzb, hzc⟩⟩ := HST2.out.facts
        have HLO := Lib.hid (show LoS w (v2.alloc (.cells #[.int .i64 now, .int .i64 (frm - 1), .int .i64 frm, .int .i64 (til - 1), .int .i64 til] 3)) R R7 v2.heap.size gs sec3 ⟨h, p, q, b⟩ ⟨sh, sp, sq, sb⟩ ⟨id, frm, til⟩ #[.int .i64 now, .int .i64 (frm - 1), .int .i64 frm, .int .i64 (til - 1), .int .i64 til] from ⟨HST2.out.older ((Below.refl _ _).alloc (Nat.le_refl _) (.cells #[.int .i64 now, .int .i64 (frm - 1), .int .i64 frm, .int .i64 (til - 1), .int .i64 til] 3)), HSC2.out.older ((Below.refl _ _).alloc (Nat.le_refl _) (.cells #[.int .i64 now, .int .i64 (frm - 1), .int .i64 frm, .int .i64 (til - 1), .int .i64 til] 3)), HPP2.out.older ((Below.refl _ _).alloc (Nat.le_refl _) (.cells #[.int .i64 now, .int .i64 (frm - 1), .int .i64 frm, .int .i64 (til - 1), .int .i64 til] 3)), Bx.new v2 3 #[.int .i64 now, .int .i64 (frm - 1), .int .i64 frm, .int .i64 (til - 1), .int .i64 til]⟩)
        go_wp2_with fail
        go_loopg [87] 5 (fun gq iv wr => ∃ j : Nat, j ≤ 5 ∧ Hid (5 ≤ gq + j) ∧ iv = .int .i64 (j : Int) ∧ LoS w wr R R7 v2.heap.size gs sec3 ⟨h, p, q, b⟩ ⟨sh, sp, sq, sb⟩ ⟨id, frm, til⟩ #[.int .i64 now, .int .i64 (frm - 1), .int .i64 frm, .int .i64 (til - 1), .int .i64 til])
        case atStart => exact ⟨0, Nat.zero_le _, Lib.hid (by omega), rfl, HLO.out⟩
        case round =>
          obtain ⟨j, hj, HQ, rfl, hm⟩ := hrel
          clear HLO x0 x1 x2 x3 d0 d1 d2 hza hzb hzc
          have HM := Lib.hid hm
          obtain ⟨⟨x0, x1, x2, x3⟩, ⟨d0, d1, d2⟩, ⟨hza, hzb, hzc⟩⟩ := hm.st.facts
          obtain ⟨⟨c0, c1, c2, c3⟩, _, hzp⟩ := hm.pp.facts
          have hz9 := hm.nb.lt
          by_cases hlt : j < 5
          · obtain ⟨n, hn⟩ : ∃ n : Int, (#[.int .i64 now, .int .i64 (frm - 1), .int .i64 frm, .int .i64 (til - 1), .int .i64 til] : Array Value)[j]? = some (.int .i64 n) := by
              rcases (show j = 0 ∨ j = 1 ∨ j = 2 ∨ j = 3 ∨ j = 4 by omega) with rfl | rfl | rfl | rfl | rfl <;> exact ⟨_, rfl⟩
            have hc := hm.nb.cell hn
            clear hm hn
            have hji : (j : Int) < 5 := by omega
            by_cases hin : frm ≤ n ∧ n < til
            · obtain ⟨hi1, hi2⟩ := hin
              have hvc : verC ⟨sh, sp, sq, sb⟩ sec3 true n = 0 := by rw [HVR.out true n, if_neg (by decide), if_neg (by omega)]
              have hva := HVY.out true n hvc
              have hec : Sg.errC (verC ⟨sh, sp, sq, sb⟩ sec3 true n) = .nilIface := errC_zero hvc
              have HV1 : Hid (∀ wz, SgnAt wz → SrcAt wz (.slice (some ⟨gs, 0, none⟩) 24 24) 24 (bvals sec3) → Calls Tryz.prog 38 #[adV ⟨sh, sp, sq, sb⟩, .slice (some ⟨gs, 0, none⟩) 24 24, .bool true, .int .i64 n] wz fun e w' => e = .returned (.tuple #[.agg #[.string ⟨h.toArray⟩, .string ⟨p.toArray⟩, .string ⟨q.toArray⟩, .bool b], .nilIface]) ∧ Below wz.heap.size wz w') := Lib.hid (fun wz h1 h2 => by have h9 := HVE.out true n wz h1 h2; rw [hva, hec] at h9; exact h9)
              clear hvc hva hec
              go_wp2_with fail
              refine (HV1.out _ (HG.out.below HM.out.st.pr.bel) HM.out.sc).mono ?_
              rintro e wv ⟨rfl, hbv⟩
              have HMV := Lib.hid (HM.out.older hbv)
              clear hbv
              clear x0 x1 x2 x3 d0 d1 d2 hza hzb hzc c0 c1 c2 c3 hzp hz9 hc
              obtain ⟨⟨x0, x1, x2, x3⟩, ⟨d0, d1, d2⟩, ⟨hza, hzb, hzc⟩⟩ := HMV.out.st.facts
              obtain ⟨⟨c0, c1, c2, c3⟩, _, hzp⟩ := HMV.out.pp.facts
              have hzq : R7 < wv.heap.size := by omega
              go_wp2_with fail
              go_roundg (gk - 1)
              case rel => exact ⟨j + 1, by omega, Lib.hid (by have := HQ.out; omega), by go_num, HMV.out.older ((Below.refl _ _).alloc (Nat.le_refl _) (.cells #[.string ⟨h.toArray⟩, .string ⟨p.toArray⟩, .string ⟨q.toArray⟩, .bool b] 27))⟩
              case measure => have := HQ.out; omega
            · by_cases hi1 : frm ≤ n
              · have hi2 : ¬ n < til := fun h9 => hin ⟨hi1, h9⟩
                clear hin
                have hvc : verC ⟨sh, sp, sq, sb⟩ sec3 true n = 15 := by rw [HVR.out true n, if_neg (by decide), if_pos (by omega)]
                have hva := verA_no (a := ⟨sh, sp, sq, sb⟩) (sec := sec3) (k := true) (n := n) (by rw [hvc]; decide)
                have hec : Sg.errC (verC ⟨sh, sp, sq, sb⟩ sec3 true n) = errV 15 := errC_at hvc (by decide)
                have HV1 : Hid (∀ wz, SgnAt wz → SrcAt wz (.slice (some ⟨gs, 0, none⟩) 24 24) 24 (bvals sec3) → Calls Tryz.prog 38 #[adV ⟨sh, sp, sq, sb⟩, .slice (some ⟨gs, 0, none⟩) 24 24, .bool true, .int .i64 n] wz fun e w' => e = .returned (.tuple #[.agg #[.string ⟨#[]⟩, .string ⟨#[]⟩, .string ⟨#[]⟩, .bool false], errV 15]) ∧ Below wz.heap.size wz w') := Lib.hid (fun wz h1 h2 => by have h9 := HVE.out true n wz h1 h2; rw [hva, hec] at h9; exact h9)
                clear hvc hva hec
                go_wp2_with fail
                refine (HV1.out _ (HG.out.below HM.out.st.pr.bel) HM.out.sc).mono ?_
                rintro e wv ⟨rfl, hbv⟩
                have HMV := Lib.hid (HM.out.older hbv)
                clear hbv
                clear x0 x1 x2 x3 d0 d1 d2 hza hzb hzc c0 c1 c2 c3 hzp hz9 hc
                obtain ⟨⟨x0, x1, x2, x3⟩, ⟨d0, d1, d2⟩, ⟨hza, hzb, hzc⟩⟩ := HMV.out.st.facts
                obtain ⟨⟨c0, c1, c2, c3⟩, _, hzp⟩ := HMV.out.pp.facts
                have hzq : R7 < wv.heap.size := by omega
                go_wp2_with (go_at_call 18; refine (is_err 15 _ (by decide)).mono ?_; rintro e w' ⟨rfl, rfl⟩)
                go_roundg (gk - 1)
                case rel => exact ⟨j + 1, by omega, Lib.hid (by have := HQ.out; omega), by go_num, HMV.out.older ((Below.refl _ _).alloc (Nat.le_refl _) (.cells #[.string ⟨#[]⟩, .string ⟨#[]⟩, .string ⟨#[]⟩, .bool false] 27))⟩
                case measure => have := HQ.out; omega
              · clear hin
                have hvc : verC ⟨sh, sp, sq, sb⟩ sec3 true n = 15 := by rw [HVR.out true n, if_neg (by decide), if_pos (by omega)]
                have hva := verA_no (a := ⟨sh, sp, sq, sb⟩) (sec := sec3) (k := true) (n := n) (by rw [hvc]; decide)
                have hec : Sg.errC (verC ⟨sh, sp, sq, sb⟩ sec3 true n) = errV 15 := errC_at hvc (by decide)
                have HV1 : Hid (∀ wz, SgnAt wz → SrcAt wz (.slice (some ⟨gs, 0, none⟩) 24 24) 24 (bvals sec3) → Calls Tryz.prog 38 #[adV ⟨sh, sp, sq, sb⟩, .slice (some ⟨gs, 0, none⟩) 24 24, .bool true, .int .i64 n] wz fun e w' => e = .returned (.tuple #[.agg #[.string ⟨#[]⟩, .string ⟨#[]⟩, .string ⟨#[]⟩, .bool false], errV 15]) ∧ Below wz.heap.size wz w') := Lib.hid (fun wz h1 h2 => by have h9 := HVE.out true n wz h1 h2; rw [hva, hec] at h9; exact h9)
                clear hvc hva hec
                go_wp2_with fail
                refine (HV1.out _ (HG.out.below HM.out.st.pr.bel) HM.out.sc).mono ?_
                rintro e wv ⟨rfl, hbv⟩
                have HMV := Lib.hid (HM.out.older hbv)
                clear hbv
                clear x0 x1 x2 x3 d0 d1 d2 hza hzb hzc c0 c1 c2 c3 hzp hz9 hc
                obtain ⟨⟨x0, x1, x2, x3⟩, ⟨d0, d1, d2⟩, ⟨hza, hzb, hzc⟩⟩ := HMV.out.st.facts
                obtain ⟨⟨c0, c1, c2, c3⟩, _, hzp⟩ := HMV.out.pp.facts
                have hzq : R7 < wv.heap.size := by omega
                go_wp2_with (go_at_call 18; refine (is_err 15 _ (by decide)).mono ?_; rintro e w' ⟨rfl, rfl⟩)
                go_roundg (gk - 1)
                case rel => exact ⟨j + 1, by omega, Lib.hid (by have := HQ.out; omega), by go_num, HMV.out.older ((Below.refl _ _).alloc (Nat.le_refl _) (.cells #[.string ⟨#[]⟩, .string ⟨#[]⟩, .string ⟨#[]⟩, .bool false] 27))⟩
                case measure => have := HQ.out; omega
          · obtain rfl : j = 5 := by omega
            have hvc : verC ⟨sh, sp, sq, sb⟩ sec3 false frm = 16 := by rw [HVR.out false frm]; exact if_pos rfl
            have hva := verA_no (a := ⟨sh, sp, sq, sb⟩) (sec := sec3) (k := false) (n := frm) (by rw [hvc]; decide)
            have hec : Sg.errC (verC ⟨sh, sp, sq, sb⟩ sec3 false frm) = errV 16 := errC_at hvc (by decide)
            have HV1 : Hid (∀ wz, SgnAt wz → SrcAt wz (.slice (some ⟨gs, 0, none⟩) 24 24) 24 (bvals sec3) → Calls Tryz.prog 38 #[adV ⟨sh, sp, sq, sb⟩, .slice (some ⟨gs, 0, none⟩) 24 24, .bool false, .int .i64 frm] wz fun e w' => e = .returned (.tuple #[adV ⟨[], [], [], false⟩, errV 16]) ∧ Below wz.heap.size wz w') := Lib.hid (fun wz h1 h2 => by have h9 := HVE.out false frm wz h1 h2; rw [hva, hec] at h9; exact h9)
            clear hvc hva hec hm hlt
            go_wp2_with fail
            refine (HV1.out _ (HG.out.below HM.out.st.pr.bel) HM.out.sc).mono ?_
            rintro e wv ⟨rfl, hbv⟩
            have HLQ := Lib.hid (show LqS w wv R gs sec3 ⟨h, p, q, b⟩ ⟨sh, sp, sq, sb⟩ ⟨id, frm, til⟩ from ⟨HM.out.st.older hbv, HM.out.sc.older hbv, src_lt (HM.out.sc.older hbv) (by decide)⟩)
            clear hbv x0 x1 x2 x3 d0 d1 d2 hza hzb hzc c0 c1 c2 c3 hzp hz9
            go_upto_region 21 with fail
            go_cut [18, 19] (fun s18 s19 wx => s19 = errV 2 ∧ Below w.heap.size w wx)
            case first =>
              obtain ⟨⟨x0, x1, x2, x3⟩, ⟨d0, d1, d2⟩, ⟨hza, hzb, hzc⟩⟩ := HLQ.out.st.facts
              have HLd := Lib.hid (HLQ.out.older ((Below.refl _ _).drew))
              refine wp_region_held_drew (S := fun w' => w'.cell? ⟨R, 0, none⟩ = some (.string ⟨sh.toArray⟩) ∧ w'.cell? ⟨R, 1, none⟩ = some (.string ⟨sp.toArray⟩) ∧ w'.cell? ⟨R, 2, none⟩ = some (.string ⟨sq.toArray⟩) ∧ w'.cell? ⟨R, 3, none⟩ = some (.bool sb) ∧ w'.cell? ⟨w.heap.size + 1, 0, none⟩ = some (.string ⟨id.toArray⟩) ∧ w'.cell? ⟨w.heap.size + 1, 1, none⟩ = some (.int .i64 frm) ∧ w'.cell? ⟨w.heap.size + 1, 2, none⟩ = some (.int .i64 til)) (by kernel_rfl) (by exact ⟨x0, x1, x2, x3, d0, d1, d2⟩) (fun hHeld => ?_)
              obtain ⟨wd, hwd⟩ : ∃ z, wv.drew = z := ⟨_, rfl⟩
              rw [hwd] at hHeld HLd ⊢
              clear hwd
              clear x0 x1 x2 x3 d0 d1 d2 hza hzb hzc
              obtain ⟨⟨x0, x1, x2, x3⟩, ⟨d0, d1, d2⟩, ⟨hza, hzb, hzc⟩⟩ := HLd.out.st.facts
              refine wpAnyH_take (i := 0) (v := ?_) (by simp only [List.getElem?_toArray, List.getElem?_cons_succ, List.getElem?_cons_zero]; rfl) (by kernel_rfl) (by kernel_rfl) (by kernel_rfl) (by intro _ _ _ h; exact h) (Or.inl ⟨by rfl, ?_⟩) (by assumption) ?_
              rotate_left
              focus (intro wT hT; (try dsimp only at hT); go_simp; try with_reducible rfl)
              try simp only [Act.put, List.setIfInBounds_toArray, List.set_cons_zero, List.set_cons_succ]
              refine wpAnyH_take (i := 1) (v := ?_) (by simp only [List.getElem?_toArray, List.getElem?_cons_succ, List.getElem?_cons_zero]; rfl) (by kernel_rfl) (by kernel_rfl) (by kernel_rfl) (by intro _ _ _ h; exact h) (Or.inl ⟨by rfl, ?_⟩) (by assumption) ?_
              rotate_left
              focus (intro wT hT; (try dsimp only at hT); go_simp; try with_reducible rfl)
              try simp only [Act.put, List.setIfInBounds_toArray, List.set_cons_zero, List.set_cons_succ]
              refine wpAnyH_take (i := 3) (v := ?_) (by simp only [List.getElem?_toArray, List.getElem?_cons_succ, List.getElem?_cons_zero]; rfl) (by kernel_rfl) (by kernel_rfl) (by kernel_rfl) (by intro _ _ _ h; exact h) (Or.inl ⟨by rfl, ?_⟩) (by assumption) ?_
              rotate_left
              focus (intro wT hT; (try dsimp only at hT); go_simp; try with_reducible rfl)
              try simp only [Act.put, List.setIfInBounds_toArray, List.set_cons_zero, List.set_cons_succ]
              refine wpAnyH_ready (rs := [2, 8]) (by kernel_rfl) (by simp) (AllReadyH.cons (by simp only [List.getElem?_toArray, List.getElem?_cons_succ, List.getElem?_cons_zero]; rfl) (fun K hK => ?_) (AllReadyH.cons (by simp only [List.getElem?_toArray, List.getElem?_cons_succ, List.getElem?_cons_zero]; rfl) (fun K hK => ?_) AllReadyH.nil))
              · go_simp
                go_at_call 33
                refine (token_any ⟨id, frm, til⟩ _).mono ?_
                rintro e v60 ⟨rfl, hb60⟩
                have HV60 := Lib.hid (HLd.out.older hb60)
                clear x0 x1 x2 x3 d0 d1 d2 hza hzb hzc
                obtain ⟨⟨x0, x1, x2, x3⟩, ⟨d0, d1, d2⟩, ⟨hza, hzb, hzc⟩⟩ := HV60.out.st.facts
                clear hb60
                go_wp2_with fail
                refine hK.out _ _ (by exact ⟨x0, x1, x2, x3, d0, d1, d2⟩) (fun hHf60 => ?_)
                clear hK K
                try simp only [Act.put, List.setIfInBounds_toArray, List.set_cons_zero, List.set_cons_succ]
                refine wpAnyH_ready (rs := [4, 8]) (by kernel_rfl) (by simp) (AllReadyH.cons (by simp only [List.getElem?_toArray, List.getElem?_cons_succ, List.getElem?_cons_zero]; rfl) (fun K hK => ?_) (AllReadyH.cons (by simp only [List.getElem?_toArray, List.getElem?_cons_succ, List.getElem?_cons_zero]; rfl) (fun K hK => ?_) AllReadyH.nil))
                · go_simp
                  go_at_call 22
                  refine (HSG2.out _ (HG.out.below HV60.out.st.pr.bel) HV60.out.sc).mono ?_
                  rintro e v61 ⟨rfl, hb61⟩
                  have HV61 := Lib.hid (HV60.out.older hb61)
                  clear x0 x1 x2 x3 d0 d1 d2 hza hzb hzc
                  obtain ⟨⟨x0, x1, x2, x3⟩, ⟨d0, d1, d2⟩, ⟨hza, hzb, hzc⟩⟩ := HV61.out.st.facts
                  clear hb61
                  go_wp2_with fail
                  refine hK.out _ _ (by exact ⟨x0, x1, x2, x3, d0, d1, d2⟩) (fun hHf61 => ?_)
                  clear hK K
                  try simp only [Act.put, List.setIfInBounds_toArray, List.set_cons_zero, List.set_cons_succ]
                  refine wpAnyH_take (i := 5) (v := ?_) (by simp only [List.getElem?_toArray, List.getElem?_cons_succ, List.getElem?_cons_zero]; rfl) (by kernel_rfl) (by kernel_rfl) (by kernel_rfl) (by intro _ _ _ h; exact h) (Or.inl ⟨by rfl, ?_⟩) (by assumption) ?_
                  rotate_left
                  focus (intro wT hT; (try dsimp only at hT); go_simp; try with_reducible rfl)
                  try simp only [Act.put, List.setIfInBounds_toArray, List.set_cons_zero, List.set_cons_succ]
                  refine wpAnyH_take (i := 6) (v := ?_) (by simp only [List.getElem?_toArray, List.getElem?_cons_succ, List.getElem?_cons_zero]; rfl) (by kernel_rfl) (by kernel_rfl) (by kernel_rfl) (by intro _ _ _ h; exact h) (Or.inl ⟨by rfl, ?_⟩) (by assumption) ?_
                  rotate_left
                  focus (intro wT hT; (try dsimp only at hT); go_simp; try with_reducible rfl)
                  try simp only [Act.put, List.setIfInBounds_toArray, List.set_cons_zero, List.set_cons_succ]
                  refine wpAnyH_take (i := 7) (v := ?_) (by simp only [List.getElem?_toArray, List.getElem?_cons_succ, List.getElem?_cons_zero]; rfl) (by kernel_rfl) (by kernel_rfl) (by kernel_rfl) (by intro _ _ _ h; exact h) (Or.inl ⟨by rfl, ?_⟩) (by assumption) ?_
                  rotate_left
                  focus (intro wT hT; (try dsimp only at hT); go_simp; try with_reducible rfl)
                  try simp only [Act.put, List.setIfInBounds_toArray, List.set_cons_zero, List.set_cons_succ]
                  refine wpAnyH_ready (rs := [8]) (by kernel_rfl) (by simp) (AllReadyH.cons (by simp only [List.getElem?_toArray, List.getElem?_cons_succ, List.getElem?_cons_zero]; rfl) (fun K hK => ?_) AllReadyH.nil)
                  go_simp
                  have HV62 := Lib.hid (HV61.out.older ((Below.refl _ _).alloc (Nat.le_refl _) (.cells #[.string ⟨#[]⟩, .string ⟨#[]⟩, .string ⟨#[]⟩, .bool false] 27)))
                  have HY62 := Lib.hid (Bx.new v61 27 #[.string ⟨#[]⟩, .string ⟨#[]⟩, .string ⟨#[]⟩, .bool false])
                  have hR9 := HV61.out.st.pr.tb.lt; have hR8 := HV61.out.st.sb.lt; have hR7 := HV61.out.lt
                  obtain ⟨v62, hwa62⟩ : ∃ z, (v61).alloc (.cells #[.string ⟨#[]⟩, .string ⟨#[]⟩, .string ⟨#[]⟩, .bool false] 27) = z := ⟨_, rfl⟩
                  rw [hwa62] at HV62 HY62 ⊢
                  clear hwa62
                  clear x0 x1 x2 x3 d0 d1 d2 hza hzb hzc
                  obtain ⟨⟨x0, x1, x2, x3⟩, ⟨d0, d1, d2⟩, ⟨hza, hzb, hzc⟩⟩ := HV62.out.st.facts
                  have k0 := HY62.out.cell (i := 0) rfl; have k1 := HY62.out.cell (i := 1) rfl; have k2 := HY62.out.cell (i := 2) rfl; have k3 := HY62.out.cell (i := 3) rfl; have y0 := HY62.out.frz 0; have y1 := HY62.out.frz 1; have y2 := HY62.out.frz 2; have y3 := HY62.out.frz 3; have hkx := HY62.out.lt
                  refine hK.out _ _ (by exact ⟨x0, x1, x2, x3, d0, d1, d2⟩) (fun hHf62 => ?_)
                  clear hK K
                  try simp only [Act.put, List.setIfInBounds_toArray, List.set_cons_zero, List.set_cons_succ]
                  refine wpAnyH_ready (rs := [9]) (by kernel_rfl) (by simp) (AllReadyH.cons (by simp only [List.getElem?_toArray, List.getElem?_cons_succ, List.getElem?_cons_zero]; rfl) (fun K hK => ?_) AllReadyH.nil)
                  go_simp
                  have HZ9 := Lib.hid (HV62.out.set4 hR9 hR8 hR7 (.string ⟨#[]⟩) (.string ⟨#[]⟩) (.string ⟨#[]⟩) (.bool false))
                  have HXZ := Lib.hid (show Bx ((((v62.setCell ⟨v61.heap.size, 0, none⟩ (.string ⟨#[]⟩)).setCell ⟨v61.heap.size, 1, none⟩ (.string ⟨#[]⟩)).setCell ⟨v61.heap.size, 2, none⟩ (.string ⟨#[]⟩)).setCell ⟨v61.heap.size, 3, none⟩ (.bool false)) v61.heap.size 27 #[.string ⟨#[]⟩, .string ⟨#[]⟩, .string ⟨#[]⟩, .bool false] from ((((HY62.out.set 0 (.string ⟨#[]⟩)).set 1 (.string ⟨#[]⟩)).set 2 (.string ⟨#[]⟩)).set 3 (.bool false)))
                  obtain ⟨w9, hw9⟩ : ∃ z, ((((v62.setCell ⟨v61.heap.size, 0, none⟩ (.string ⟨#[]⟩)).setCell ⟨v61.heap.size, 1, none⟩ (.string ⟨#[]⟩)).setCell ⟨v61.heap.size, 2, none⟩ (.string ⟨#[]⟩)).setCell ⟨v61.heap.size, 3, none⟩ (.bool false)) = z := ⟨_, rfl⟩
                  rw [hw9] at HZ9 HXZ ⊢
                  clear hw9
                  clear x0 x1 x2 x3 d0 d1 d2 hza hzb hzc
                  clear k0 k1 k2 k3 y0 y1 y2 y3 hkx
                  obtain ⟨⟨x0, x1, x2, x3⟩, ⟨d0, d1, d2⟩, ⟨hza, hzb, hzc⟩⟩ := HZ9.out.st.facts
                  refine hK.out _ _ (by exact ⟨x0, x1, x2, x3, d0, d1, d2⟩) (fun hHf9 => ?_)
                  clear hK K
                  try simp only [Act.put, List.setIfInBounds_toArray, List.set_cons_zero, List.set_cons_succ]
                  refine wpAnyH_take (i := 10) (v := ?_) (by simp only [List.getElem?_toArray, List.getElem?_cons_succ, List.getElem?_cons_zero]; rfl) (by kernel_rfl) (by kernel_rfl) (by kernel_rfl) (by intro _ _ _ h; exact h) (Or.inl ⟨by rfl, ?_⟩) (by assumption) ?_
                  rotate_left
                  focus (intro wT hT; (try dsimp only at hT); go_simp; try with_reducible rfl)
                  try simp only [Act.put, List.setIfInBounds_toArray, List.set_cons_zero, List.set_cons_succ]
                  refine wpAnyH_done (by kernel_rfl) ?_ _
                  go_wp2_with fail
                  go_meet
                  exact ⟨rfl, HZ9.out.st.pr.bel⟩
                · go_simp
                  have HV61 := Lib.hid (HV60.out.older ((Below.refl _ _).alloc (Nat.le_refl _) (.cells #[.string ⟨#[]⟩, .string ⟨#[]⟩, .string ⟨#[]⟩, .bool false] 27)))
                  have HY61 := Lib.hid (Bx.new v60 27 #[.string ⟨#[]⟩, .string ⟨#[]⟩, .string ⟨#[]⟩, .bool false])
                  have hR9 := HV60.out.st.pr.tb.lt; have hR8 := HV60.out.st.sb.lt; have hR7 := HV60.out.lt
                  obtain ⟨v61, hwa61⟩ : ∃ z, (v60).alloc (.cells #[.string ⟨#[]⟩, .string ⟨#[]⟩, .string ⟨#[]⟩, .bool false] 27) = z := ⟨_, rfl⟩
                  rw [hwa61] at HV61 HY61 ⊢
                  clear hwa61
                  clear x0 x1 x2 x3 d0 d1 d2 hza hzb hzc
                  obtain ⟨⟨x0, x1, x2, x3⟩, ⟨d0, d1, d2⟩, ⟨hza, hzb, hzc⟩⟩ := HV61.out.st.facts
                  have k0 := HY61.out.cell (i := 0) rfl; have k1 := HY61.out.cell (i := 1) rfl; have k2 := HY61.out.cell (i := 2) rfl; have k3 := HY61.out.cell (i := 3) rfl; have y0 := HY61.out.frz 0; have y1 := HY61.out.frz 1; have y2 := HY61.out.frz 2; have y3 := HY61.out.frz 3; have hkx := HY61.out.lt
                  refine hK.out _ _ (by exact ⟨x0, x1, x2, x3, d0, d1, d2⟩) (fun hHf61 => ?_)
                  clear hK K
                  try simp only [Act.put, List.setIfInBounds_toArray, List.set_cons_zero, List.set_cons_succ]
                  refine wpAnyH_ready (rs := [4]) (by kernel_rfl) (by simp) (AllReadyH.cons (by simp only [List.getElem?_toArray, List.getElem?_cons_succ, List.getElem?_cons_zero]; rfl) (fun K hK => ?_) AllReadyH.nil)
                  go_simp
                  go_at_call 22
                  refine (HSG2.out _ (HG.out.below HV61.out.st.pr.bel) HV61.out.sc).mono ?_
                  rintro e v62 ⟨rfl, hb62⟩
                  have HV62 := Lib.hid (HV61.out.older hb62)
                  have HY62 := Lib.hid (HY61.out.older hb62)
                  clear k0 k1 k2 k3 y0 y1 y2 y3 hkx
                  have k0 := HY62.out.cell (i := 0) rfl; have k1 := HY62.out.cell (i := 1) rfl; have k2 := HY62.out.cell (i := 2) rfl; have k3 := HY62.out.cell (i := 3) rfl; have y0 := HY62.out.frz 0; have y1 := HY62.out.frz 1; have y2 := HY62.out.frz 2; have y3 := HY62.out.frz 3; have hkx := HY62.out.lt
                  clear x0 x1 x2 x3 d0 d1 d2 hza hzb hzc
                  obtain ⟨⟨x0, x1, x2, x3⟩, ⟨d0, d1, d2⟩, ⟨hza, hzb, hzc⟩⟩ := HV62.out.st.facts
                  clear hb62
                  go_wp2_with fail
                  refine hK.out _ _ (by exact ⟨x0, x1, x2, x3, d0, d1, d2⟩) (fun hHf62 => ?_)
                  clear hK K
                  try simp only [Act.put, List.setIfInBounds_toArray, List.set_cons_zero, List.set_cons_succ]
                  refine wpAnyH_take (i := 5) (v := ?_) (by simp only [List.getElem?_toArray, List.getElem?_cons_succ, List.getElem?_cons_zero]; rfl) (by kernel_rfl) (by kernel_rfl) (by kernel_rfl) (by intro _ _ _ h; exact h) (Or.inl ⟨by rfl, ?_⟩) (by assumption) ?_
                  rotate_left
                  focus (intro wT hT; (try dsimp only at hT); go_simp; try with_reducible rfl)
                  try simp only [Act.put, List.setIfInBounds_toArray, List.set_cons_zero, List.set_cons_succ]
                  refine wpAnyH_take (i := 6) (v := ?_) (by simp only [List.getElem?_toArray, List.getElem?_cons_succ, List.getElem?_cons_zero]; rfl) (by kernel_rfl) (by kernel_rfl) (by kernel_rfl) (by intro _ _ _ h; exact h) (Or.inl ⟨by rfl, ?_⟩) (by assumption) ?_
                  rotate_left
                  focus (intro wT hT; (try dsimp only at hT); go_simp; try with_reducible rfl)
                  try simp only [Act.put, List.setIfInBounds_toArray, List.set_cons_zero, List.set_cons_succ]
                  refine wpAnyH_take (i := 7) (v := ?_) (by simp only [List.getElem?_toArray, List.getElem?_cons_succ, List.getElem?_cons_zero]; rfl) (by kernel_rfl) (by kernel_rfl) (by kernel_rfl) (by intro _ _ _ h; exact h) (Or.inl ⟨by rfl, ?_⟩) (by assumption) ?_
                  rotate_left
                  focus (intro wT hT; (try dsimp only at hT); go_simp; try with_reducible rfl)
                  try simp only [Act.put, List.setIfInBounds_toArray, List.set_cons_zero, List.set_cons_succ]
                  refine wpAnyH_ready (rs := [9]) (by kernel_rfl) (by simp) (AllReadyH.cons (by simp only [List.getElem?_toArray, List.getElem?_cons_succ, List.getElem?_cons_zero]; rfl) (fun K hK => ?_) AllReadyH.nil)
                  go_simp
                  have HZ9 := Lib.hid (HV62.out.set4 hR9 hR8 hR7 (.string ⟨#[]⟩) (.string ⟨#[]⟩) (.string ⟨#[]⟩) (.bool false))
                  have HXZ := Lib.hid (show Bx ((((v62.setCell ⟨v60.heap.size, 0, none⟩ (.string ⟨#[]⟩)).setCell ⟨v60.heap.size, 1, none⟩ (.string ⟨#[]⟩)).setCell ⟨v60.heap.size, 2, none⟩ (.string ⟨#[]⟩)).setCell ⟨v60.heap.size, 3, none⟩ (.bool false)) v60.heap.size 27 #[.string ⟨#[]⟩, .string ⟨#[]⟩, .string ⟨#[]⟩, .bool false] from ((((HY62.out.set 0 (.string ⟨#[]⟩)).set 1 (.string ⟨#[]⟩)).set 2 (.string ⟨#[]⟩)).set 3 (.bool false)))
                  obtain ⟨w9, hw9⟩ : ∃ z, ((((v62.setCell ⟨v60.heap.size, 0, none⟩ (.string ⟨#[]⟩)).setCell ⟨v60.heap.size, 1, none⟩ (.string ⟨#[]⟩)).setCell ⟨v60.heap.size, 2, none⟩ (.string ⟨#[]⟩)).setCell ⟨v60.heap.size, 3, none⟩ (.bool false)) = z := ⟨_, rfl⟩
                  rw [hw9] at HZ9 HXZ ⊢
                  clear hw9
                  clear x0 x1 x2 x3 d0 d1 d2 hza hzb hzc
                  clear k0 k1 k2 k3 y0 y1 y2 y3 hkx
                  obtain ⟨⟨x0, x1, x2, x3⟩, ⟨d0, d1, d2⟩, ⟨hza, hzb, hzc⟩⟩ := HZ9.out.st.facts
                  refine hK.out _ _ (by exact ⟨x0, x1, x2, x3, d0, d1, d2⟩) (fun hHf9 => ?_)
                  clear hK K
                  try simp only [Act.put, List.setIfInBounds_toArray, List.set_cons_zero, List.set_cons_succ]
                  refine wpAnyH_take (i := 10) (v := ?_) (by simp only [List.getElem?_toArray, List.getElem?_cons_succ, List.getElem?_cons_zero]; rfl) (by kernel_rfl) (by kernel_rfl) (by kernel_rfl) (by intro _ _ _ h; exact h) (Or.inl ⟨by rfl, ?_⟩) (by assumption) ?_
                  rotate_left
                  focus (intro wT hT; (try dsimp only at hT); go_simp; try with_reducible rfl)
                  try simp only [Act.put, List.setIfInBounds_toArray, List.set_cons_zero, List.set_cons_succ]
                  refine wpAnyH_done (by kernel_rfl) ?_ _
                  go_wp2_with fail
                  go_meet
                  exact ⟨rfl, HZ9.out.st.pr.bel⟩
              · go_simp
                have HV60 := Lib.hid (HLd.out.older ((Below.refl _ _).alloc (Nat.le_refl _) (.cells #[.string ⟨#[]⟩, .string ⟨#[]⟩, .string ⟨#[]⟩, .bool false] 27)))
                have HY60 := Lib.hid (Bx.new wd 27 #[.string ⟨#[]⟩, .string ⟨#[]⟩, .string ⟨#[]⟩, .bool false])
                have hR9 := HLd.out.st.pr.tb.lt; have hR8 := HLd.out.st.sb.lt; have hR7 := HLd.out.lt
                obtain ⟨v60, hwa60⟩ : ∃ z, (wd).alloc (.cells #[.string ⟨#[]⟩, .string ⟨#[]⟩, .string ⟨#[]⟩, .bool false] 27) = z := ⟨_, rfl⟩
                rw [hwa60] at HV60 HY60 ⊢
                clear hwa60
                clear x0 x1 x2 x3 d0 d1 d2 hza hzb hzc
                obtain ⟨⟨x0, x1, x2, x3⟩, ⟨d0, d1, d2⟩, ⟨hza, hzb, hzc⟩⟩ := HV60.out.st.facts
                have k0 := HY60.out.cell (i := 0) rfl; have k1 := HY60.out.cell (i := 1) rfl; have k2 := HY60.out.cell (i := 2) rfl; have k3 := HY60.out.cell (i := 3) rfl; have y0 := HY60.out.frz 0; have y1 := HY60.out.frz 1; have y2 := HY60.out.frz 2; have y3 := HY60.out.frz 3; have hkx := HY60.out.lt
                refine hK.out _ _ (by exact ⟨x0, x1, x2, x3, d0, d1, d2⟩) (fun hHf60 => ?_)
                clear hK K
                try simp only [Act.put, List.setIfInBounds_toArray, List.set_cons_zero, List.set_cons_succ]
                refine wpAnyH_ready (rs := [2]) (by kernel_rfl) (by simp) (AllReadyH.cons (by simp only [List.getElem?_toArray, List.getElem?_cons_succ, List.getElem?_cons_zero]; rfl) (fun K hK => ?_) AllReadyH.nil)
                go_simp
                go_at_call 33
                refine (token_any ⟨id, frm, til⟩ _).mono ?_
                rintro e v61 ⟨rfl, hb61⟩
                have HV61 := Lib.hid (HV60.out.older hb61)
                have HY61 := Lib.hid (HY60.out.older hb61)
                clear k0 k1 k2 k3 y0 y1 y2 y3 hkx
                have k0 := HY61.out.cell (i := 0) rfl; have k1 := HY61.out.cell (i := 1) rfl; have k2 := HY61.out.cell (i := 2) rfl; have k3 := HY61.out.cell (i := 3) rfl; have y0 := HY61.out.frz 0; have y1 := HY61.out.frz 1; have y2 := HY61.out.frz 2; have y3 := HY61.out.frz 3; have hkx := HY61.out.lt
                clear x0 x1 x2 x3 d0 d1 d2 hza hzb hzc
                obtain ⟨⟨x0, x1, x2, x3⟩, ⟨d0, d1, d2⟩, ⟨hza, hzb, hzc⟩⟩ := HV61.out.st.facts
                clear hb61
                go_wp2_with fail
                refine hK.out _ _ (by exact ⟨x0, x1, x2, x3, d0, d1, d2⟩) (fun hHf61 => ?_)
                clear hK K
                try simp only [Act.put, List.setIfInBounds_toArray, List.set_cons_zero, List.set_cons_succ]
                refine wpAnyH_ready (rs := [4]) (by kernel_rfl) (by simp) (AllReadyH.cons (by simp only [List.getElem?_toArray, List.getElem?_cons_succ, List.getElem?_cons_zero]; rfl) (fun K hK => ?_) AllReadyH.nil)
                go_simp
                go_at_call 22
                refine (HSG2.out _ (HG.out.below HV61.out.st.pr.bel) HV61.out.sc).mono ?_
                rintro e v62 ⟨rfl, hb62⟩
                have HV62 := Lib.hid (HV61.out.older hb62)
                have HY62 := Lib.hid (HY61.out.older hb62)
                clear k0 k1 k2 k3 y0 y1 y2 y3 hkx
                have k0 := HY62.out.cell (i := 0) rfl; have k1 := HY62.out.cell (i := 1) rfl; have k2 := HY62.out.cell (i := 2) rfl; have k3 := HY62.out.cell (i := 3) rfl; have y0 := HY62.out.frz 0; have y1 := HY62.out.frz 1; have y2 := HY62.out.frz 2; have y3 := HY62.out.frz 3; have hkx := HY62.out.lt
                clear x0 x1 x2 x3 d0 d1 d2 hza hzb hzc
                obtain ⟨⟨x0, x1, x2, x3⟩, ⟨d0, d1, d2⟩, ⟨hza, hzb, hzc⟩⟩ := HV62.out.st.facts
                clear hb62
                go_wp2_with fail
                refine hK.out _ _ (by exact ⟨x0, x1, x2, x3, d0, d1, d2⟩) (fun hHf62 => ?_)
                clear hK K
                try simp only [Act.put, List.setIfInBounds_toArray, List.set_cons_zero, List.set_cons_succ]
                refine wpAnyH_take (i := 5) (v := ?_) (by simp only [List.getElem?_toArray, List.getElem?_cons_succ, List.getElem?_cons_zero]; rfl) (by kernel_rfl) (by kernel_rfl) (by kernel_rfl) (by intro _ _ _ h; exact h) (Or.inl ⟨by rfl, ?_⟩) (by assumption) ?_
                rotate_left
                focus (intro wT hT; (try dsimp only at hT); go_simp; try with_reducible rfl)
                try simp only [Act.put, List.setIfInBounds_toArray, List.set_cons_zero, List.set_cons_succ]
                refine wpAnyH_take (i := 6) (v := ?_) (by simp only [List.getElem?_toArray, List.getElem?_cons_succ, List.getElem?_cons_zero]; rfl) (by kernel_rfl) (by kernel_rfl) (by kernel_rfl) (by intro _ _ _ h; exact h) (Or.inl ⟨by rfl, ?_⟩) (by assumption) ?_
                rotate_left
                focus (intro wT hT; (try dsimp only at hT); go_simp; try with_reducible rfl)
                try simp only [Act.put, List.setIfInBounds_toArray, List.set_cons_zero, List.set_cons_succ]
                refine wpAnyH_take (i := 7) (v := ?_) (by simp only [List.getElem?_toArray, List.getElem?_cons_succ, List.getElem?_cons_zero]; rfl) (by kernel_rfl) (by kernel_rfl) (by kernel_rfl) (by intro _ _ _ h; exact h) (Or.inl ⟨by rfl, ?_⟩) (by assumption) ?_
                rotate_left
                focus (intro wT hT; (try dsimp only at hT); go_simp; try with_reducible rfl)
                try simp only [Act.put, List.setIfInBounds_toArray, List.set_cons_zero, List.set_cons_succ]
                refine wpAnyH_ready (rs := [9]) (by kernel_rfl) (by simp) (AllReadyH.cons (by simp only [List.getElem?_toArray, List.getElem?_cons_succ, List.getElem?_cons_zero]; rfl) (fun K hK => ?_) AllReadyH.nil)
                go_simp
                have HZ9 := Lib.hid (HV62.out.set4 hR9 hR8 hR7 (.string ⟨#[]⟩) (.string ⟨#[]⟩) (.string ⟨#[]⟩) (.bool false))
                have HXZ := Lib.hid (show Bx ((((v62.setCell ⟨wd.heap.size, 0, none⟩ (.string ⟨#[]⟩)).setCell ⟨wd.heap.size, 1, none⟩ (.string ⟨#[]⟩)).setCell ⟨wd.heap.size, 2, none⟩ (.string ⟨#[]⟩)).setCell ⟨wd.heap.size, 3, none⟩ (.bool false)) wd.heap.size 27 #[.string ⟨#[]⟩, .string ⟨#[]⟩, .string ⟨#[]⟩, .bool false] from ((((HY62.out.set 0 (.string ⟨#[]⟩)).set 1 (.string ⟨#[]⟩)).set 2 (.string ⟨#[]⟩)).set 3 (.bool false)))
                obtain ⟨w9, hw9⟩ : ∃ z, ((((v62.setCell ⟨wd.heap.size, 0, none⟩ (.string ⟨#[]⟩)).setCell ⟨wd.heap.size, 1, none⟩ (.string ⟨#[]⟩)).setCell ⟨wd.heap.size, 2, none⟩ (.string ⟨#[]⟩)).setCell ⟨wd.heap.size, 3, none⟩ (.bool false)) = z := ⟨_, rfl⟩
                rw [hw9] at HZ9 HXZ ⊢
                clear hw9
                clear x0 x1 x2 x3 d0 d1 d2 hza hzb hzc
                clear k0 k1 k2 k3 y0 y1 y2 y3 hkx
                obtain ⟨⟨x0, x1, x2, x3⟩, ⟨d0, d1, d2⟩, ⟨hza, hzb, hzc⟩⟩ := HZ9.out.st.facts
                refine hK.out _ _ (by exact ⟨x0, x1, x2, x3, d0, d1, d2⟩) (fun hHf9 => ?_)
                clear hK K
                try simp only [Act.put, List.setIfInBounds_toArray, List.set_cons_zero, List.set_cons_succ]
                refine wpAnyH_take (i := 10) (v := ?_) (by simp only [List.getElem?_toArray, List.getElem?_cons_succ, List.getElem?_cons_zero]; rfl) (by kernel_rfl) (by kernel_rfl) (by kernel_rfl) (by intro _ _ _ h; exact h) (Or.inl ⟨by rfl, ?_⟩) (by assumption) ?_
                rotate_left
                focus (intro wT hT; (try dsimp only at hT); go_simp; try with_reducible rfl)
                try simp only [Act.put, List.setIfInBounds_toArray, List.set_cons_zero, List.set_cons_succ]
                refine wpAnyH_done (by kernel_rfl) ?_ _
                go_wp2_with fail
                go_meet
                exact ⟨rfl, HZ9.out.st.pr.bel⟩
            case rest =>
              obtain ⟨h19, hbx⟩ := hcut
              have h19' := h19.symm
              subst h19
              have HBX := Lib.hid hbx
              clear hbx
              go_wp2_with fail
              refine (is_err 16 _ (by decide)).mono ?_
              rintro e w' ⟨rfl, rfl⟩
              go_wp2_with fail
              refine (is_err 2 _ (by decide)).mono ?_
              rintro e w' ⟨rfl, rfl⟩
              go_wp2_with fail
              go_ret
              exact ⟨rfl, HBX.out⟩
      · have hzz : (⟨sh, sp, sq, sb⟩ : Adr) = ⟨[], [], [], false⟩ := by rw [← HSD.out]; exact if_neg hck
        injection hzz with e1 e2 e3 e4
        subst e1 e2 e3 e4
        obtain ⟨n, hn⟩ : ∃ z, checkS ⟨h, p, q, b⟩ ⟨id, frm, til⟩ = z := ⟨_, rfl⟩
        have hev2 := HEV.out
        rw [hn] at hck hev2
        have hev3 : ev = errV n := by rw [← hev2]; exact if_neg hck
        subst hev3
        clear HSD HEV HSGN hn hck hev2
        have HAB := adB_refl [] [] [] false
        obtain ⟨⟨c0, c1, c2, c3⟩, ⟨d0, d1, d2⟩, ⟨hza, hzb, hzc⟩⟩ := HST.out.facts
        go_wp2_with fail
        go_ret
        exact ⟨rfl, HST.out.pr.bel⟩
  · go_wp2_with fail
    refine (short_no ⟨h, p, q, b⟩ (some ⟨w1.heap.size, 0, none⟩) 1 [id.length] (w1.alloc (.cells #[.int .i64 (id.length : Int)] 3)) (nvals_src w1 [id.length] 1) (by simp) (fun n hn => by simp at hn; omega) (by simp only; omega) (by simp only; omega) (by simp only; omega) (by simp only [List.sum_cons, List.sum_nil, Nat.add_zero]; exact hs)).mono ?_
    rintro e w2 ⟨rfl, hb2⟩
    have HP2 := Lib.hid ((HP1.out.older ((Below.refl _ _).alloc (Nat.le_refl _) (.cells #[.int .i64 (id.length : Int)] 3))).older hb2)
    clear hb2; clear c0 c1 c2 c3 d0 d1 d2 hz
    go_wp2_with fail
    refine (awake49_any _ (HG.out.below HP2.out.bel)).mono ?_
    rintro e w3 ⟨rfl, hb3⟩
    have HB3 := Lib.hid (HP2.out.bel.trans (hb3.mono HP2.out.bel.size))
    clear hb3
    go_wp2_with fail
    go_ret
    exact ⟨rfl, HB3.out⟩

/-- What the walk gives, for every argument. -/
theorem contract (H : Type) (enc : TypeId × Value → H) (W : World) (base : Nat) (args : Array Value) (ds gs : List (DataW H)) (before : List MemPlace)
    (hval : ∀ (j : Nat) t v, Tryz.f7.params[j]? = some t → args[j]? = some v → Value.okWide Tryz.prog W .any base t v)
    (hW : DataW.Whole enc Tryz.prog Tryz.f7.params.toList Rows.signedReturnsSpec.vars false W args.toList ds gs before) (hsz : (DataW.weightsEach Tryz.prog Tryz.f7.params.toList (ds ++ gs)).all (· ≤ reachBytes) = true) (hr : Sg.SgnAt W) :
    Calls Tryz.prog 7 args W fun e W' => ∃ v, e = .returned v ∧ Rows.signedReturnsSpec.post enc Tryz.prog Tryz.f7 false true false false W args v W' := by
  have hW' := hW
  have hlt := fun p hp => hW.lt p hp
  obtain ⟨p, q, hA0, hV, rfl, hfz, hnd⟩ := hW
  have hA : DataW.TrodAll enc Tryz.prog W 0 (fun _ => true) true Tryz.f7.params.toList args.toList ds p := hA0
  have hA1 := hA
  obtain ⟨rfl, rfl⟩ := trodVars_none hV
  rw [Tryz.params7] at hA hval
  obtain ⟨v0, vs0, d0, ds0, p0, q0, hargs, rfl, rfl, h0, r0⟩ := trodAll_cons hA
  obtain ⟨v1, vs1, d1, ds1, p1, q1, rfl, rfl, rfl, h1, r1⟩ := trodAll_cons r0
  obtain ⟨v2, vs2, d2, ds2, p2, q2, rfl, rfl, rfl, h2, r2⟩ := trodAll_cons r1
  obtain ⟨rfl, rfl, rfl⟩ := trodAll_nil r2
  obtain rfl : args = #[v0, v1, v2] := by cases args; simp_all
  have fin : ∀ W', Below W.heap.size W W' → Rows.signedReturnsSpec.post enc Tryz.prog Tryz.f7 false true false false W #[v0, v1, v2] (.bool true) W' := fun W' hb => by
    simp only [List.append_nil] at hA1 hW' hlt
    exact ⟨_, _, _, [], _, [], hW', trodAll_cons_mk (shut_bool Tryz.underlying4 _) trodAll_mk0, Fr.trodAll_below (by kernel_rfl) _ (by kernel_rfl) hA1 hb hlt, rfl, hb.frame _, fun h => by cases h⟩
  clear hW' hA0 hA1 hlt
  rw [Tryz.params7, List.append_nil] at hsz
  obtain ⟨c0, c1, c2, c3, y0, y1, y2, y3, m, rfl, rfl, rfl, hy0, hy1, hy2, hy3⟩ := Go.Joins.open_agg4 Tryz.underlying62 (by kernel_rfl) (show Tryz.prog.cellsOf 62 = 4 by kernel_rfl) (hval 0 62 v0 rfl rfl) h0
  obtain ⟨s0_0, e0, rfl, hs0_0⟩ := DataW.trod_string Tryz.underlying9 hy0
  obtain ⟨s0_1, e1, rfl, hs0_1⟩ := DataW.trod_string Tryz.underlying9 hy1
  obtain ⟨s0_2, e2, rfl, hs0_2⟩ := DataW.trod_string Tryz.underlying9 hy2
  obtain ⟨b0, e3, rfl⟩ := DataW.trod_bool Tryz.underlying4 hy3
  simp only [List.cons.injEq, and_true] at e0 e1 e2 e3
  subst e0 e1 e2 e3
  obtain ⟨⟨l0_0⟩⟩ := s0_0
  obtain ⟨⟨l0_1⟩⟩ := s0_1
  obtain ⟨⟨l0_2⟩⟩ := s0_2
  have z0 : l0_0.length ≤ 140737488351232 ∧ l0_1.length ≤ 140737488351232 ∧ l0_2.length ≤ 140737488351232 := Fr.sized_adr hsz (j := 0) rfl rfl Tryz.underlying62
  obtain ⟨c0, c1, c2, y0, y1, y2, m, rfl, rfl, rfl, hy0, hy1, hy2⟩ := Go.Joins.open_agg3 Tryz.underlying63 (by kernel_rfl) (show Tryz.prog.cellsOf 63 = 3 by kernel_rfl) (hval 1 63 v1 rfl rfl) h1
  obtain ⟨s1, e0, rfl, _⟩ := DataW.trod_string Tryz.underlying9 hy0
  obtain ⟨f1, e1, rfl, _⟩ := DataW.trod_int Tryz.underlying3 hy1
  obtain ⟨g1, e2, rfl, _⟩ := DataW.trod_int Tryz.underlying3 hy2
  simp only [List.cons.injEq, and_true] at e0 e1 e2
  subst e0 e1 e2
  obtain ⟨⟨l1⟩⟩ := s1
  have zt1 : l1.length ≤ 140737488351232 := Sg.sized_tok hsz (j := 1) rfl rfl Tryz.underlying63
  obtain ⟨n2, rfl, rfl, rfl, wf2⟩ := open_int Tryz.underlying3 (hval 2 3 v2 rfl rfl) h2
  refine (walk l0_0 l0_1 l0_2 b0 l1 f1 g1 n2 W hr z0.1 z0.2.1 z0.2.2 zt1).mono fun e W' ⟨he, hb⟩ => ?_
  subst he
  exact ⟨_, rfl, fin W' hb⟩

theorem laid_met (os : Os) : laidMet Tryz.prog Rows.signedReturnsRow.laid ((Fr.laidE Rows.signedReturnsRow.laid os).forCall (fun _ _ => 0) ⟨#[], #[.agg #[.string ⟨#[]⟩, .string ⟨#[]⟩, .string ⟨#[]⟩, .bool false], .agg #[.string ⟨#[]⟩, .int .i64 0, .int .i64 0], .int .i64 0], []⟩).memory :=
  laidMet_of_run' 8 (by kernel_rfl) (by kernel_rfl)
theorem reads (os : Os) {H : Type} (enc : TypeId × Value → H) : ∃ places, DataW.whole enc Tryz.prog ((Fr.laidE Rows.signedReturnsRow.laid os).forCall (fun _ _ => 0) ⟨#[], #[.agg #[.string ⟨#[]⟩, .string ⟨#[]⟩, .string ⟨#[]⟩, .bool false], .agg #[.string ⟨#[]⟩, .int .i64 0, .int .i64 0], .int .i64 0], []⟩).memory Tryz.f7.params.toList Rows.signedReturnsSpec.vars false (#[.agg #[.string ⟨#[]⟩, .string ⟨#[]⟩, .string ⟨#[]⟩, .bool false], .agg #[.string ⟨#[]⟩, .int .i64 0, .int .i64 0], .int .i64 0] : Array Value).toList 8 = some ([.agg [.lit (.string []), .lit (.string []), .lit (.string []), .lit (.bool false)], .agg [.lit (.string []), .lit (.int .i64 0), .lit (.int .i64 0)], .lit (.int .i64 0)], [], places) :=
  ⟨[], by kernel_rfl⟩

theorem lifted (os : Os) (started : os.Started) (H : Type) (enc : TypeId × Value → H) (F : Stop.Interp) :
    ReturnsInHanded {} Tryz.checked os 7 .any ((OpenSpec.ofChange Rows.signedReturnsSpec).preRow enc Tryz.prog Tryz.f7 Rows.signedReturnsRow.domain false Rows.signedReturnsRow.laid) (((OpenSpec.ofChange Rows.signedReturnsSpec).at F).post enc Tryz.prog Tryz.f7 false true false false) := by
  obtain ⟨places, hx⟩ := reads os enc
  refine returnsInHanded_of_row (C := Tryz.checked) (s := OpenSpec.ofChange Rows.signedReturnsSpec) Fr.own started (by kernel_rfl) Tryz.func7
    (witness_row_at (enc := enc) (C := Tryz.checked) false (Fr.laidE Rows.signedReturnsRow.laid os) #[.agg #[.string ⟨#[]⟩, .string ⟨#[]⟩, .string ⟨#[]⟩, .bool false], .agg #[.string ⟨#[]⟩, .int .i64 0, .int .i64 0], .int .i64 0] rfl (by kernel_rfl) (by kernel_rfl) (by kernel_rfl)
      (OpenSpec.preRow_of_cond 8 hx (by kernel_rfl) (fun k hk => by cases hk) (by kernel_rfl) (laid_met os))) ?_
  intro W base args ds gs before hval hW _ hcond hsz hlaid hsh _
  exact contract H enc W base args ds gs before hval hW (by have h9 : (DataW.weightsEach Tryz.prog (Tryz.f7.params.toList ++ []) (ds ++ gs)).all (· ≤ reachBytes) = true := hsz; rw [List.append_nil] at h9; exact h9) (Fr.sgn_laid hsh hlaid (by kernel_rfl) (by repeat first | exact List.mem_cons_self .. | apply List.mem_cons_of_mem) (by repeat first | exact List.mem_cons_self .. | apply List.mem_cons_of_mem) (by repeat first | exact List.mem_cons_self .. | apply List.mem_cons_of_mem) (by repeat first | exact List.mem_cons_self .. | apply List.mem_cons_of_mem))

theorem k_0 : Rows.signedReturnsRow.wf (OpenSpec.ofChange (OpenSpec.ofChange Rows.signedReturnsSpec).bare) = true := by kernel_rfl
theorem k_1 : laidOutB Tryz.prog = true := Fr.sf_laidOut
theorem k_2 : mapsRowed Tryz.prog = true := Fr.sf_mapsRowed
theorem k_3 : Tryz.f7.params.all (Tryz.prog.readableRec ·) = true := by kernel_rfl
theorem k_4 : namedTie Tryz.prog Rows.signedReturnsRow.named (OpenSpec.ofChange Rows.signedReturnsSpec).bare.vars = true := by kernel_rfl
theorem k_5 : (Rows.signedReturnsRow.stops == []) = true := by kernel_rfl
theorem k_6 : (Tryz.prog.stops == []) = true := Fr.sf_stops
theorem k_7 : (Rows.signedReturnsRow.knobs == []) = true := by kernel_rfl
theorem k_8 : (Tryz.prog.stopKnobs == []) = true := Fr.sf_stopKnobs
theorem k_9 : (Rows.signedReturnsRow.inPlace == Tryz.prog.inPlace 7) = true := by kernel_rfl
theorem k_10 : (Rows.signedReturnsRow.unfollowed == Tryz.prog.unfollowed 7) = true := by kernel_rfl
theorem k_11 : (Rows.signedReturnsRow.recurses == Tryz.prog.recurses 7) = true := by kernel_rfl
theorem k_12 : (Rows.signedReturnsRow.named == Tryz.prog.varsNamed 7) = true := by kernel_rfl
theorem k_13 : (Rows.signedReturnsRow.maps == (Tryz.f7.params.toList ++ (OpenSpec.ofChange Rows.signedReturnsSpec).bare.plain.varTypes Tryz.prog).any (Tryz.prog.mapsRec ·)) = true := by kernel_rfl
theorem k_14 : (Rows.signedReturnsRow.ifaces == (Tryz.f7.params.toList ++ (OpenSpec.ofChange Rows.signedReturnsSpec).bare.plain.varTypes Tryz.prog).any (Tryz.prog.ifacesRec ·)) = true := by kernel_rfl
theorem k_15 : (Rows.signedReturnsRow.mapsOut == Tryz.prog.mapsAmong Tryz.f7.resultTypes.toList) = true := by kernel_rfl
theorem k_16 : (Rows.signedReturnsRow.loops == (Tryz.f7.params.toList ++ (OpenSpec.ofChange Rows.signedReturnsSpec).bare.plain.varTypes Tryz.prog).any (Tryz.prog.loopsFrom ·)) = true := by kernel_rfl
theorem k_17 : (Rows.signedReturnsRow.wideKeys == (Tryz.f7.params.toList ++ (OpenSpec.ofChange Rows.signedReturnsSpec).bare.plain.varTypes Tryz.prog ++ Tryz.f7.resultTypes.toList).any (Tryz.prog.wideKeysFrom ·)) = true := by kernel_rfl
theorem k_18 : (OpenSpec.ofChange Rows.signedReturnsSpec).bare.vars.all (Tryz.prog.varReadable ·) = true := by kernel_rfl
theorem k_19 : Tryz.f7.resultTypes.all (fun t => Tryz.prog.readableRec t && decide (t < Tryz.prog.types.size)) = true := by kernel_rfl
theorem k_20 : (Rows.signedReturnsRow.ifacesOut == Tryz.f7.resultTypes.toList.any (Tryz.prog.ifacesRec ·)) = true := by kernel_rfl
theorem k_21 : (Rows.signedReturnsRow.loopsOut == Tryz.f7.resultTypes.toList.any (Tryz.prog.loopsFrom ·)) = true := by kernel_rfl
theorem k_22 : (Rows.signedReturnsRow.plainKeys == Tryz.prog.plainKeys) = true := Fr.sf_plainKeys
theorem k_23 : Rows.signedReturnsRow.shortTexts.isNone = true := by kernel_rfl
theorem k_24 : Tryz.prog.stopsHeard = true := Fr.sf_heard
theorem k_25 : Tryz.prog.mayEnter = true := Fr.sf_mayEnter
theorem k_26 : (Rows.signedReturnsRow.lifted == Tryz.prog.liftsFinal) = true := Fr.sf_lifted
theorem k_27 : (Tryz.prog.make == some Rows.signedReturnsRow.make) = true := Fr.sf_make
theorem k_28 : (Rows.signedReturnsRow.kinds == (if Rows.signedReturnsRow.domain.isEmpty then [] else Tryz.f7.params.toList.map fun t => match Tryz.prog.underlying t with | some (.int k) => some k | _ => none)) = true := by kernel_rfl
theorem k_29 : (Rows.signedReturnsRow.pinned == Rows.signedReturnsRow.pinnedBy) = true := by kernel_rfl
theorem k_30 : (Rows.signedReturnsRow.veiled == (Tryz.f7.params.toList ++ (OpenSpec.ofChange Rows.signedReturnsSpec).bare.plain.varTypes Tryz.prog ++ Tryz.f7.resultTypes.toList).any (Tryz.prog.veiledRec ·)) = true := by kernel_rfl
theorem k_31 : Rows.signedReturnsRow.veiledFits Tryz.prog Tryz.f7.params.toList (Tryz.f7.params.toList ++ (OpenSpec.ofChange Rows.signedReturnsSpec).bare.plain.varTypes Tryz.prog ++ Tryz.f7.resultTypes.toList) = true := by kernel_rfl
theorem closed : joinedFacts Tryz.prog 7 Tryz.f7 (OpenSpec.ofChange Rows.signedReturnsSpec).bare Rows.signedReturnsRow = true := Op.andT (Op.andT (Op.andT (Op.andT (Op.andT (Op.andT (Op.andT (Op.andT (Op.andT (Op.andT (Op.andT (Op.andT (Op.andT (Op.andT (Op.andT (Op.andT (Op.andT (Op.andT (Op.andT (Op.andT (Op.andT (Op.andT (Op.andT (Op.andT (Op.andT (Op.andT (Op.andT (Op.andT (Op.andT (Op.andT (Op.andT (k_0) k_1) k_2) k_3) k_4) k_5) k_6) k_7) k_8) k_9) k_10) k_11) k_12) k_13) k_14) k_15) k_16) k_17) k_18) k_19) k_20) k_21) k_22) k_23) k_24) k_25) k_26) k_27) k_28) k_29) k_30) k_31

theorem said : Rows.SignedReturnsSaid :=
  OpenClaim.holds_of_cond 7 Tryz.f7 rfl rfl rfl rfl rfl rfl rfl ⟨rfl, rfl, rfl, rfl, rfl⟩ rfl rfl rfl rfl rfl (by kernel_rfl) Tryz.func7 closed
    (of_decide_eq_true (by kernel_rfl)) (by unfold Func.isWrapper; first | (rw [if_pos (by decide +kernel)]; kernel_rfl) | (rw [if_neg (by decide +kernel)]; exact ⟨rfl, rfl⟩))
    (fun os started H enc _ F => by rw [OpenClaim.pre_eq_preRow]; exact lifted os started H enc F)

theorem plain (b : Bool) (hb : b = Tryz.pinned.checked.prog.looks []) (f : FuncId) (fn : Func) (hf : Tryz.pinned.checked.prog.funcNamed "quayside/quaysidelaw49.SignedReturns" = some f) (hfn : Tryz.pinned.checked.prog.funcs[f]? = some fn) :
    b = Tryz.pinned.checked.prog.looks [] ∧ ∀ (j : Nat) t, fn.params[j]? = some t → Tryz.pinned.checked.prog.wantsStandIn t = false := by
  obtain rfl : f = 7 := Option.some.inj ((show Tryz.prog.funcNamed "quayside/quaysidelaw49.SignedReturns" = some 7 by kernel_rfl).symm.trans hf) |>.symm
  obtain rfl : fn = Tryz.f7 := (Option.some.inj (Tryz.func7.symm.trans hfn)).symm
  refine ⟨hb, fun j t ht => ?_⟩
  rw [Tryz.params7] at ht
  have hm : t ∈ [62, 63, 3] := by simpa using Array.mem_of_getElem? ht
  have hall : ([62, 63, 3].all fun u => !Tryz.prog.wantsStandIn u) = true := by kernel_rfl
  exact (show Tryz.prog.wantsStandIn t = false by simpa using List.all_eq_true.1 hall t hm)

theorem proved : Rows.SignedReturnsCardSaid :=
  Claim7.holds_tied_plain_at .later [] _ _ _ _ said (fun _ h => by cases h) (by kernel_rfl) (fun _ h => by cases h) signedReturns_row_tie rfl ⟨rfl, rfl⟩ (by kernel_rfl) rfl (plain _ (by kernel_rfl)) (by kernel_rfl)
#print axioms proved
end Go.Proofs.YtpmhkkjecapbeaaGreatDoor.lawSignedReturns
