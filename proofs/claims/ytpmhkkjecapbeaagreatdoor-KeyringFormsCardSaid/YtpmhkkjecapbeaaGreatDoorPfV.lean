/- Contracts and plain facts that the statement's proof leans on (texts joined). No condition beyond those that each names. -/
import Derived.Test.YtpmhkkjecapbeaaGreatDoorPfK
import Derived.Test.YtpmhkkjecapbeaaGreatDoorPfL
import Derived.Test.YtpmhkkjecapbeaaGreatDoorPfS
import Derived.Test.YtpmhkkjecapbeaaGreatDoorPfT
import Derived.Test.YtpmhkkjecapbeaaGreatDoorPfU
section
namespace Go.Proofs.YtpmhkkjecapbeaaGreatDoor
open Go.RowKit Pl Ad
set_option maxRecDepth 100000
set_option maxHeartbeats 4000000
set_option linter.unusedVariables false
set_option linter.unusedSimpArgs false
namespace Dg
open Kr
/-- The first k bytes of a padded key, changed. -/
def padI (P : Bs) (x : UInt8) (k : Nat) : Bs := (P.map (· ^^^ x)).take k
/-- The two pads while they are made. -/
structure TwoP (w0 w : World) (a b : Value) (P : Bs) (k : Nat) : Prop where
  bel : Below w0.heap.size w0 w
  oa : OwnWin w w0.heap.size 5 1 a k (bvals (padI P 54 k))
  ob : OwnWin w w0.heap.size 5 1 b k (bvals (padI P 92 k))
  sep : ∀ q, a.ownBlock = some q → ¬ b.ownBlock = some q
theorem TwoP.older {w0 w w' : World} {a b : Value} {P : Bs} {k : Nat} (h : TwoP w0 w a b P k) (hb : Below w.heap.size w w') : TwoP w0 w' a b P k :=
  ⟨h.bel.trans (hb.mono h.bel.size), h.oa.older hb, h.ob.older hb, h.sep⟩
end Dg
end Go.Proofs.YtpmhkkjecapbeaaGreatDoor
end

section
namespace Go.Proofs.YtpmhkkjecapbeaaGreatDoor
open Go.RowKit Pl Ad Go.Shelf
attribute [local go_sem] ba_get ba_append ba_extract_end ba_extract_zero ba_extract conv_one A1.conv_bytes
set_option maxRecDepth 100000
set_option maxHeartbeats 4000000
set_option linter.unusedVariables false
set_option linter.unusedSimpArgs false
namespace Sg
open Kr A1 Dg
theorem bytesSrc {w : World} {g c : Nat} {l : Bs} (h : A1.BytesAt w g l) : SrcAt w (.slice (some ⟨g, 0, none⟩) l.length c) l.length (bvals l) := by
  refine .inr ⟨_, _, rfl, fun j x hx => ?_⟩
  obtain ⟨hj, hx⟩ := List.getElem?_eq_some_iff.1 hx
  rw [bvals_len] at hj
  have h9 := h.cell j hj
  rw [Addr.add_lit, Nat.zero_add, h9, ← hx]
  simp [bvals]
theorem srcTake {w : World} {g o n m c : Nat} {l : Bs} (h : SrcAt w (.slice (some ⟨g, o, none⟩) n c) n (bvals l)) : SrcAt w (.slice (some ⟨g, o, none⟩) m c) m (bvals (l.take m)) := by
  rcases h with ⟨h, _⟩ | ⟨ad, c', h1, h2⟩
  · cases h
  · cases h1
    refine .inr ⟨_, _, rfl, fun j x hx => h2 j x ?_⟩
    unfold bvals at hx ⊢
    rw [List.map_take, List.getElem?_take] at hx
    split at hx
    · exact hx
    · cases hx
theorem own32 {w : World} {B e uc : Nat} {ua : Option Addr} {xs : List Value} (h : OwnWin w B e 1 (.slice ua 32 uc) 32 xs) : ∃ g o, ua = some ⟨g, o, none⟩ ∧ 32 ≤ uc := by
  obtain ⟨g, o, c, e', hnc, _⟩ := h.cells (by decide)
  have h5 := Value.slice.inj e'
  exact ⟨g, o, h5.1, by rw [h5.2.2]; exact hnc⟩
theorem valid_len {a : Adr} (h : valid a = true) : a.text.length ≤ 1024 := ((valid_iff a).1 h).2.2.2.2.2
theorem text_parts (a : Adr) : a.host.length + a.path.length ≤ a.text.length ∧ (a.has = true → a.query.length + 1 + a.host.length + a.path.length = a.text.length) := by
  obtain ⟨h, p, q, b⟩ := a
  cases b <;> simp [Adr.text, adText] <;> omega
theorem signature_any (a : Adr) (sa : Option Addr) (sc : Nat) (sec : Bs) (w : World) (hg : SgnAt w) (hs : SrcAt w (.slice sa sec.length sc) sec.length (bvals sec)) (hv : valid a = true) (hsl : sec.length ≤ 134217728) :
    Calls Tryz.prog 62 #[adV a, .slice sa sec.length sc] w fun e w' => e = .returned (.tuple #[.string ⟨(sigM mixM sec a.text).toArray⟩, .nilIface]) ∧ Below w.heap.size w w' := by
  have hvl := valid_len hv
  obtain ⟨hp1, hp2⟩ := text_parts a
  have hqn := valid_has hv
  have hq : a.query.length ≤ 1024 := by
    cases hb : a.has
    · rw [hqn hb]; simp
    · have := hp2 hb; omega
  have HFMT : Hid (∀ wz, SgnAt wz → Calls Tryz.prog 25 #[adV a] wz fun e w' => e = .returned (.tuple #[.string ⟨a.text.toArray⟩, .nilIface]) ∧ Below wz.heap.size wz w') := Lib.hid (fun wz hz => format_yes a wz hz.rdy (by omega) (by omega) (by omega) hv)
  obtain ⟨tx, htx⟩ : ∃ x, a.text = x := ⟨_, rfl⟩
  rw [htx] at HFMT hvl
  have HG := Lib.hid hg
  have HS := Lib.hid hs
  obtain ⟨hm, hhm⟩ : ∃ x, hmacM mixM sec tx = x := ⟨_, rfl⟩
  have HSIG := Lib.hid (show hexL (hm.take 16) = sigM mixM sec tx by rw [← hhm]; rfl)
  have HL16 := Lib.hid (show (hm.take 16).length = 16 by rw [List.length_take, ← hhm, hmacM_len]; rfl)
  have HMAC : Hid (∀ (ta : Option Addr) (tc : Nat) (wz : World), SrcAt wz (.slice sa sec.length sc) sec.length (bvals sec) → SrcAt wz (.slice ta tx.length tc) tx.length (bvals tx) → SgnAt wz → Calls Tryz.prog 28 #[.slice sa sec.length sc, .slice ta tx.length tc] wz fun e w' => ∃ ua uc, e = .returned (.slice ua 32 uc) ∧ OwnWin w' wz.heap.size 5 1 (.slice ua 32 uc) 32 (bvals hm) ∧ Below wz.heap.size wz w') := Lib.hid (fun ta tc wz h1 h2 h3 => by rw [← hhm]; exact hmac_any sa sc sec ta tc tx wz h1 h2 h3.con (by omega) (by omega))
  obtain ⟨h, p, q, b⟩ := a
  have HB0 := Lib.hid ((Below.refl w.heap.size w).alloc (Nat.le_refl _) (.cells #[.string ⟨h.toArray⟩, .string ⟨p.toArray⟩, .string ⟨q.toArray⟩, .bool b] 27))
  clear hg hs hhm hv hqn hq hp1 hp2
  rw [htx]
  clear htx
  go_enter Tryz.func62, Tryz.ntmps62
  go_wp2_with (first
    | (go_at_call 25; refine (HFMT.out _ (HG.out.below HB0.out)).mono ?_; rintro e w1 ⟨rfl, hb1⟩; have HB1 := Lib.hid (HB0.out.trans (hb1.mono HB0.out.size)); have HBW := Lib.hid (HB1.out.trans ((A1.bworld_below w1 tx).mono HB1.out.size)); have HTX := Lib.hid (bytesSrc (c := A1.bcap w1 tx) (A1.bytesAt_new w1 tx)); clear hb1)
    | (go_at_call 28; refine (HMAC.out _ _ _ (HS.out.older HBW.out) HTX.out (HG.out.below HBW.out)).mono ?_; rintro e w3 ⟨ua, uc, rfl, hu3, hb3⟩; have HB3 := Lib.hid (HBW.out.trans (hb3.mono HBW.out.size)); obtain ⟨g, o, rfl, hnc⟩ := own32 hu3; have HX3 := Lib.hid (show SrcAt w3 (.slice (some ⟨g, o, none⟩) (hm.take 16).length uc) (hm.take 16).length (bvals (hm.take 16)) by rw [HL16.out]; exact srcTake (SrcAt.of hu3)); have h16 : (16 : Int) ≤ (uc : Int) := (by omega); have h16n : 16 ≤ uc := (by omega); have HEX := Lib.hid (hex_any (some ⟨g, o, none⟩) uc (hm.take 16) w3 HX3.out (by have := HL16.out; omega)); clear hu3 hb3)
    | (go_at_call 29; have h9 := HEX.out; rw [HL16.out, HSIG.out] at h9; refine h9.mono ?_; rintro e w4 ⟨rfl, hb4⟩; have HB4 := Lib.hid (HB3.out.trans (hb4.mono HB3.out.size)); clear hb4 h9))
  go_ret2
  exact ⟨rfl, HB4.out⟩
end Sg
end Go.Proofs.YtpmhkkjecapbeaaGreatDoor
end

