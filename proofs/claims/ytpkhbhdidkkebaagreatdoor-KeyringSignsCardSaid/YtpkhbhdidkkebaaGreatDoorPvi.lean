/- Contracts and plain facts that the statement's proof leans on (texts joined). No condition beyond those that each names. -/
import Derived.StillTailTactics
import Derived.Test.YtpkhbhdidkkebaaGreatDoorPvf
section
namespace Go.Proofs.YtpkhbhdidkkebaaGreatDoor
open Go.RowKit Pl Ad Go.Shelf
attribute [local go_sem] ba_get ba_append ba_extract_end ba_extract_zero ba_extract conv_one
set_option maxRecDepth 100000
set_option maxHeartbeats 4000000
set_option linter.unusedVariables false
set_option linter.unusedSimpArgs false
namespace Sg
open Kr A1 Dg
/-- What the reference's Read answers. -/
def rrV : Option SigM → Value
  | none => .tuple #[adZ, tkZ, .string ⟨#[]⟩, .bool false]
  | some r => .tuple #[adV r.rest, tkV r.tok, .string ⟨r.sig.toArray⟩, .bool true]
/-- The zero address beside the parts. -/
structure RqS (w0 w : World) (a : Adr) (bb : Nat) (xs : List Bs) : Prop where
 rd : RdS 63 64 w0 w a bb xs
 nb : Bx w (w0.heap.size + 3) 63 (#[.string ⟨#[]⟩, .string ⟨#[]⟩, .string ⟨#[]⟩, .bool false])
 l3 : w0.heap.size + 3 < bb
theorem RqS.older {w0 w w' : World} {a : Adr} {bb : Nat} {xs : List Bs} (h : RqS w0 w a bb xs) (hb : Below w.heap.size w w') : RqS w0 w' a bb xs :=
 ⟨h.rd.older hb, h.nb.older hb, h.l3⟩
theorem RqS.facts {w0 w : World} {a : Adr} {bb : Nat} {xs : List Bs} (h : RqS w0 w a bb xs) :
 (w.cell? ⟨w0.heap.size + 3, 0, none⟩ = some (.string ⟨#[]⟩) ∧ w.cell? ⟨w0.heap.size + 3, 1, none⟩ = some (.string ⟨#[]⟩) ∧ w.cell? ⟨w0.heap.size + 3, 2, none⟩ = some (.string ⟨#[]⟩) ∧ w.cell? ⟨w0.heap.size + 3, 3, none⟩ = some (.bool false)) ∧ w0.heap.size + 3 < w.heap.size :=
 ⟨⟨h.nb.cell (i := 0) rfl, h.nb.cell (i := 1) rfl, h.nb.cell (i := 2) rfl, h.nb.cell (i := 3) rfl⟩, h.nb.lt⟩
/-- Beside them the address that is read. -/
structure RxS (w0 w : World) (a : Adr) (bb : Nat) (xs : List Bs) (S : Nat) (r : Adr) : Prop where
 rq : RqS w0 w a bb xs
 sb : Bx w S 63 #[.string ⟨r.host.toArray⟩, .string ⟨r.path.toArray⟩, .string ⟨r.query.toArray⟩, .bool r.has]
 ls : bb < S
theorem RxS.older {w0 w w' : World} {a : Adr} {bb : Nat} {xs : List Bs} {S : Nat} {r : Adr} (h : RxS w0 w a bb xs S r) (hb : Below w.heap.size w w') : RxS w0 w' a bb xs S r :=
 ⟨h.rq.older hb, h.sb.older hb, h.ls⟩
theorem RxS.set {w0 w : World} {a : Adr} {bb : Nat} {xs : List Bs} {S : Nat} {r : Adr} (h : RxS w0 w a bb xs S r) {i : Nat} {u : Value} {r' : Adr} (hc : (#[.string ⟨r.host.toArray⟩, .string ⟨r.path.toArray⟩, .string ⟨r.query.toArray⟩, .bool r.has] : Array Value).setIfInBounds i u = #[.string ⟨r'.host.toArray⟩, .string ⟨r'.path.toArray⟩, .string ⟨r'.query.toArray⟩, .bool r'.has]) : RxS w0 (w.setCell ⟨S, i, none⟩ u) a bb xs S r' :=
 have l1 := h.ls
 have l2 := h.rq.l3
 ⟨⟨h.rq.rd.set h.ls i u, h.rq.nb.touch (touch_set1 _ _ _ _) (fun (e : w0.heap.size + 3 = S) => by omega), h.rq.l3⟩, hc ▸ h.sb.set i u, h.ls⟩
theorem rxS_new {w0 w : World} {a : Adr} {bb : Nat} {xs : List Bs} (h : RqS w0 w a bb xs) (hh pp qq : Bs) (b : Bool) : RxS w0 (w.alloc (.cells #[.string ⟨hh.toArray⟩, .string ⟨pp.toArray⟩, .string ⟨qq.toArray⟩, .bool b] 63)) a bb xs w.heap.size ⟨hh, pp, qq, b⟩ :=
 ⟨h.older ((Below.refl _ _).alloc (Nat.le_refl _) _), Bx.new _ _ _, h.rd.bl⟩
theorem RxS.facts {w0 w : World} {a : Adr} {bb : Nat} {xs : List Bs} {S : Nat} {r : Adr} (h : RxS w0 w a bb xs S r) :
 (w.cell? ⟨S, 0, none⟩ = some (.string ⟨r.host.toArray⟩) ∧ w.cell? ⟨S, 1, none⟩ = some (.string ⟨r.path.toArray⟩) ∧ w.cell? ⟨S, 2, none⟩ = some (.string ⟨r.query.toArray⟩) ∧ w.cell? ⟨S, 3, none⟩ = some (.bool r.has)) ∧ (w.frozen? ⟨S, 2, none⟩ = false ∧ w.frozen? ⟨S, 3, none⟩ = false) ∧ S < w.heap.size :=
 ⟨⟨h.sb.cell (i := 0) rfl, h.sb.cell (i := 1) rfl, h.sb.cell (i := 2) rfl, h.sb.cell (i := 3) rfl⟩, ⟨h.sb.frz 2, h.sb.frz 3⟩, h.sb.lt⟩
theorem join_snoc {u : List Bs} {x sep : Bs} (h : u ≠ []) : Lib.join (u ++ [x]) sep = Lib.join u sep ++ (sep ++ x) := by
 cases u with
 | nil => exact absurd rfl h
 | cons y r => rw [List.cons_append, Lib.join_cons, Lib.join_cons, joinTail_app, joinTail_cons]; simp [Lib.joinTail]
theorem join_next {l : List Bs} {k : Nat} (hk : k < l.length) (h0 : 0 < k) : Lib.join (l.take (k + 1)) [38] = Lib.join (l.take k) [38] ++ ([38] ++ l[k]) := by
 rw [take_snoc hk, join_snoc]
 intro e
 have := congrArg List.length e
 rw [List.length_take, List.length_nil] at this
 omega
theorem join_upto {q : Bs} {l m : List Bs} (h : splitOn 38 q = l ++ m) (k : Nat) : (Lib.join (l.take k) [38]).length ≤ q.length := by
 refine rest_len (m := l.drop k ++ m) ?_
 rw [h, ← List.append_assoc, List.take_append_drop]
theorem rread_any (a : Adr) (w : World) (h1 : a.host.length ≤ 33554432) (h2 : a.path.length ≤ 33554432) (h3 : a.query.length ≤ 33554432) :
 Calls Tryz.prog 73 #[adV a] w fun e w' => e = .returned (rrV (readS a)) ∧ Below w.heap.size w w' := by
 obtain ⟨h, p, q, b⟩ := a
 simp only at h1 h2 h3
 have HN0 := Lib.hid (r3S_new 63 64 w h p q b)
 have HN1 := Lib.hid (HN0.out.older ((Below.refl _ _).alloc (Nat.le_refl _) (.cells (#[.string ⟨#[]⟩, .string ⟨#[]⟩, .string ⟨#[]⟩, .bool false]) 63)))
 have HN2 := Lib.hid (show Bx ((((w.alloc (.cells #[.string ⟨h.toArray⟩, .string ⟨p.toArray⟩, .string ⟨q.toArray⟩, .bool b] 63)).alloc (.cells (#[.string ⟨#[]⟩, .string ⟨#[]⟩, .string ⟨#[]⟩, .bool false]) 63)).alloc (.cells (#[.string ⟨#[]⟩, .int .i64 0, .int .i64 0]) 64)).alloc (.cells (#[.string ⟨#[]⟩, .string ⟨#[]⟩, .string ⟨#[]⟩, .bool false]) 63)) (w.heap.size + 3) 63 (#[.string ⟨#[]⟩, .string ⟨#[]⟩, .string ⟨#[]⟩, .bool false]) by have h9 := Bx.new (((w.alloc (.cells #[.string ⟨h.toArray⟩, .string ⟨p.toArray⟩, .string ⟨q.toArray⟩, .bool b] 63)).alloc (.cells (#[.string ⟨#[]⟩, .string ⟨#[]⟩, .string ⟨#[]⟩, .bool false]) 63)).alloc (.cells (#[.string ⟨#[]⟩, .int .i64 0, .int .i64 0]) 64)) 63 (#[.string ⟨#[]⟩, .string ⟨#[]⟩, .string ⟨#[]⟩, .bool false]); rw [show (((w.alloc (.cells #[.string ⟨h.toArray⟩, .string ⟨p.toArray⟩, .string ⟨q.toArray⟩, .bool b] 63)).alloc (.cells (#[.string ⟨#[]⟩, .string ⟨#[]⟩, .string ⟨#[]⟩, .bool false]) 63)).alloc (.cells (#[.string ⟨#[]⟩, .int .i64 0, .int .i64 0]) 64)).heap.size = w.heap.size + 3 by simp] at h9; exact h9)
 have HLN := Lib.hid (splitOn_count 38 q)
 have HPL : Hid (∀ x ∈ splitOn 38 q, x.length ≤ q.length) := Lib.hid (fun x hx => part_len hx)
 have hcut := fun wz => refCut_any q 38 wz (by omega)
 have HCUT := Lib.hid hcut
 clear hcut
 go_enter Tryz.func73, Tryz.ntmps73
 go_wp2_with fail
 refine (HCUT.out _).mono ?_
 rintro e w1 ⟨bb, c, rfl, hcap, hwb, hbw, hcells, hb1⟩
 generalize hxs : splitOn 38 q = xs at hcells hcap HPL
 have hln : xs.length ≤ q.length + 1 := by rw [← hxs]; exact HLN.out
 have HS1 := Lib.hid (show RqS w w1 ⟨h, p, q, b⟩ bb xs from ⟨⟨HN1.out.older hb1, by have h9 := HN2.out.lt; omega, hbw, hcells⟩, HN2.out.older hb1, by have h9 := HN2.out.lt; omega⟩)
 have HXS := Lib.hid hxs
 clear hb1 hxs hcells hwb hbw HCUT
 cases hv : valid ⟨h, p, q, b⟩ with
 | false =>
   have HR := Lib.hid (read_invalid hv)
   have HVAL : Hid (∀ wz, Calls Tryz.prog 67 #[.agg #[.string ⟨h.toArray⟩, .string ⟨p.toArray⟩, .string ⟨q.toArray⟩, .bool b]] wz fun e w' => e = .returned (.bool false) ∧ Below wz.heap.size wz w') := Lib.hid (fun wz => by have h9 := A1.refValid_any ⟨h, p, q, b⟩ wz (by simp only; omega) (by simp only; omega) (by simp only; omega); rw [hv] at h9; exact h9)
   clear hv
   obtain ⟨⟨c0, c1, c2, c3⟩, ⟨⟨e0, e1, e2, e3⟩, ⟨g0, g1, g2, g3⟩⟩, ⟨⟨d0, d1, d2⟩, ⟨k0, k1, k2⟩⟩, hz⟩ := HS1.out.rd.r3.facts; obtain ⟨⟨n0, n1, n2, n3⟩, hz3⟩ := HS1.out.facts
   have hln2 : xs.length ≤ 2147483648 := by omega
   go_wp2_with ((go_at_call 67; refine (HVAL.out _).mono ?_; rintro e w2 ⟨rfl, hb2⟩; have HS2 := Lib.hid (HS1.out.older hb2); clear hb2; clear c0 c1 c2 c3 e0 e1 e2 e3 g0 g1 g2 g3 d0 d1 d2 k0 k1 k2 hz n0 n1 n2 n3 hz3; obtain ⟨⟨c0, c1, c2, c3⟩, ⟨⟨e0, e1, e2, e3⟩, ⟨g0, g1, g2, g3⟩⟩, ⟨⟨d0, d1, d2⟩, ⟨k0, k1, k2⟩⟩, hz⟩ := HS2.out.rd.r3.facts; obtain ⟨⟨n0, n1, n2, n3⟩, hz3⟩ := HS2.out.facts))
   obtain ⟨⟨⟨z0, z1, z2, z3⟩, ⟨y0, y1, y2⟩⟩, hbf⟩ := HS2.out.rd.r3.done (.string ⟨#[]⟩) (.string ⟨#[]⟩) (.string ⟨#[]⟩) (.bool false) (.string ⟨#[]⟩) (.int .i64 0) (.int .i64 0)
   refine bodyPost_ret (v := .tuple #[adZ, tkZ, .string ⟨#[]⟩, .bool false]) (by simp [results, Tryz.results73, go_sem, z0, z1, z2, z3, y0, y1, y2]) rfl ⟨?_, hbf⟩
   rw [HR.out]; rfl
 | true =>
   cases b with
   | false =>
     have HR := Lib.hid (show readS ⟨h, p, q, false⟩ = none from read_nohas rfl)
     have HVAL : Hid (∀ wz, Calls Tryz.prog 67 #[.agg #[.string ⟨h.toArray⟩, .string ⟨p.toArray⟩, .string ⟨q.toArray⟩, .bool false]] wz fun e w' => e = .returned (.bool true) ∧ Below wz.heap.size wz w') := Lib.hid (fun wz => by have h9 := A1.refValid_any ⟨h, p, q, false⟩ wz (by simp only; omega) (by simp only; omega) (by simp only; omega); rw [hv] at h9; exact h9)
     clear hv
     obtain ⟨⟨c0, c1, c2, c3⟩, ⟨⟨e0, e1, e2, e3⟩, ⟨g0, g1, g2, g3⟩⟩, ⟨⟨d0, d1, d2⟩, ⟨k0, k1, k2⟩⟩, hz⟩ := HS1.out.rd.r3.facts; obtain ⟨⟨n0, n1, n2, n3⟩, hz3⟩ := HS1.out.facts
     have hln2 : xs.length ≤ 2147483648 := by omega
     go_wp2_with ((go_at_call 67; refine (HVAL.out _).mono ?_; rintro e w2 ⟨rfl, hb2⟩; have HS2 := Lib.hid (HS1.out.older hb2); clear hb2; clear c0 c1 c2 c3 e0 e1 e2 e3 g0 g1 g2 g3 d0 d1 d2 k0 k1 k2 hz n0 n1 n2 n3 hz3; obtain ⟨⟨c0, c1, c2, c3⟩, ⟨⟨e0, e1, e2, e3⟩, ⟨g0, g1, g2, g3⟩⟩, ⟨⟨d0, d1, d2⟩, ⟨k0, k1, k2⟩⟩, hz⟩ := HS2.out.rd.r3.facts; obtain ⟨⟨n0, n1, n2, n3⟩, hz3⟩ := HS2.out.facts))
     obtain ⟨⟨⟨z0, z1, z2, z3⟩, ⟨y0, y1, y2⟩⟩, hbf⟩ := HS2.out.rd.r3.done (.string ⟨#[]⟩) (.string ⟨#[]⟩) (.string ⟨#[]⟩) (.bool false) (.string ⟨#[]⟩) (.int .i64 0) (.int .i64 0)
     refine bodyPost_ret (v := .tuple #[adZ, tkZ, .string ⟨#[]⟩, .bool false]) (by simp [results, Tryz.results73, go_sem, z0, z1, z2, z3, y0, y1, y2]) rfl ⟨?_, hbf⟩
     rw [HR.out]; rfl
   | true =>
     have HVAL : Hid (∀ wz, Calls Tryz.prog 67 #[.agg #[.string ⟨h.toArray⟩, .string ⟨p.toArray⟩, .string ⟨q.toArray⟩, .bool true]] wz fun e w' => e = .returned (.bool true) ∧ Below wz.heap.size wz w') := Lib.hid (fun wz => by have h9 := A1.refValid_any ⟨h, p, q, true⟩ wz (by simp only; omega) (by simp only; omega) (by simp only; omega); rw [hv] at h9; exact h9)
     by_cases hn : xs.length < 4
     ·obtain ⟨m, hm⟩ : ∃ m, xs.length = m := ⟨_, rfl⟩
      rw [hm] at hn hcap ⊢
      have HR := Lib.hid (show readS ⟨h, p, q, true⟩ = none from read_short (by show (splitOn 38 q).length < 4; rw [HXS.out, hm]; exact hn))
      have hmi : (m : Int) - 4 < 0 := by omega
      have hmx : m ≤ 4 := by omega
      obtain ⟨⟨c0, c1, c2, c3⟩, ⟨⟨e0, e1, e2, e3⟩, ⟨g0, g1, g2, g3⟩⟩, ⟨⟨d0, d1, d2⟩, ⟨k0, k1, k2⟩⟩, hz⟩ := HS1.out.rd.r3.facts; obtain ⟨⟨n0, n1, n2, n3⟩, hz3⟩ := HS1.out.facts
      clear hm hv
      go_wp2_with ((go_at_call 67; refine (HVAL.out _).mono ?_; rintro e w2 ⟨rfl, hb2⟩; have HS2 := Lib.hid (HS1.out.older hb2); clear hb2; clear c0 c1 c2 c3 e0 e1 e2 e3 g0 g1 g2 g3 d0 d1 d2 k0 k1 k2 hz n0 n1 n2 n3 hz3; obtain ⟨⟨c0, c1, c2, c3⟩, ⟨⟨e0, e1, e2, e3⟩, ⟨g0, g1, g2, g3⟩⟩, ⟨⟨d0, d1, d2⟩, ⟨k0, k1, k2⟩⟩, hz⟩ := HS2.out.rd.r3.facts; obtain ⟨⟨n0, n1, n2, n3⟩, hz3⟩ := HS2.out.facts))
      obtain ⟨⟨⟨z0, z1, z2, z3⟩, ⟨y0, y1, y2⟩⟩, hbf⟩ := HS2.out.rd.r3.done (.string ⟨#[]⟩) (.string ⟨#[]⟩) (.string ⟨#[]⟩) (.bool false) (.string ⟨#[]⟩) (.int .i64 0) (.int .i64 0)
      refine bodyPost_ret (v := .tuple #[adZ, tkZ, .string ⟨#[]⟩, .bool false]) (by simp [results, Tryz.results73, go_sem, z0, z1, z2, z3, y0, y1, y2]) rfl ⟨?_, hbf⟩
      rw [HR.out]; rfl
     ·obtain ⟨l, x0, x1, x2, x3, hxe, hll, hlt⟩ := parts4 (Nat.le_of_not_lt hn)
      obtain ⟨n4, hn4⟩ : ∃ n, l.length = n := ⟨_, rfl⟩
      have hlen : xs.length = n4 + 4 := by omega
      have HXE := Lib.hid (show splitOn 38 (Adr.mk h p q true).query = l ++ [x0, x1, x2, x3] by show splitOn 38 q = _; rw [HXS.out, hxe])
      have HLL := Lib.hid hn4
      have HV := Lib.hid hv
      have HXT := Lib.hid hxe
      have hx0l : x0.length ≤ 33554432 := by have := HPL.out x0 (by rw [hxe]; simp); omega
      have hx1l : x1.length ≤ 33554432 := by have := HPL.out x1 (by rw [hxe]; simp); omega
      have hx2l : x2.length ≤ 33554432 := by have := HPL.out x2 (by rw [hxe]; simp); omega
      have hx3l : x3.length ≤ 33554432 := by have := HPL.out x3 (by rw [hxe]; simp); omega
      have HC0 : Hid (∀ wz, RqS w wz ⟨h, p, q, true⟩ bb xs → wz.cell? ⟨bb, n4, none⟩ = some (.string ⟨x0.toArray⟩)) := Lib.hid (fun wz hz => by have h9 := hz.rd.cells (n4 + 0) x0 (by rw [hxe, ← hn4]; simp); rw [Nat.zero_add] at h9; exact h9)
      have HC1 : Hid (∀ wz, RqS w wz ⟨h, p, q, true⟩ bb xs → wz.cell? ⟨bb, n4 + 1, none⟩ = some (.string ⟨x1.toArray⟩)) := Lib.hid (fun wz hz => by have h9 := hz.rd.cells (n4 + 1) x1 (by rw [hxe, ← hn4]; simp); rw [Nat.zero_add] at h9; exact h9)
      have HC2 : Hid (∀ wz, RqS w wz ⟨h, p, q, true⟩ bb xs → wz.cell? ⟨bb, n4 + 2, none⟩ = some (.string ⟨x2.toArray⟩)) := Lib.hid (fun wz hz => by have h9 := hz.rd.cells (n4 + 2) x2 (by rw [hxe, ← hn4]; simp); rw [Nat.zero_add] at h9; exact h9)
      have HC3 : Hid (∀ wz, RqS w wz ⟨h, p, q, true⟩ bb xs → wz.cell? ⟨bb, n4 + 3, none⟩ = some (.string ⟨x3.toArray⟩)) := Lib.hid (fun wz hz => by have h9 := hz.rd.cells (n4 + 3) x3 (by rw [hxe, ← hn4]; simp); rw [Nat.zero_add] at h9; exact h9)
      obtain ⟨v0, hv0⟩ : ∃ v, (cutP pK x0).getD [] = v := ⟨_, rfl⟩
      have HV0 := Lib.hid hv0
      obtain ⟨o0, ho0⟩ : ∃ o, (cutP pK x0).isSome = o := ⟨_, rfl⟩
      have HO0 := Lib.hid ho0
      have HA0 : Hid (∀ wz, Calls Tryz.prog 102 #[.string ⟨x0.toArray⟩, .string ⟨#[113, 107, 61]⟩] wz fun e w' => e = .returned (.tuple #[.string ⟨v0.toArray⟩, .bool o0]) ∧ wz = w') := Lib.hid (fun wz => by rw [← hv0, ← ho0]; exact value_any x0 [113, 107, 61] wz (by omega) (by decide))
      have hv0l : v0.length ≤ 33554432 := by rw [← hv0]; unfold cutP; split <;> simp <;> omega
      obtain ⟨v1, hv1⟩ : ∃ v, (cutP pF x1).getD [] = v := ⟨_, rfl⟩
      have HV1 := Lib.hid hv1
      obtain ⟨o1, ho1⟩ : ∃ o, (cutP pF x1).isSome = o := ⟨_, rfl⟩
      have HO1 := Lib.hid ho1
      have HA1 : Hid (∀ wz, Calls Tryz.prog 102 #[.string ⟨x1.toArray⟩, .string ⟨#[113, 102, 61]⟩] wz fun e w' => e = .returned (.tuple #[.string ⟨v1.toArray⟩, .bool o1]) ∧ wz = w') := Lib.hid (fun wz => by rw [← hv1, ← ho1]; exact value_any x1 [113, 102, 61] wz (by omega) (by decide))
      have hv1l : v1.length ≤ 33554432 := by rw [← hv1]; unfold cutP; split <;> simp <;> omega
      obtain ⟨v2, hv2⟩ : ∃ v, (cutP pU x2).getD [] = v := ⟨_, rfl⟩
      have HV2 := Lib.hid hv2
      obtain ⟨o2, ho2⟩ : ∃ o, (cutP pU x2).isSome = o := ⟨_, rfl⟩
      have HO2 := Lib.hid ho2
      have HA2 : Hid (∀ wz, Calls Tryz.prog 102 #[.string ⟨x2.toArray⟩, .string ⟨#[113, 117, 61]⟩] wz fun e w' => e = .returned (.tuple #[.string ⟨v2.toArray⟩, .bool o2]) ∧ wz = w') := Lib.hid (fun wz => by rw [← hv2, ← ho2]; exact value_any x2 [113, 117, 61] wz (by omega) (by decide))
      have hv2l : v2.length ≤ 33554432 := by rw [← hv2]; unfold cutP; split <;> simp <;> omega
      obtain ⟨v3, hv3⟩ : ∃ v, (cutP pS x3).getD [] = v := ⟨_, rfl⟩
      have HV3 := Lib.hid hv3
      obtain ⟨o3, ho3⟩ : ∃ o, (cutP pS x3).isSome = o := ⟨_, rfl⟩
      have HO3 := Lib.hid ho3
      have HA3 : Hid (∀ wz, Calls Tryz.prog 102 #[.string ⟨x3.toArray⟩, .string ⟨#[113, 115, 61]⟩] wz fun e w' => e = .returned (.tuple #[.string ⟨v3.toArray⟩, .bool o3]) ∧ wz = w') := Lib.hid (fun wz => by rw [← hv3, ← ho3]; exact value_any x3 [113, 115, 61] wz (by omega) (by decide))
      have hv3l : v3.length ≤ 33554432 := by rw [← hv3]; unfold cutP; split <;> simp <;> omega
      rw [hlen] at hcap hln ⊢
      clear hxe hll hlt hlen hn4 hn hv hv0 hv1 hv2 hv3 ho0 ho1 ho2 ho3 HLN HN0 HN1 HN2
      obtain ⟨⟨c0, c1, c2, c3⟩, ⟨⟨e0, e1, e2, e3⟩, ⟨g0, g1, g2, g3⟩⟩, ⟨⟨d0, d1, d2⟩, ⟨k0, k1, k2⟩⟩, hz⟩ := HS1.out.rd.r3.facts; obtain ⟨⟨n0, n1, n2, n3⟩, hz3⟩ := HS1.out.facts
      go_wp2_with ((go_at_call 67; refine (HVAL.out _).mono ?_; rintro e w2 ⟨rfl, hb2⟩; have HS2 := Lib.hid (HS1.out.older hb2); clear hb2; clear c0 c1 c2 c3 e0 e1 e2 e3 g0 g1 g2 g3 d0 d1 d2 k0 k1 k2 hz n0 n1 n2 n3 hz3; obtain ⟨⟨c0, c1, c2, c3⟩, ⟨⟨e0, e1, e2, e3⟩, ⟨g0, g1, g2, g3⟩⟩, ⟨⟨d0, d1, d2⟩, ⟨k0, k1, k2⟩⟩, hz⟩ := HS2.out.rd.r3.facts; obtain ⟨⟨n0, n1, n2, n3⟩, hz3⟩ := HS2.out.facts); have p0 := HC0.out _ HS2.out; have p1 := HC1.out _ HS2.out; have p2 := HC2.out _ HS2.out; have p3 := HC3.out _ HS2.out; have hzb := HS2.out.rd.bl)
      refine (HA0.out _).mono ?_
      rintro e u0 ⟨rfl, rfl⟩
      go_wp2_with fail
      refine (HA1.out _).mono ?_
      rintro e u1 ⟨rfl, rfl⟩
      go_wp2_with fail
      refine (HA2.out _).mono ?_
      rintro e u2 ⟨rfl, rfl⟩
      go_wp2_with fail
      refine (HA3.out _).mono ?_
      rintro e u3 ⟨rfl, rfl⟩
      go_wp2_with fail
      obtain ⟨N1, hN1⟩ : ∃ n : Nat, numN v1 = n := ⟨_, rfl⟩
      obtain ⟨o4, ho4⟩ : ∃ o, numB v1 = o := ⟨_, rfl⟩
      have HO4 := Lib.hid ho4
      have HN1 := Lib.hid hN1
      obtain ⟨N2, hN2⟩ : ∃ n : Nat, numN v2 = n := ⟨_, rfl⟩
      obtain ⟨o5, ho5⟩ : ∃ o, numB v2 = o := ⟨_, rfl⟩
      have HO5 := Lib.hid ho5
      have HN2 := Lib.hid hN2
      have HNU1 : Hid (∀ wz, Calls Tryz.prog 103 #[.string ⟨v1.toArray⟩] wz fun e w' => e = .returned (.tuple #[.int .i64 (N1 : Int), .bool o4]) ∧ Below wz.heap.size wz w') := Lib.hid (fun wz => by rw [← hN1, ← ho4]; exact number_any v1 wz (by omega))
      have HNU2 : Hid (∀ wz, Calls Tryz.prog 103 #[.string ⟨v2.toArray⟩] wz fun e w' => e = .returned (.tuple #[.int .i64 (N2 : Int), .bool o5]) ∧ Below wz.heap.size wz w') := Lib.hid (fun wz => by rw [← hN2, ← ho5]; exact number_any v2 wz (by omega))
      clear hN1 hN2 ho4 ho5
      refine (HNU1.out _).mono ?_
      rintro e w3 ⟨rfl, hb3⟩
      have HS3 := Lib.hid (HS2.out.older hb3)
      clear c0 c1 c2 c3 e0 e1 e2 e3 g0 g1 g2 g3 d0 d1 d2 k0 k1 k2 hz n0 n1 n2 n3 hz3 p0 p1 p2 p3 hzb hb3
      go_wp2_with fail
      refine (HNU2.out _).mono ?_
      rintro e w4 ⟨rfl, hb4⟩
      have HS4 := Lib.hid (HS3.out.older hb4)
      clear hb4
      obtain ⟨o6, ho6⟩ : ∃ o, idOk v0 = o := ⟨_, rfl⟩
      have HO6 := Lib.hid ho6
      obtain ⟨o7, ho7⟩ : ∃ o, hexOk v3 = o := ⟨_, rfl⟩
      have HO7 := Lib.hid ho7
      have HID : Hid (∀ wz, Calls Tryz.prog 65 #[.string ⟨v0.toArray⟩] wz fun e w' => e = .returned (.bool o6) ∧ wz = w') := Lib.hid (fun wz => by rw [← ho6]; exact refID_any v0 wz (by omega))
      have HDG : Hid (∀ wz, Calls Tryz.prog 104 #[.string ⟨v3.toArray⟩] wz fun e w' => e = .returned (.bool o7) ∧ wz = w') := Lib.hid (fun wz => by rw [← ho7]; exact digits_any v3 wz (by omega))
      clear ho6 ho7
      have HFAIL := Lib.hid (fun hz9 => ref_fail (a := ⟨h, p, q, true⟩) HXE.out HV0.out HV1.out HV2.out HV3.out hz9)
      obtain ⟨⟨c0, c1, c2, c3⟩, ⟨⟨e0, e1, e2, e3⟩, ⟨g0, g1, g2, g3⟩⟩, ⟨⟨d0, d1, d2⟩, ⟨k0, k1, k2⟩⟩, hz⟩ := HS4.out.rd.r3.facts; obtain ⟨⟨n0, n1, n2, n3⟩, hz3⟩ := HS4.out.facts
      cases o0 with
      | false =>
        have HR := Lib.hid (HFAIL.out (.inl (HO0.out)))
        go_wp2_with (first | (go_at_call 65; refine (HID.out _).mono ?_; rintro e w' ⟨rfl, rfl⟩) | (go_at_call 104; refine (HDG.out _).mono ?_; rintro e w' ⟨rfl, rfl⟩))
        obtain ⟨⟨⟨z0, z1, z2, z3⟩, ⟨y0, y1, y2⟩⟩, hbf⟩ := HS4.out.rd.r3.done (.string ⟨#[]⟩) (.string ⟨#[]⟩) (.string ⟨#[]⟩) (.bool false) (.string ⟨#[]⟩) (.int .i64 0) (.int .i64 0)
        refine bodyPost_ret (v := .tuple #[adZ, tkZ, .string ⟨#[]⟩, .bool false]) (by simp [results, Tryz.results73, go_sem, z0, z1, z2, z3, y0, y1, y2]) rfl ⟨?_, hbf⟩
        rw [HR.out]; rfl
      | true =>
        cases o1 with
        | false =>
          have HR := Lib.hid (HFAIL.out (.inr (.inl (HO1.out))))
          go_wp2_with (first | (go_at_call 65; refine (HID.out _).mono ?_; rintro e w' ⟨rfl, rfl⟩) | (go_at_call 104; refine (HDG.out _).mono ?_; rintro e w' ⟨rfl, rfl⟩))
          obtain ⟨⟨⟨z0, z1, z2, z3⟩, ⟨y0, y1, y2⟩⟩, hbf⟩ := HS4.out.rd.r3.done (.string ⟨#[]⟩) (.string ⟨#[]⟩) (.string ⟨#[]⟩) (.bool false) (.string ⟨#[]⟩) (.int .i64 0) (.int .i64 0)
          refine bodyPost_ret (v := .tuple #[adZ, tkZ, .string ⟨#[]⟩, .bool false]) (by simp [results, Tryz.results73, go_sem, z0, z1, z2, z3, y0, y1, y2]) rfl ⟨?_, hbf⟩
          rw [HR.out]; rfl
        | true =>
          cases o2 with
          | false =>
            have HR := Lib.hid (HFAIL.out (.inr (.inr (.inl (HO2.out)))))
            go_wp2_with (first | (go_at_call 65; refine (HID.out _).mono ?_; rintro e w' ⟨rfl, rfl⟩) | (go_at_call 104; refine (HDG.out _).mono ?_; rintro e w' ⟨rfl, rfl⟩))
            obtain ⟨⟨⟨z0, z1, z2, z3⟩, ⟨y0, y1, y2⟩⟩, hbf⟩ := HS4.out.rd.r3.done (.string ⟨#[]⟩) (.string ⟨#[]⟩) (.string ⟨#[]⟩) (.bool false) (.string ⟨#[]⟩) (.int .i64 0) (.int .i64 0)
            refine bodyPost_ret (v := .tuple #[adZ, tkZ, .string ⟨#[]⟩, .bool false]) (by simp [results, Tryz.results73, go_sem, z0, z1, z2, z3, y0, y1, y2]) rfl ⟨?_, hbf⟩
            rw [HR.out]; rfl
          | true =>
            cases o3 with
            | false =>
              have HR := Lib.hid (HFAIL.out (.inr (.inr (.inr (.inl (HO3.out))))))
              go_wp2_with (first | (go_at_call 65; refine (HID.out _).mono ?_; rintro e w' ⟨rfl, rfl⟩) | (go_at_call 104; refine (HDG.out _).mono ?_; rintro e w' ⟨rfl, rfl⟩))
              obtain ⟨⟨⟨z0, z1, z2, z3⟩, ⟨y0, y1, y2⟩⟩, hbf⟩ := HS4.out.rd.r3.done (.string ⟨#[]⟩) (.string ⟨#[]⟩) (.string ⟨#[]⟩) (.bool false) (.string ⟨#[]⟩) (.int .i64 0) (.int .i64 0)
              refine bodyPost_ret (v := .tuple #[adZ, tkZ, .string ⟨#[]⟩, .bool false]) (by simp [results, Tryz.results73, go_sem, z0, z1, z2, z3, y0, y1, y2]) rfl ⟨?_, hbf⟩
              rw [HR.out]; rfl
            | true =>
              cases o4 with
              | false =>
                have HR := Lib.hid (HFAIL.out (.inr (.inr (.inr (.inr (.inl (HO4.out)))))))
                go_wp2_with (first | (go_at_call 65; refine (HID.out _).mono ?_; rintro e w' ⟨rfl, rfl⟩) | (go_at_call 104; refine (HDG.out _).mono ?_; rintro e w' ⟨rfl, rfl⟩))
                obtain ⟨⟨⟨z0, z1, z2, z3⟩, ⟨y0, y1, y2⟩⟩, hbf⟩ := HS4.out.rd.r3.done (.string ⟨#[]⟩) (.string ⟨#[]⟩) (.string ⟨#[]⟩) (.bool false) (.string ⟨#[]⟩) (.int .i64 0) (.int .i64 0)
                refine bodyPost_ret (v := .tuple #[adZ, tkZ, .string ⟨#[]⟩, .bool false]) (by simp [results, Tryz.results73, go_sem, z0, z1, z2, z3, y0, y1, y2]) rfl ⟨?_, hbf⟩
                rw [HR.out]; rfl
              | true =>
                cases o5 with
                | false =>
                  have HR := Lib.hid (HFAIL.out (.inr (.inr (.inr (.inr (.inr (.inl (HO5.out))))))))
                  go_wp2_with (first | (go_at_call 65; refine (HID.out _).mono ?_; rintro e w' ⟨rfl, rfl⟩) | (go_at_call 104; refine (HDG.out _).mono ?_; rintro e w' ⟨rfl, rfl⟩))
                  obtain ⟨⟨⟨z0, z1, z2, z3⟩, ⟨y0, y1, y2⟩⟩, hbf⟩ := HS4.out.rd.r3.done (.string ⟨#[]⟩) (.string ⟨#[]⟩) (.string ⟨#[]⟩) (.bool false) (.string ⟨#[]⟩) (.int .i64 0) (.int .i64 0)
                  refine bodyPost_ret (v := .tuple #[adZ, tkZ, .string ⟨#[]⟩, .bool false]) (by simp [results, Tryz.results73, go_sem, z0, z1, z2, z3, y0, y1, y2]) rfl ⟨?_, hbf⟩
                  rw [HR.out]; rfl
                | true =>
                  cases o6 with
                  | false =>
                    have HR := Lib.hid (HFAIL.out (.inr (.inr (.inr (.inr (.inr (.inr (.inl (HO6.out)))))))))
                    go_wp2_with (first | (go_at_call 65; refine (HID.out _).mono ?_; rintro e w' ⟨rfl, rfl⟩) | (go_at_call 104; refine (HDG.out _).mono ?_; rintro e w' ⟨rfl, rfl⟩))
                    obtain ⟨⟨⟨z0, z1, z2, z3⟩, ⟨y0, y1, y2⟩⟩, hbf⟩ := HS4.out.rd.r3.done (.string ⟨#[]⟩) (.string ⟨#[]⟩) (.string ⟨#[]⟩) (.bool false) (.string ⟨#[]⟩) (.int .i64 0) (.int .i64 0)
                    refine bodyPost_ret (v := .tuple #[adZ, tkZ, .string ⟨#[]⟩, .bool false]) (by simp [results, Tryz.results73, go_sem, z0, z1, z2, z3, y0, y1, y2]) rfl ⟨?_, hbf⟩
                    rw [HR.out]; rfl
                  | true =>
                    by_cases hlt : (N2 : Int) ≤ (N1 : Int)
                    ·have HR := Lib.hid (HFAIL.out (.inr (.inr (.inr (.inr (.inr (.inr (.inr (.inl (by rw [HN1.out, HN2.out]; exact hlt))))))))))
                     go_wp2_with (first | (go_at_call 65; refine (HID.out _).mono ?_; rintro e w' ⟨rfl, rfl⟩) | (go_at_call 104; refine (HDG.out _).mono ?_; rintro e w' ⟨rfl, rfl⟩))
                     obtain ⟨⟨⟨z0, z1, z2, z3⟩, ⟨y0, y1, y2⟩⟩, hbf⟩ := HS4.out.rd.r3.done (.string ⟨#[]⟩) (.string ⟨#[]⟩) (.string ⟨#[]⟩) (.bool false) (.string ⟨#[]⟩) (.int .i64 0) (.int .i64 0)
                     refine bodyPost_ret (v := .tuple #[adZ, tkZ, .string ⟨#[]⟩, .bool false]) (by simp [results, Tryz.results73, go_sem, z0, z1, z2, z3, y0, y1, y2]) rfl ⟨?_, hbf⟩
                     rw [HR.out]; rfl
                    ·have hlt2 : ¬ (N2 : Int) ≤ (N1 : Int) := hlt
                     by_cases hle : (1099511627776 : Int) < (N2 : Int)
                     ·have HR := Lib.hid (HFAIL.out (.inr (.inr (.inr (.inr (.inr (.inr (.inr (.inr (.inl (by rw [HN2.out]; exact hle)))))))))))
                      go_wp2_with (first | (go_at_call 65; refine (HID.out _).mono ?_; rintro e w' ⟨rfl, rfl⟩) | (go_at_call 104; refine (HDG.out _).mono ?_; rintro e w' ⟨rfl, rfl⟩))
                      obtain ⟨⟨⟨z0, z1, z2, z3⟩, ⟨y0, y1, y2⟩⟩, hbf⟩ := HS4.out.rd.r3.done (.string ⟨#[]⟩) (.string ⟨#[]⟩) (.string ⟨#[]⟩) (.bool false) (.string ⟨#[]⟩) (.int .i64 0) (.int .i64 0)
                      refine bodyPost_ret (v := .tuple #[adZ, tkZ, .string ⟨#[]⟩, .bool false]) (by simp [results, Tryz.results73, go_sem, z0, z1, z2, z3, y0, y1, y2]) rfl ⟨?_, hbf⟩
                      rw [HR.out]; rfl
                     ·have hle2 : ¬ (1099511627776 : Int) < (N2 : Int) := hle
                      cases o7 with
                      | false =>
                        have HR := Lib.hid (HFAIL.out (.inr (.inr (.inr (.inr (.inr (.inr (.inr (.inr (.inr (.inl (HO7.out))))))))))))
                        go_wp2_with (first | (go_at_call 65; refine (HID.out _).mono ?_; rintro e w' ⟨rfl, rfl⟩) | (go_at_call 104; refine (HDG.out _).mono ?_; rintro e w' ⟨rfl, rfl⟩))
                        obtain ⟨⟨⟨z0, z1, z2, z3⟩, ⟨y0, y1, y2⟩⟩, hbf⟩ := HS4.out.rd.r3.done (.string ⟨#[]⟩) (.string ⟨#[]⟩) (.string ⟨#[]⟩) (.bool false) (.string ⟨#[]⟩) (.int .i64 0) (.int .i64 0)
                        refine bodyPost_ret (v := .tuple #[adZ, tkZ, .string ⟨#[]⟩, .bool false]) (by simp [results, Tryz.results73, go_sem, z0, z1, z2, z3, y0, y1, y2]) rfl ⟨?_, hbf⟩
                        rw [HR.out]; rfl
                      | true =>
                        have HGOOD := Lib.hid (fun hq9 => ref_good (a := ⟨h, p, q, true⟩) HV.out rfl HXE.out HV0.out HV1.out HV2.out HV3.out HO0.out HO1.out HO2.out HO3.out HO4.out HO5.out HO6.out (by rw [HN1.out, HN2.out]; omega) (by rw [HN2.out]; omega) HO7.out hq9)
                        have hz1 : w.heap.size < w4.heap.size := by omega
                        by_cases hk0 : n4 = 0
                        ·subst hk0
                         have hre : restA ⟨h, p, q, true⟩ l = ⟨h, p, [], false⟩ := by rw [List.eq_nil_of_length_eq_zero HLL.out]; exact restA_nil h p q true
                         have HX5 := Lib.hid (rxS_new HS4.out h p [] false)
                         go_wp2_with (first | (go_at_call 65; refine (HID.out _).mono ?_; rintro e w' ⟨rfl, rfl⟩) | (go_at_call 104; refine (HDG.out _).mono ?_; rintro e w' ⟨rfl, rfl⟩))
                         clear c0 c1 c2 c3 e0 e1 e2 e3 g0 g1 g2 g3 d0 d1 d2 k0 k1 k2 hz n0 n1 n2 n3 hz3
                         obtain ⟨o8, ho8⟩ : ∃ o, resB ⟨h, p, [], false⟩ = o := ⟨_, rfl⟩
                         have hpq : (!plainQ (restA ⟨h, p, q, true⟩ l).query) = o8 := by rw [← ho8, hre]; unfold resB; exact (resB_rest' hre).symm
                         have hrs := fun wz => reserved_any ⟨h, p, [], false⟩ wz (by simp only; (first | omega | (simp; done)))
                         rw [ho8] at hrs
                         have HRS := Lib.hid hrs
                         clear hrs ho8
                         refine (HRS.out _).mono ?_
                         rintro e w8 ⟨rfl, hb8⟩
                         have HX8 := Lib.hid (HX5.out.older hb8)
                         clear hb8
                         obtain ⟨⟨c0, c1, c2, c3⟩, ⟨⟨e0, e1, e2, e3⟩, ⟨g0, g1, g2, g3⟩⟩, ⟨⟨d0, d1, d2⟩, ⟨k0, k1, k2⟩⟩, hz⟩ := HX8.out.rq.rd.r3.facts; obtain ⟨⟨n0, n1, n2, n3⟩, hz3⟩ := HX8.out.rq.facts
                         obtain ⟨⟨s0, s1, s2, s3⟩, _, hzs⟩ := HX8.out.facts
                         cases o8 with
                         | true =>
                           have HR := Lib.hid (HFAIL.out (.inr (.inr (.inr (.inr (.inr (.inr (.inr (.inr (.inr (.inr (by simpa using hpq))))))))))))
                           clear hpq hre
                           go_wp2_with fail
                           obtain ⟨⟨⟨z0, z1, z2, z3⟩, ⟨y0, y1, y2⟩⟩, hbf⟩ := HX8.out.rq.rd.r3.done (.string ⟨#[]⟩) (.string ⟨#[]⟩) (.string ⟨#[]⟩) (.bool false) (.string ⟨#[]⟩) (.int .i64 0) (.int .i64 0)
                           refine bodyPost_ret (v := .tuple #[adZ, tkZ, .string ⟨#[]⟩, .bool false]) (by simp [results, Tryz.results73, go_sem, z0, z1, z2, z3, y0, y1, y2]) rfl ⟨?_, hbf⟩
                           rw [HR.out]; rfl
                         | false =>
                           have HR := Lib.hid (HGOOD.out (by simpa using hpq))
                           rw [hre, HN1.out, HN2.out] at HR
                           clear hpq hre
                           go_wp2_with fail
                           obtain ⟨⟨⟨z0, z1, z2, z3⟩, ⟨y0, y1, y2⟩⟩, hbf⟩ := HX8.out.rq.rd.r3.done (.string ⟨h.toArray⟩) (.string ⟨p.toArray⟩) (.string ⟨#[]⟩) (.bool false) (.string ⟨v0.toArray⟩) (.int .i64 (N1 : Int)) (.int .i64 (N2 : Int))
                           refine bodyPost_ret (v := rrV (some ⟨⟨h, p, [], false⟩, ⟨v0, N1, N2⟩, v3⟩)) (by simp [results, Tryz.results73, go_sem, rrV, z0, z1, z2, z3, y0, y1, y2]) rfl ⟨?_, hbf⟩
                           rw [HR.out]
                        ·have hk1 : (0 : Int) < (n4 : Int) := by omega
                         have hn0 : 0 < n4 := by omega
                         have hltN : ¬ N2 ≤ N1 := by omega
                         have hd1 : decide (N2 ≤ N1) = false := decide_eq_false hltN
                         have hd2 : decide ((1099511627776 : Int) < (N2 : Int)) = false := decide_eq_false hle2
                         have hd3 : decide (0 < n4) = true := decide_eq_true hn0
                         obtain ⟨J, hJ⟩ : ∃ z, Lib.join l [38] = z := ⟨_, rfl⟩
                         have hre : restA ⟨h, p, q, true⟩ l = ⟨h, p, J, true⟩ := by rw [restA_cons h p q true (by rw [HLL.out]; omega), hJ]
                         have HJU : Hid (∀ k, (Lib.join (l.take k) [38]).length ≤ q.length) := Lib.hid (fun k => join_upto HXE.out k)
                         have hJl : J.length ≤ 33554432 := by have := HJU.out l.length; rw [List.take_length, hJ] at this; omega
                         have HJ := Lib.hid hJ
                         have HLC : Hid (∀ wz, RqS w wz ⟨h, p, q, true⟩ bb xs → ∀ k (hk : k < l.length), wz.cell? ⟨bb, k, none⟩ = some (.string ⟨(l[k]).toArray⟩)) := Lib.hid (fun wz hz k hk => by have h9 := hz.rd.cells k l[k] (by rw [HXT.out, List.getElem?_append_left hk]; exact List.getElem?_eq_getElem hk); rw [Nat.zero_add] at h9; exact h9)
                         obtain ⟨y0, hy0⟩ : ∃ y, l[0]'(by rw [HLL.out]; omega) = y := ⟨_, rfl⟩
                         have hl0 := HLC.out _ HS4.out 0 (by rw [HLL.out]; omega)
                         rw [hy0] at hl0
                         have HJ1 := Lib.hid (show Lib.join (l.take 1) [38] = y0 by rw [← hy0]; rw [show l.take 1 = [l[0]'(by rw [HLL.out]; omega)] from by rw [List.take_one, List.head?_eq_getElem?, List.getElem?_eq_getElem]; rfl]; simp [Lib.join_cons, Lib.joinTail])
                         have hzb := HS4.out.rd.bl
                         clear hk0 hJ hy0
                         have HX6 := Lib.hid (rxS_new HS4.out h p y0 true)
                         go_wp2_with (first | (go_at_call 65; refine (HID.out _).mono ?_; rintro e w' ⟨rfl, rfl⟩) | (go_at_call 104; refine (HDG.out _).mono ?_; rintro e w' ⟨rfl, rfl⟩))
                         clear c0 c1 c2 c3 e0 e1 e2 e3 g0 g1 g2 g3 d0 d1 d2 k0 k1 k2 hz n0 n1 n2 n3 hz3 hl0 hzb
                         go_loopg [22] n4 (fun gq iv wr => ∃ (k : Nat) (X : Bs), 1 ≤ k ∧ k ≤ n4 ∧ Hid (n4 ≤ gq + k) ∧ iv = .int .i64 k ∧ Hid (Lib.join (l.take k) [38] = X) ∧ RxS w wr ⟨h, p, q, true⟩ bb xs w4.heap.size ⟨h, p, X, true⟩)
                         case atStart => exact ⟨1, y0, Nat.le_refl _, by omega, Lib.hid (by omega), rfl, HJ1, HX6.out⟩
                         case round =>
                          obtain ⟨k, X, hk1, hkn, HQ, rfl, HX, hm⟩ := hrel
                          have HM := Lib.hid hm
                          have hXl : X.length ≤ 33554432 := by have := HJU.out k; rw [HX.out] at this; omega
                          by_cases hlt : k < n4
                          ·have hkl : k < l.length := by rw [HLL.out]; exact hlt
                           have hlk := HLC.out _ hm.rq k hkl
                           have HNX := Lib.hid (join_next hkl (by omega))
                           have hyl : (l[k]).length ≤ 33554432 := by have := HPL.out l[k] (by rw [HXT.out]; exact List.mem_append_left _ (List.getElem_mem hkl)); omega
                           generalize l[k] = y at hlk HNX hyl
                           have hzb := hm.rq.rd.bl
                           obtain ⟨⟨s0, s1, s2, s3⟩, ⟨f2, f3⟩, hzs⟩ := hm.facts
                           clear hm
                           have HMd := Lib.hid (HM.out.older ((Below.refl _ _).drew))
                           have hlen1 : ¬ 9223372036854775807 < 1 + y.length := by omega
                           have hkb : k < n4 + 4 := by omega
                           have hkbi : (k : Int) < (n4 : Int) + 4 := by omega
                           have hlen3 : ¬ 9223372036854775807 < X.length + (y.length + 1) := by omega
                           have hlen4 : ¬ 9223372036854775807 < y.length + 1 := by omega
                           have hlen2 : ¬ 9223372036854775807 < X.length + (1 + y.length) := by omega
                           go_wp2_with fail
                           go_still_tail 9, (by kernel_rfl)
                           try go_simp
                           change wpList _ _ _ _ _ wr.drew
                           generalize hw8 : wr.drew = w8 at HMd ⊢
                           clear hw8 s0 s1 s2 s3 f2 f3 hzs hlk hzb
                           obtain ⟨⟨s0, s1, s2, s3⟩, ⟨f2, f3⟩, hzs⟩ := HMd.out.facts
                           go_wp2_with fail
                           go_roundg (gk - 1)
                           case rel => exact ⟨k + 1, X ++ 38 :: y, by omega, by omega, Lib.hid (by have := HQ.out; omega), by go_num, Lib.hid (by rw [HNX.out, HX.out]; rfl), HMd.out.set (i := 2) (u := .string ⟨(X ++ 38 :: y).toArray⟩) (r' := ⟨h, p, X ++ 38 :: y, true⟩) rfl⟩
                           case measure => have := HQ.out; omega
                          ·obtain rfl : k = n4 := by omega
                           obtain rfl : X = J := by rw [← HX.out, ← HJ.out]; rw [List.take_of_length_le (by rw [HLL.out]; exact Nat.le_refl _)]
                           obtain ⟨⟨s0, s1, s2, s3⟩, ⟨f2, f3⟩, hzs⟩ := hm.facts
                           clear hm hlt
                           go_wp2_with fail
                           clear s0 s1 s2 s3 f2 f3 hzs
                           obtain ⟨o8, ho8⟩ : ∃ o, resB ⟨h, p, X, true⟩ = o := ⟨_, rfl⟩
                           have hpq : (!plainQ (restA ⟨h, p, q, true⟩ l).query) = o8 := by rw [← ho8, hre]; unfold resB; exact (resB_rest' hre).symm
                           have hrs := fun wz => reserved_any ⟨h, p, X, true⟩ wz (by simp only; (first | omega | (simp; done)))
                           rw [ho8] at hrs
                           have HRS := Lib.hid hrs
                           clear hrs ho8
                           refine (HRS.out _).mono ?_
                           rintro e w8 ⟨rfl, hb8⟩
                           have HX8 := Lib.hid (HM.out.older hb8)
                           clear hb8
                           obtain ⟨⟨c0, c1, c2, c3⟩, ⟨⟨e0, e1, e2, e3⟩, ⟨g0, g1, g2, g3⟩⟩, ⟨⟨d0, d1, d2⟩, ⟨k0, k1, k2⟩⟩, hz⟩ := HX8.out.rq.rd.r3.facts; obtain ⟨⟨n0, n1, n2, n3⟩, hz3⟩ := HX8.out.rq.facts
                           obtain ⟨⟨s0, s1, s2, s3⟩, _, hzs⟩ := HX8.out.facts
                           cases o8 with
                           | true =>
                             have HR := Lib.hid (HFAIL.out (.inr (.inr (.inr (.inr (.inr (.inr (.inr (.inr (.inr (.inr (by simpa using hpq))))))))))))
                             clear hpq hre
                             go_wp2_with fail
                             obtain ⟨⟨⟨z0, z1, z2, z3⟩, ⟨y0, y1, y2⟩⟩, hbf⟩ := HX8.out.rq.rd.r3.done (.string ⟨#[]⟩) (.string ⟨#[]⟩) (.string ⟨#[]⟩) (.bool false) (.string ⟨#[]⟩) (.int .i64 0) (.int .i64 0)
                             refine bodyPost_ret (v := .tuple #[adZ, tkZ, .string ⟨#[]⟩, .bool false]) (by simp [results, Tryz.results73, go_sem, z0, z1, z2, z3, y0, y1, y2]) rfl ⟨?_, hbf⟩
                             rw [HR.out]; rfl
                           | false =>
                             have HR := Lib.hid (HGOOD.out (by simpa using hpq))
                             rw [hre, HN1.out, HN2.out] at HR
                             clear hpq hre
                             go_wp2_with fail
                             obtain ⟨⟨⟨z0, z1, z2, z3⟩, ⟨y0, y1, y2⟩⟩, hbf⟩ := HX8.out.rq.rd.r3.done (.string ⟨h.toArray⟩) (.string ⟨p.toArray⟩) (.string ⟨X.toArray⟩) (.bool true) (.string ⟨v0.toArray⟩) (.int .i64 (N1 : Int)) (.int .i64 (N2 : Int))
                             refine bodyPost_ret (v := rrV (some ⟨⟨h, p, X, true⟩, ⟨v0, N1, N2⟩, v3⟩)) (by simp [results, Tryz.results73, go_sem, rrV, z0, z1, z2, z3, y0, y1, y2]) rfl ⟨?_, hbf⟩
                             rw [HR.out]
end Sg
end Go.Proofs.YtpkhbhdidkkebaaGreatDoor
end

