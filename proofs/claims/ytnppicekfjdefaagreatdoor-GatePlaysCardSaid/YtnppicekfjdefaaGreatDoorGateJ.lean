/- Contract: the gate's Accept. Conditions: the gate's own bounds; an item's address of at most 2^27 bytes. -/
import Derived.Test.YtnppicekfjdefaaGreatDoorGateF
import Derived.Test.YtnppicekfjdefaaGreatDoorPurg5
import Derived.Deep.RegionHeld3
namespace Go.Proofs.YtnppicekfjdefaaGreatDoor
open Go.RowKit Pl Ad Go.Maps
attribute [local go_sem] ba_get ba_append ba_extract_end ba_extract_zero ba_extract
set_option maxRecDepth 100000
set_option maxHeartbeats 8000000
set_option linter.unusedVariables false
set_option linter.unusedSimpArgs false
namespace A1
theorem accFn (X : Nat) (p : Pg) (xt : Int) (xa : Bs) (tags : List Bs) (ua : Option Addr) (uc : Nat) (w : World) (hb : Box3 w X 47 (.int .i64 xt) (.string ⟨xa.toArray⟩) (.slice ua tags.length uc)) (hr : Ready w) (hp : p.value.length ≤ 134217728) (hx : xa.length ≤ 134217728) (hu : StrsV w (.slice ua tags.length uc) tags) (htl : tags.length ≤ 9223372036854775807) :
    Calls Tryz.prog 32 #[pgV p, .pointer (some ⟨X, 0, none⟩)] w fun e w' => e = .returned (.bool (matchB p ⟨xt, xa, tags⟩)) ∧ Below w.heap.size w w' := by
  obtain ⟨k, t, s⟩ := p
  simp only at hp
  have hal := (Below.refl w.heap.size w).alloc (Nat.le_refl _) (.cells #[.int .i64 k, .int .i64 t, .string ⟨s.toArray⟩] 56)
  have HB := Lib.hid hal
  have HR := Lib.hid (hr.below hal)
  have HU := Lib.hid (hu.below hal)
  obtain ⟨q, hq⟩ : ∃ q, matchB ⟨k, t, s⟩ ⟨xt, xa, tags⟩ = q := ⟨_, rfl⟩
  have HQ := Lib.hid hq
  obtain ⟨⟨c0, c1, c2⟩, _, hz⟩ := hb.facts
  clear hal hb hr hu hq
  go_enter Tryz.func32, Tryz.ntmps32
  go_wp2_with fail
  refine (match_any ⟨k, t, s⟩ ⟨xt, xa, tags⟩ (.slice ua tags.length uc) _ HR.out hp hx HU.out htl).mono ?_
  rw [HQ.out]
  rintro e w2 ⟨rfl, hb2⟩
  have HB2 := Lib.hid (HB.out.trans (hb2.mono HB.out.size))
  clear hb2
  go_wp2_with fail
  go_ret
  exact ⟨ret_bool' HQ.out.symm, HB2.out⟩
theorem any_stop {x : It} {l : List Pg} {k : Nat} (hk : k < l.length) (hm : matchB l[k] x = true) : l.any (fun p => matchB p x) = true := List.any_eq_true.2 ⟨l[k], List.getElem_mem hk, hm⟩
theorem idxFn (X : Nat) (l : List Pg) (v : Value) (xt : Int) (xa : Bs) (tags : List Bs) (ua : Option Addr) (uc : Nat) (w : World) (hv : RowsV pcells 3 w v l) (hl : l.length ≤ 1000000) (hs : ∀ p ∈ l, p.value.length ≤ 134217728) (hb : Box3 w X 47 (.int .i64 xt) (.string ⟨xa.toArray⟩) (.slice ua tags.length uc)) (hr : Ready w) (hx : xa.length ≤ 134217728) (hu : StrsV w (.slice ua tags.length uc) tags) (htl : tags.length ≤ 9223372036854775807) :
    Calls Tryz.prog 45 #[v, .func (.func 32) #[] #[.pointer (some ⟨X, 0, none⟩)]] w fun e w' => (∃ n : Int, e = .returned (.int .i64 n) ∧ decide (0 ≤ n) = l.any (fun p => matchB p ⟨xt, xa, tags⟩)) ∧ Below w.heap.size w w' := by
  obtain ⟨va, vc, rfl, _⟩ := hv.form
  have HV := Lib.hid hv
  have HS := Lib.hid hs
  have HX := Lib.hid hb
  have HRA : Hid (∀ w', Below w.heap.size w w' → Ready w') := Lib.hid fun w' hb => hr.below hb
  have HU := Lib.hid hu
  clear hv hs hb hr hu
  go_enter Tryz.func45, Tryz.ntmps45
  go_wp2
  go_loopw [8] (fun iv wr => ∃ k : Nat, k ≤ l.length ∧ iv = .int .i64 k ∧ Hid (∀ q ∈ l.take k, matchB q ⟨xt, xa, tags⟩ = false) ∧ Below w.heap.size w wr) (fun iv _ => l.length - (intOf iv).toNat)
  case atStart => exact ⟨0, Nat.zero_le _, rfl, Lib.hid (fun q hq => by simp at hq), Below.refl _ _⟩
  case round =>
    obtain ⟨k, hk, rfl, HH, hbr⟩ := hrel
    have HB := Lib.hid hbr
    by_cases hlt : k < l.length
    · obtain ⟨b, o, c, e, hc, hbz, hcell⟩ := (HV.out.below hbr).at hlt
      cases e
      have hpv := HS.out l[k] (List.getElem_mem hlt)
      have HSN := Lib.hid (take_snoc hlt)
      have HST := Lib.hid (fun hm => any_stop (x := ⟨xt, xa, tags⟩) hlt hm)
      have p0 := hcell 0 _ rfl
      have p1 := hcell 1 _ rfl
      have p2 := hcell 2 _ rfl
      rw [Nat.add_zero] at p0
      rw [← Nat.add_assoc] at p1 p2
      generalize l[k] = y at hpv p0 p1 p2 HSN HST
      obtain ⟨yk, yt, yv⟩ := y
      simp only at hpv p0 p1 p2
      clear hcell hbr
      cases hm : matchB ⟨yk, yt, yv⟩ ⟨xt, xa, tags⟩ with
      | true =>
        have HM := Lib.hid hm
        have HE := Lib.hid (HST.out hm)
        clear hm
        go_wp2_with ((go_at_call 32; refine (accFn X ⟨yk, yt, yv⟩ xt xa tags ua uc _ (HX.out.older HB.out) (HRA.out _ HB.out) hpv hx (HU.out.below HB.out) htl).mono ?_; rw [HM.out]; rintro e w3 ⟨rfl, hb3⟩))
        go_ret
        exact ⟨⟨(k : Int), rfl, by rw [HE.out]; simp⟩, HB.out.trans (hb3.mono HB.out.size)⟩
      | false =>
        have HM := Lib.hid hm
        have HN := Lib.hid (show ∀ q ∈ l.take (k + 1), matchB q ⟨xt, xa, tags⟩ = false by
          rw [HSN.out]
          intro q hq
          rcases List.mem_append.1 hq with hq | hq
          · exact HH.out q hq
          · rw [List.mem_singleton.1 hq]; exact hm)
        clear hm
        go_wp2_with ((go_at_call 32; refine (accFn X ⟨yk, yt, yv⟩ xt xa tags ua uc _ (HX.out.older HB.out) (HRA.out _ HB.out) hpv hx (HU.out.below HB.out) htl).mono ?_; rw [HM.out]; rintro e w3 ⟨rfl, hb3⟩))
        go_roundw
        case rel => exact ⟨k + 1, by omega, by go_num, HN, HB.out.trans (hb3.mono HB.out.size)⟩
        case measure => simp [intOf]; omega
    · have HN := Lib.hid (show l.any (fun p => matchB p ⟨xt, xa, tags⟩) = false by
        rw [List.any_eq_false]
        intro q hq
        have h := HH.out q (by rw [List.take_of_length_le (by omega)]; exact hq)
        rw [h]; decide)
      clear hbr
      go_wp2
      go_ret
      exact ⟨⟨-1, rfl, by rw [HN.out]; rfl⟩, HB.out⟩
theorem conFn (X : Nat) (l : List Pg) (v : Value) (xt : Int) (xa : Bs) (tags : List Bs) (ua : Option Addr) (uc : Nat) (w : World) (hv : RowsV pcells 3 w v l) (hl : l.length ≤ 1000000) (hs : ∀ p ∈ l, p.value.length ≤ 134217728) (hb : Box3 w X 47 (.int .i64 xt) (.string ⟨xa.toArray⟩) (.slice ua tags.length uc)) (hr : Ready w) (hx : xa.length ≤ 134217728) (hu : StrsV w (.slice ua tags.length uc) tags) (htl : tags.length ≤ 9223372036854775807) :
    Calls Tryz.prog 31 #[v, .func (.func 32) #[] #[.pointer (some ⟨X, 0, none⟩)]] w fun e w' => e = .returned (.bool (l.any (fun p => matchB p ⟨xt, xa, tags⟩))) ∧ Below w.heap.size w w' := by
  obtain ⟨va, vc, rfl, _⟩ := hv.form
  obtain ⟨q, hq⟩ : ∃ q, l.any (fun p => matchB p ⟨xt, xa, tags⟩) = q := ⟨_, rfl⟩
  have HQ := Lib.hid hq
  clear hq
  go_enter Tryz.func31, Tryz.ntmps31
  go_wp2_with fail
  refine (idxFn X l _ xt xa tags ua uc w hv hl hs hb hr hx hu htl).mono ?_
  rw [HQ.out]
  rintro e w2 ⟨⟨n, rfl, hn⟩, hb2⟩
  have HB2 := Lib.hid hb2
  have HN := Lib.hid hn
  clear hb2 hn
  go_wp2
  go_ret
  exact ⟨ret_bool' (by rw [HQ.out]; exact HN.out), HB2.out⟩
theorem gateAcc_neg (B R M : Nat) (v : Value) (g : GateM) (xt : Int) (xa : Bs) (tags : List Bs) (ua : Option Addr) (uc : Nat) (n : Int) (w : World) (h : GateAt w B R M v g g.aside) (ho : g.Ok) (hr : Ready w) (hx : xa.length ≤ 134217728) (hu : StrsV w (.slice ua tags.length uc) tags) (htl : tags.length ≤ 9223372036854775807) (hn : n < 0) :
    Calls Tryz.prog 15 #[ptrV R, itV xt xa (.slice ua tags.length uc), .int .i64 n] w fun e w' => e = .returned (codeV (g.acceptC ⟨xt, xa, tags⟩ n)) ∧ Below w.heap.size w w' := by
  have hb := (Below.refl w.heap.size w).alloc (Nat.le_refl _) (.cells #[.int .i64 xt, .string ⟨xa.toArray⟩, .slice ua tags.length uc] 47)
  have HB := Lib.hid hb
  have hlen := ho.len
  have hlo := ho.lo
  have hhi := ho.hi
  have hroom := ho.room
  have hw2 := ho.win2
  have HSZ := Lib.hid ho.size
  have HG := Lib.hid (h.older hb)
  have HU := Lib.hid (hu.below hb)
  have HR := Lib.hid (hr.below hb)
  have HX := Lib.hid (box3_new w 47 (.int .i64 xt) (.string ⟨xa.toArray⟩) (.slice ua tags.length uc))
  obtain ⟨⟨c0, c1, c2, c3, c4⟩, _, hz⟩ := h.box.facts
  have HC := Lib.hid (show g.acceptC ⟨xt, xa, tags⟩ n = 1 by unfold GateM.acceptC; rw [if_pos (.inl hn)])
  clear h ho hr hu hb hlen
  go_enter Tryz.func15, Tryz.ntmps15
  go_wp2_with fail
  go_ret
  exact ⟨by rw [HC.out]; rfl, HB.out⟩
theorem gateAcc_big (B R M : Nat) (v : Value) (g : GateM) (xt : Int) (xa : Bs) (tags : List Bs) (ua : Option Addr) (uc : Nat) (n : Int) (w : World) (h : GateAt w B R M v g g.aside) (ho : g.Ok) (hr : Ready w) (hx : xa.length ≤ 134217728) (hu : StrsV w (.slice ua tags.length uc) tags) (htl : tags.length ≤ 9223372036854775807) (hn0 : 0 ≤ n) (hn : g.applied < n) :
    Calls Tryz.prog 15 #[ptrV R, itV xt xa (.slice ua tags.length uc), .int .i64 n] w fun e w' => e = .returned (codeV (g.acceptC ⟨xt, xa, tags⟩ n)) ∧ Below w.heap.size w w' := by
  have hb := (Below.refl w.heap.size w).alloc (Nat.le_refl _) (.cells #[.int .i64 xt, .string ⟨xa.toArray⟩, .slice ua tags.length uc] 47)
  have HB := Lib.hid hb
  have hlen := ho.len
  have hlo := ho.lo
  have hhi := ho.hi
  have hroom := ho.room
  have hw2 := ho.win2
  have HSZ := Lib.hid ho.size
  have HG := Lib.hid (h.older hb)
  have HU := Lib.hid (hu.below hb)
  have HR := Lib.hid (hr.below hb)
  have HX := Lib.hid (box3_new w 47 (.int .i64 xt) (.string ⟨xa.toArray⟩) (.slice ua tags.length uc))
  obtain ⟨⟨c0, c1, c2, c3, c4⟩, _, hz⟩ := h.box.facts
  have HC := Lib.hid (show g.acceptC ⟨xt, xa, tags⟩ n = 1 by unfold GateM.acceptC; rw [if_pos (.inr hn)])
  clear h ho hr hu hb hlen
  go_enter Tryz.func15, Tryz.ntmps15
  go_wp2_with fail
  go_ret
  exact ⟨by rw [HC.out]; rfl, HB.out⟩
theorem gateAcc_old (B R M : Nat) (v : Value) (g : GateM) (xt : Int) (xa : Bs) (tags : List Bs) (ua : Option Addr) (uc : Nat) (n : Int) (w : World) (h : GateAt w B R M v g g.aside) (ho : g.Ok) (hr : Ready w) (hx : xa.length ≤ 134217728) (hu : StrsV w (.slice ua tags.length uc) tags) (htl : tags.length ≤ 9223372036854775807) (hn0 : 0 ≤ n) (hn1 : n ≤ g.applied) (hn : n < g.floor) :
    Calls Tryz.prog 15 #[ptrV R, itV xt xa (.slice ua tags.length uc), .int .i64 n] w fun e w' => e = .returned (codeV (g.acceptC ⟨xt, xa, tags⟩ n)) ∧ Below w.heap.size w w' := by
  have hb := (Below.refl w.heap.size w).alloc (Nat.le_refl _) (.cells #[.int .i64 xt, .string ⟨xa.toArray⟩, .slice ua tags.length uc] 47)
  have HB := Lib.hid hb
  have hlen := ho.len
  have hlo := ho.lo
  have hhi := ho.hi
  have hroom := ho.room
  have hw2 := ho.win2
  have HSZ := Lib.hid ho.size
  have HG := Lib.hid (h.older hb)
  have HU := Lib.hid (hu.below hb)
  have HR := Lib.hid (hr.below hb)
  have HX := Lib.hid (box3_new w 47 (.int .i64 xt) (.string ⟨xa.toArray⟩) (.slice ua tags.length uc))
  obtain ⟨⟨c0, c1, c2, c3, c4⟩, _, hz⟩ := h.box.facts
  have HC := Lib.hid (show g.acceptC ⟨xt, xa, tags⟩ n = 18 by unfold GateM.acceptC; rw [if_neg (by omega), if_pos hn])
  clear h ho hr hu hb hlen
  go_enter Tryz.func15, Tryz.ntmps15
  go_wp2_with fail
  go_ret
  exact ⟨by rw [HC.out]; rfl, HB.out⟩
theorem gateAcc_nil (B R M : Nat) (g : GateM) (xt : Int) (xa : Bs) (tags : List Bs) (ua : Option Addr) (uc : Nat) (w : World) (h : GateAt w B R M (.slice none 0 0) g g.aside) (ho : g.Ok) (hr : Ready w) (hx : xa.length ≤ 134217728) (hu : StrsV w (.slice ua tags.length uc) tags) (htl : tags.length ≤ 9223372036854775807) (hk : g.kept = []) :
    Calls Tryz.prog 15 #[ptrV R, itV xt xa (.slice ua tags.length uc), .int .i64 (g.floor)] w fun e w' => e = .returned (codeV (g.acceptC ⟨xt, xa, tags⟩ (g.floor))) ∧ Below w.heap.size w w' := by
  have hb := (Below.refl w.heap.size w).alloc (Nat.le_refl _) (.cells #[.int .i64 xt, .string ⟨xa.toArray⟩, .slice ua tags.length uc] 47)
  have HB := Lib.hid hb
  have hlen := ho.len
  have hlo := ho.lo
  have hhi := ho.hi
  have hroom := ho.room
  have hw2 := ho.win2
  have HSZ := Lib.hid ho.size
  have HG := Lib.hid (h.older hb)
  have HU := Lib.hid (hu.below hb)
  have HR := Lib.hid (hr.below hb)
  have HX := Lib.hid (box3_new w 47 (.int .i64 xt) (.string ⟨xa.toArray⟩) (.slice ua tags.length uc))
  obtain ⟨⟨c0, c1, c2, c3, c4⟩, _, hz⟩ := h.box.facts
  obtain ⟨q, hq⟩ : ∃ q, (g.kept.drop 0).any (fun p => matchB p ⟨xt, xa, tags⟩) = q := ⟨_, rfl⟩
  have HQ := Lib.hid hq
  have HC := Lib.hid (show g.acceptC ⟨xt, xa, tags⟩ (g.floor) = if q then 18 else 0 by
    unfold GateM.acceptC
    rw [if_neg (by omega), if_neg (by omega), show (g.floor - g.floor).toNat = 0 by omega, hq])
  have hmf : ∀ (fn : Fn) (first cap : Array Value) (wx : World), (Instr.makeFunc fn first cap).run Tryz.prog wx = .ok (.func fn first cap) wx := fun _ _ _ _ => rfl
  have i1 : IntKind.i64.wrap (0) = 0 := IntWalk.i64_in _ (by omega)
  have i2 : IntKind.i64.wrap (g.floor - g.floor) = 0 := by rw [show g.floor - g.floor = 0 by omega]; exact IntWalk.i64_in _ (by omega)
  have hn0 : 0 ≤ g.floor := by omega
  have hn1 : g.floor ≤ g.applied := by omega
  have hd2 : ¬ g.floor < g.floor := by omega
  have hI0 : (0 : Int) ≤ 0 := by omega
  have hkl : g.kept.length ≤ 1000000 := by omega
  have HK := Lib.hid hk
  have hk0 : g.kept.length = 0 := by rw [hk]; rfl
  clear hk hk0
  clear h ho hr hu hb hlen hq
  cases q with
  | true =>
    go_enter Tryz.func15, Tryz.ntmps15
    go_wp2_with fail
    go_region_held3 (fun w' => w'.cell? ⟨R, 3, none⟩ = some (.slice none 0 0) ∧ w'.cell? ⟨R, 2, none⟩ = some (.int .i64 g.floor)) (first | go_keep | exact ⟨x3, x2⟩)
      ((go_at_call 31; refine (conFn w.heap.size (g.kept.drop 0) (.slice none 0 0) xt xa tags ua uc _ (.inl ⟨by rw [HK.out]; rfl, .inl rfl⟩) (by rw [List.length_drop]; omega) (fun p hp => HSZ.out p (List.mem_of_mem_drop hp)) HX.out.drew (HR.out.below (Below.refl _ _).drew) hx (HU.out.drewN 1) htl).mono ?_; rw [HQ.out]; rintro e w9 ⟨rfl, hb9⟩; obtain ⟨⟨x0, x1, x2, x3, x4⟩, _, _⟩ := (HG.out.box.older (Below.refl _ _).drew |>.older hb9).facts))
    all_goals
      go_wp2
      go_ret
      exact ⟨by rw [HC.out]; rfl, HB.out.drew.trans (hb9.mono HB.out.size)⟩
  | false =>
    go_enter Tryz.func15, Tryz.ntmps15
    go_wp2_with fail
    go_region_held3 (fun w' => w'.cell? ⟨R, 3, none⟩ = some (.slice none 0 0) ∧ w'.cell? ⟨R, 2, none⟩ = some (.int .i64 g.floor)) (first | go_keep | exact ⟨x3, x2⟩)
      ((go_at_call 31; refine (conFn w.heap.size (g.kept.drop 0) (.slice none 0 0) xt xa tags ua uc _ (.inl ⟨by rw [HK.out]; rfl, .inl rfl⟩) (by rw [List.length_drop]; omega) (fun p hp => HSZ.out p (List.mem_of_mem_drop hp)) HX.out.drew (HR.out.below (Below.refl _ _).drew) hx (HU.out.drewN 1) htl).mono ?_; rw [HQ.out]; rintro e w9 ⟨rfl, hb9⟩; obtain ⟨⟨x0, x1, x2, x3, x4⟩, _, _⟩ := (HG.out.box.older (Below.refl _ _).drew |>.older hb9).facts))
    all_goals
      go_wp2
      go_ret
      exact ⟨by rw [HC.out]; rfl, HB.out.drew.trans (hb9.mono HB.out.size)⟩
theorem gateAcc_mid (B R M b o c : Nat) (g : GateM) (xt : Int) (xa : Bs) (tags : List Bs) (ua : Option Addr) (uc : Nat) (j : Nat) (w : World) (h : GateAt w B R M (.slice (some ⟨b, o, none⟩) g.kept.length c) g g.aside) (ho : g.Ok) (hr : Ready w) (hx : xa.length ≤ 134217728) (hu : StrsV w (.slice ua tags.length uc) tags) (htl : tags.length ≤ 9223372036854775807) (hj : j ≤ g.kept.length) (hjc : j < c) (hcl : g.kept.length ≤ c) :
    Calls Tryz.prog 15 #[ptrV R, itV xt xa (.slice ua tags.length uc), .int .i64 ((j : Int) + g.floor)] w fun e w' => e = .returned (codeV (g.acceptC ⟨xt, xa, tags⟩ ((j : Int) + g.floor))) ∧ Below w.heap.size w w' := by
  have hb := (Below.refl w.heap.size w).alloc (Nat.le_refl _) (.cells #[.int .i64 xt, .string ⟨xa.toArray⟩, .slice ua tags.length uc] 47)
  have HB := Lib.hid hb
  have hlen := ho.len
  have hlo := ho.lo
  have hhi := ho.hi
  have hroom := ho.room
  have hw2 := ho.win2
  have HSZ := Lib.hid ho.size
  have HG := Lib.hid (h.older hb)
  have HU := Lib.hid (hu.below hb)
  have HR := Lib.hid (hr.below hb)
  have HX := Lib.hid (box3_new w 47 (.int .i64 xt) (.string ⟨xa.toArray⟩) (.slice ua tags.length uc))
  obtain ⟨⟨c0, c1, c2, c3, c4⟩, _, hz⟩ := h.box.facts
  obtain ⟨q, hq⟩ : ∃ q, (g.kept.drop j).any (fun p => matchB p ⟨xt, xa, tags⟩) = q := ⟨_, rfl⟩
  have HQ := Lib.hid hq
  have HC := Lib.hid (show g.acceptC ⟨xt, xa, tags⟩ ((j : Int) + g.floor) = if q then 18 else 0 by
    unfold GateM.acceptC
    rw [if_neg (by omega), if_neg (by omega), show ((j : Int) + g.floor - g.floor).toNat = j by omega, hq])
  have hmf : ∀ (fn : Fn) (first cap : Array Value) (wx : World), (Instr.makeFunc fn first cap).run Tryz.prog wx = .ok (.func fn first cap) wx := fun _ _ _ _ => rfl
  have i1 : IntKind.i64.wrap ((j : Int)) = (j : Int) := IntWalk.i64_in _ (by omega)
  have i2 : IntKind.i64.wrap ((j : Int) + g.floor - g.floor) = (j : Int) := by rw [show (j : Int) + g.floor - g.floor = (j : Int) by omega]; exact IntWalk.i64_in _ (by omega)
  have hn0 : 0 ≤ (j : Int) + g.floor := by omega
  have hn1 : (j : Int) + g.floor ≤ g.applied := by omega
  have hd2 : ¬ (j : Int) + g.floor < g.floor := by omega
  have hI0 : (0 : Int) ≤ (j : Int) := by omega
  have hkl : g.kept.length ≤ 1000000 := by omega
  have HSrc := Lib.hid (HG.out.own.drop (k := j) rfl hj hjc)
  rw [pvals_drop] at HSrc
  have hne : ¬ c = j := by omega
  have hI1 : (j : Int) ≤ (g.kept.length : Int) := by omega
  have hI2 : (g.kept.length : Int) ≤ (c : Int) := by omega
  have hI3 : (j : Int) ≤ (c : Int) := by omega
  clear h ho hr hu hb hlen hq
  cases q with
  | true =>
    go_enter Tryz.func15, Tryz.ntmps15
    go_wp2_with fail
    go_region_held3 (fun w' => w'.cell? ⟨R, 3, none⟩ = some (.slice (some ⟨b, o, none⟩) g.kept.length c) ∧ w'.cell? ⟨R, 2, none⟩ = some (.int .i64 g.floor)) (first | go_keep | exact ⟨x3, x2⟩)
      ((go_at_call 31; refine (conFn w.heap.size (g.kept.drop j) (.slice (some ⟨b, o + j * 3, none⟩) (g.kept.length - j) (c - j)) xt xa tags ua uc _ (rows_own (B := B) (e := 56) (by have h := HSrc.out.drew; rw [List.length_drop]; exact h)) (by rw [List.length_drop]; omega) (fun p hp => HSZ.out p (List.mem_of_mem_drop hp)) HX.out.drew (HR.out.below (Below.refl _ _).drew) hx (HU.out.drewN 1) htl).mono ?_; rw [HQ.out]; rintro e w9 ⟨rfl, hb9⟩; obtain ⟨⟨x0, x1, x2, x3, x4⟩, _, _⟩ := (HG.out.box.older (Below.refl _ _).drew |>.older hb9).facts))
    all_goals
      go_wp2
      go_ret
      exact ⟨by rw [HC.out]; rfl, HB.out.drew.trans (hb9.mono HB.out.size)⟩
  | false =>
    go_enter Tryz.func15, Tryz.ntmps15
    go_wp2_with fail
    go_region_held3 (fun w' => w'.cell? ⟨R, 3, none⟩ = some (.slice (some ⟨b, o, none⟩) g.kept.length c) ∧ w'.cell? ⟨R, 2, none⟩ = some (.int .i64 g.floor)) (first | go_keep | exact ⟨x3, x2⟩)
      ((go_at_call 31; refine (conFn w.heap.size (g.kept.drop j) (.slice (some ⟨b, o + j * 3, none⟩) (g.kept.length - j) (c - j)) xt xa tags ua uc _ (rows_own (B := B) (e := 56) (by have h := HSrc.out.drew; rw [List.length_drop]; exact h)) (by rw [List.length_drop]; omega) (fun p hp => HSZ.out p (List.mem_of_mem_drop hp)) HX.out.drew (HR.out.below (Below.refl _ _).drew) hx (HU.out.drewN 1) htl).mono ?_; rw [HQ.out]; rintro e w9 ⟨rfl, hb9⟩; obtain ⟨⟨x0, x1, x2, x3, x4⟩, _, _⟩ := (HG.out.box.older (Below.refl _ _).drew |>.older hb9).facts))
    all_goals
      go_wp2
      go_ret
      exact ⟨by rw [HC.out]; rfl, HB.out.drew.trans (hb9.mono HB.out.size)⟩
theorem gateAcc_all (B R M b o : Nat) (g : GateM) (xt : Int) (xa : Bs) (tags : List Bs) (ua : Option Addr) (uc : Nat) (w : World) (h : GateAt w B R M (.slice (some ⟨b, o, none⟩) g.kept.length g.kept.length) g g.aside) (ho : g.Ok) (hr : Ready w) (hx : xa.length ≤ 134217728) (hu : StrsV w (.slice ua tags.length uc) tags) (htl : tags.length ≤ 9223372036854775807) (hq0 : 0 < g.kept.length) :
    Calls Tryz.prog 15 #[ptrV R, itV xt xa (.slice ua tags.length uc), .int .i64 ((g.kept.length : Int) + g.floor)] w fun e w' => e = .returned (codeV (g.acceptC ⟨xt, xa, tags⟩ ((g.kept.length : Int) + g.floor))) ∧ Below w.heap.size w w' := by
  have hb := (Below.refl w.heap.size w).alloc (Nat.le_refl _) (.cells #[.int .i64 xt, .string ⟨xa.toArray⟩, .slice ua tags.length uc] 47)
  have HB := Lib.hid hb
  have hlen := ho.len
  have hlo := ho.lo
  have hhi := ho.hi
  have hroom := ho.room
  have hw2 := ho.win2
  have HSZ := Lib.hid ho.size
  have HG := Lib.hid (h.older hb)
  have HU := Lib.hid (hu.below hb)
  have HR := Lib.hid (hr.below hb)
  have HX := Lib.hid (box3_new w 47 (.int .i64 xt) (.string ⟨xa.toArray⟩) (.slice ua tags.length uc))
  obtain ⟨⟨c0, c1, c2, c3, c4⟩, _, hz⟩ := h.box.facts
  obtain ⟨q, hq⟩ : ∃ q, (g.kept.drop g.kept.length).any (fun p => matchB p ⟨xt, xa, tags⟩) = q := ⟨_, rfl⟩
  have HQ := Lib.hid hq
  have HC := Lib.hid (show g.acceptC ⟨xt, xa, tags⟩ ((g.kept.length : Int) + g.floor) = if q then 18 else 0 by
    unfold GateM.acceptC
    rw [if_neg (by omega), if_neg (by omega), show ((g.kept.length : Int) + g.floor - g.floor).toNat = g.kept.length by omega, hq])
  have hmf : ∀ (fn : Fn) (first cap : Array Value) (wx : World), (Instr.makeFunc fn first cap).run Tryz.prog wx = .ok (.func fn first cap) wx := fun _ _ _ _ => rfl
  have i1 : IntKind.i64.wrap ((g.kept.length : Int)) = (g.kept.length : Int) := IntWalk.i64_in _ (by omega)
  have i2 : IntKind.i64.wrap ((g.kept.length : Int) + g.floor - g.floor) = (g.kept.length : Int) := by rw [show (g.kept.length : Int) + g.floor - g.floor = (g.kept.length : Int) by omega]; exact IntWalk.i64_in _ (by omega)
  have hn0 : 0 ≤ (g.kept.length : Int) + g.floor := by omega
  have hn1 : (g.kept.length : Int) + g.floor ≤ g.applied := by omega
  have hd2 : ¬ (g.kept.length : Int) + g.floor < g.floor := by omega
  have hI0 : (0 : Int) ≤ (g.kept.length : Int) := by omega
  have hkl : g.kept.length ≤ 1000000 := by omega
  have HD := Lib.hid (show g.kept.drop g.kept.length = [] by simp)
  have hI1 : (g.kept.length : Int) ≤ (g.kept.length : Int) := Int.le_refl _
  clear h ho hr hu hb hlen hq
  cases q with
  | true =>
    go_enter Tryz.func15, Tryz.ntmps15
    go_wp2_with fail
    go_region_held3 (fun w' => w'.cell? ⟨R, 3, none⟩ = some (.slice (some ⟨b, o, none⟩) g.kept.length g.kept.length) ∧ w'.cell? ⟨R, 2, none⟩ = some (.int .i64 g.floor)) (first | go_keep | exact ⟨x3, x2⟩)
      ((go_at_call 31; refine (conFn w.heap.size (g.kept.drop g.kept.length) (.slice (some ⟨b, o, none⟩) 0 0) xt xa tags ua uc _ (.inl ⟨HD.out, .inr ⟨_, _, rfl⟩⟩) (by rw [List.length_drop]; omega) (fun p hp => HSZ.out p (List.mem_of_mem_drop hp)) HX.out.drew (HR.out.below (Below.refl _ _).drew) hx (HU.out.drewN 1) htl).mono ?_; rw [HQ.out]; rintro e w9 ⟨rfl, hb9⟩; obtain ⟨⟨x0, x1, x2, x3, x4⟩, _, _⟩ := (HG.out.box.older (Below.refl _ _).drew |>.older hb9).facts))
    all_goals
      go_wp2
      go_ret
      exact ⟨by rw [HC.out]; rfl, HB.out.drew.trans (hb9.mono HB.out.size)⟩
  | false =>
    go_enter Tryz.func15, Tryz.ntmps15
    go_wp2_with fail
    go_region_held3 (fun w' => w'.cell? ⟨R, 3, none⟩ = some (.slice (some ⟨b, o, none⟩) g.kept.length g.kept.length) ∧ w'.cell? ⟨R, 2, none⟩ = some (.int .i64 g.floor)) (first | go_keep | exact ⟨x3, x2⟩)
      ((go_at_call 31; refine (conFn w.heap.size (g.kept.drop g.kept.length) (.slice (some ⟨b, o, none⟩) 0 0) xt xa tags ua uc _ (.inl ⟨HD.out, .inr ⟨_, _, rfl⟩⟩) (by rw [List.length_drop]; omega) (fun p hp => HSZ.out p (List.mem_of_mem_drop hp)) HX.out.drew (HR.out.below (Below.refl _ _).drew) hx (HU.out.drewN 1) htl).mono ?_; rw [HQ.out]; rintro e w9 ⟨rfl, hb9⟩; obtain ⟨⟨x0, x1, x2, x3, x4⟩, _, _⟩ := (HG.out.box.older (Below.refl _ _).drew |>.older hb9).facts))
    all_goals
      go_wp2
      go_ret
      exact ⟨by rw [HC.out]; rfl, HB.out.drew.trans (hb9.mono HB.out.size)⟩
theorem gateAcc_emp (B R M b o : Nat) (g : GateM) (xt : Int) (xa : Bs) (tags : List Bs) (ua : Option Addr) (uc : Nat) (w : World) (h : GateAt w B R M (.slice (some ⟨b, o, none⟩) 0 0) g g.aside) (ho : g.Ok) (hr : Ready w) (hx : xa.length ≤ 134217728) (hu : StrsV w (.slice ua tags.length uc) tags) (htl : tags.length ≤ 9223372036854775807) (hk : g.kept = []) :
    Calls Tryz.prog 15 #[ptrV R, itV xt xa (.slice ua tags.length uc), .int .i64 (g.floor)] w fun e w' => e = .returned (codeV (g.acceptC ⟨xt, xa, tags⟩ (g.floor))) ∧ Below w.heap.size w w' := by
  have hb := (Below.refl w.heap.size w).alloc (Nat.le_refl _) (.cells #[.int .i64 xt, .string ⟨xa.toArray⟩, .slice ua tags.length uc] 47)
  have HB := Lib.hid hb
  have hlen := ho.len
  have hlo := ho.lo
  have hhi := ho.hi
  have hroom := ho.room
  have hw2 := ho.win2
  have HSZ := Lib.hid ho.size
  have HG := Lib.hid (h.older hb)
  have HU := Lib.hid (hu.below hb)
  have HR := Lib.hid (hr.below hb)
  have HX := Lib.hid (box3_new w 47 (.int .i64 xt) (.string ⟨xa.toArray⟩) (.slice ua tags.length uc))
  obtain ⟨⟨c0, c1, c2, c3, c4⟩, _, hz⟩ := h.box.facts
  obtain ⟨q, hq⟩ : ∃ q, (g.kept.drop 0).any (fun p => matchB p ⟨xt, xa, tags⟩) = q := ⟨_, rfl⟩
  have HQ := Lib.hid hq
  have HC := Lib.hid (show g.acceptC ⟨xt, xa, tags⟩ (g.floor) = if q then 18 else 0 by
    unfold GateM.acceptC
    rw [if_neg (by omega), if_neg (by omega), show (g.floor - g.floor).toNat = 0 by omega, hq])
  have hmf : ∀ (fn : Fn) (first cap : Array Value) (wx : World), (Instr.makeFunc fn first cap).run Tryz.prog wx = .ok (.func fn first cap) wx := fun _ _ _ _ => rfl
  have i1 : IntKind.i64.wrap (0) = 0 := IntWalk.i64_in _ (by omega)
  have i2 : IntKind.i64.wrap (g.floor - g.floor) = 0 := by rw [show g.floor - g.floor = 0 by omega]; exact IntWalk.i64_in _ (by omega)
  have hn0 : 0 ≤ g.floor := by omega
  have hn1 : g.floor ≤ g.applied := by omega
  have hd2 : ¬ g.floor < g.floor := by omega
  have hI0 : (0 : Int) ≤ 0 := by omega
  have hkl : g.kept.length ≤ 1000000 := by omega
  have HK := Lib.hid hk
  have hk0 : g.kept.length = 0 := by rw [hk]; rfl
  clear hk hk0
  clear h ho hr hu hb hlen hq
  cases q with
  | true =>
    go_enter Tryz.func15, Tryz.ntmps15
    go_wp2_with fail
    go_region_held3 (fun w' => w'.cell? ⟨R, 3, none⟩ = some (.slice (some ⟨b, o, none⟩) 0 0) ∧ w'.cell? ⟨R, 2, none⟩ = some (.int .i64 g.floor)) (first | go_keep | exact ⟨x3, x2⟩)
      ((go_at_call 31; refine (conFn w.heap.size (g.kept.drop 0) (.slice (some ⟨b, o, none⟩) 0 0) xt xa tags ua uc _ (.inl ⟨by rw [HK.out]; rfl, .inr ⟨_, _, rfl⟩⟩) (by rw [List.length_drop]; omega) (fun p hp => HSZ.out p (List.mem_of_mem_drop hp)) HX.out.drew (HR.out.below (Below.refl _ _).drew) hx (HU.out.drewN 1) htl).mono ?_; rw [HQ.out]; rintro e w9 ⟨rfl, hb9⟩; obtain ⟨⟨x0, x1, x2, x3, x4⟩, _, _⟩ := (HG.out.box.older (Below.refl _ _).drew |>.older hb9).facts))
    all_goals
      go_wp2
      go_ret
      exact ⟨by rw [HC.out]; rfl, HB.out.drew.trans (hb9.mono HB.out.size)⟩
  | false =>
    go_enter Tryz.func15, Tryz.ntmps15
    go_wp2_with fail
    go_region_held3 (fun w' => w'.cell? ⟨R, 3, none⟩ = some (.slice (some ⟨b, o, none⟩) 0 0) ∧ w'.cell? ⟨R, 2, none⟩ = some (.int .i64 g.floor)) (first | go_keep | exact ⟨x3, x2⟩)
      ((go_at_call 31; refine (conFn w.heap.size (g.kept.drop 0) (.slice (some ⟨b, o, none⟩) 0 0) xt xa tags ua uc _ (.inl ⟨by rw [HK.out]; rfl, .inr ⟨_, _, rfl⟩⟩) (by rw [List.length_drop]; omega) (fun p hp => HSZ.out p (List.mem_of_mem_drop hp)) HX.out.drew (HR.out.below (Below.refl _ _).drew) hx (HU.out.drewN 1) htl).mono ?_; rw [HQ.out]; rintro e w9 ⟨rfl, hb9⟩; obtain ⟨⟨x0, x1, x2, x3, x4⟩, _, _⟩ := (HG.out.box.older (Below.refl _ _).drew |>.older hb9).facts))
    all_goals
      go_wp2
      go_ret
      exact ⟨by rw [HC.out]; rfl, HB.out.drew.trans (hb9.mono HB.out.size)⟩
theorem gateAccept (B R M : Nat) (v : Value) (g : GateM) (xt : Int) (xa : Bs) (tags : List Bs) (u : Value) (n : Int) (w : World) (h : GateAt w B R M v g g.aside) (ho : g.Ok) (hr : Ready w) (hx : xa.length ≤ 134217728) (hu : StrsV w u tags) (htl : tags.length ≤ 9223372036854775807) :
    Calls Tryz.prog 15 #[ptrV R, itV xt xa u, .int .i64 n] w fun e w' => e = .returned (codeV (g.acceptC ⟨xt, xa, tags⟩ n)) ∧ Below w.heap.size w w' := by
  obtain ⟨ua, uc, rfl⟩ := hu.form
  by_cases h0 : n < 0
  · exact gateAcc_neg B R M v g xt xa tags ua uc n w h ho hr hx hu htl h0
  by_cases h1 : g.applied < n
  · exact gateAcc_big B R M v g xt xa tags ua uc n w h ho hr hx hu htl (by omega) h1
  by_cases h2 : n < g.floor
  · exact gateAcc_old B R M v g xt xa tags ua uc n w h ho hr hx hu htl (by omega) (by omega) h2
  have hl := ho.len
  obtain ⟨j, rfl⟩ : ∃ j : Nat, n = (j : Int) + g.floor := ⟨(n - g.floor).toNat, by omega⟩
  rcases h.own.2 with ⟨rfl, h3⟩ | ⟨b, o, c, cur, rfl, _, _, hc, _⟩
  · have hj : j = 0 := by omega
    subst hj
    have e : ((0 : Nat) : Int) + g.floor = g.floor := by omega
    rw [e]
    exact gateAcc_nil B R M g xt xa tags ua uc w h ho hr hx hu htl (List.eq_nil_of_length_eq_zero h3)
  · by_cases hjc : j < c
    · exact gateAcc_mid B R M b o c g xt xa tags ua uc j w h ho hr hx hu htl (by omega) hjc hc
    · have hc2 : c = g.kept.length := by omega
      have hj : j = g.kept.length := by omega
      subst hc2 hj
      rcases Nat.eq_zero_or_pos g.kept.length with h4 | h4
      · have hk := List.eq_nil_of_length_eq_zero h4
        have e : ((g.kept.length : Nat) : Int) + g.floor = g.floor := by omega
        rw [e]
        rw [h4] at h
        exact gateAcc_emp B R M b o g xt xa tags ua uc w h ho hr hx hu htl hk
      · exact gateAcc_all B R M b o g xt xa tags ua uc w h ho hr hx hu htl h4
end A1
end Go.Proofs.YtnppicekfjdefaaGreatDoor
