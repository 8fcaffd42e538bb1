/- Contracts and plain facts that the statement's proof leans on (texts joined). No condition beyond those that each names. -/
import Derived.Test.YtpkhbhdidkkebaaGreatDoorPvP
section
namespace Go.Proofs.YtpkhbhdidkkebaaGreatDoor
open Go.RowKit Pl Ad
attribute [local go_sem] ba_get ba_append ba_extract_end ba_extract_zero ba_extract
set_option maxRecDepth 100000
set_option maxHeartbeats 4000000
set_option linter.unusedVariables false
set_option linter.unusedSimpArgs false
namespace Kr
theorem add_ord (B R : Nat) (t : Int) (id sec : Bs) (frm til : Int) (sa : Option Addr) (sc : Nat) (V : Nat → Value) (E : Nat → List Ent) (w : World) (h : RingAt w B R V E) (hi : id.length ≤ 2147483648) (hl : (tlK E t).length ≤ 1000000) (hn : idOk id = true) (hg : rngK t ⟨id, sec, frm, til, 0⟩ = false) (ho : til ≤ frm) :
 Calls Tryz.prog 24 #[ptrK R, .int .i64 t, keyV id (.slice sa sec.length sc) frm til] w fun e w' => e = .returned (.iface 43 (.int .i64 7)) ∧ Below w.heap.size w w' := by
 have HID := Lib.hid hn
 obtain ⟨h0, h1, h2, h3, h4, h5⟩ := rngK_iff.1 hg
 simp only at h2 h3 h4 h5
 have h2' : ¬ (sec.length : Int) < 16 := by omega
 have h3' : ¬ 64 < (sec.length : Int) := by omega
 have h0' : ¬ t < 0 := by omega
 have h1' : ¬ 16 ≤ t := by omega
 have h4' : (frm != clipK frm) = false := by simp [bne, ← h4]
 have h5' : (til != clipK til) = false := by simp [bne, ← h5]
 clear h4 h5 hg hn
 clear h
 go_enter Tryz.func24, Tryz.ntmps24
 go_wp2_with (go_at_call 64; refine (named_any id _ hi).mono ?_; rw [HID.out]; rintro e w9 ⟨rfl, rfl⟩)
 go_quiet ((go_at_call 41; exact quiet_eq (clip_any _ _)))
 go_wp2
 go_ret
 exact ⟨rfl, below_drewN ((Below.refl _ _).alloc (Nat.le_refl _) _) _⟩
theorem add_has (B R : Nat) (t : Int) (id sec : Bs) (frm til : Int) (sa : Option Addr) (sc : Nat) (V : Nat → Value) (E : Nat → List Ent) (w : World) (h : RingAt w B R V E) (hi : id.length ≤ 2147483648) (hl : (tlK E t).length ≤ 1000000) (hn : idOk id = true) (hg : rngK t ⟨id, sec, frm, til, 0⟩ = false) (ho : ¬ til ≤ frm) (hx : hasId (keysOf E t) id = true) :
 Calls Tryz.prog 24 #[ptrK R, .int .i64 t, keyV id (.slice sa sec.length sc) frm til] w fun e w' => e = .returned (.iface 43 (.int .i64 4)) ∧ Below w.heap.size w w' := by
 have HID := Lib.hid hn
 obtain ⟨h0, h1, h2, h3, h4, h5⟩ := rngK_iff.1 hg
 simp only at h2 h3 h4 h5
 have h2' : ¬ (sec.length : Int) < 16 := by omega
 have h3' : ¬ 64 < (sec.length : Int) := by omega
 have h0' : ¬ t < 0 := by omega
 have h1' : ¬ 16 ≤ t := by omega
 have h4' : (frm != clipK frm) = false := by simp [bne, ← h4]
 have h5' : (til != clipK til) = false := by simp [bne, ← h5]
 clear h4 h5 hg hn
 have HR := Lib.hid (h.older ((Below.refl _ _).alloc (Nat.le_refl _) (.cells #[.string ⟨id.toArray⟩, .slice sa sec.length sc, .int .i64 frm, .int .i64 til] 74)))
 obtain ⟨x, hf⟩ : ∃ x, findE (tlK E t) id = some x := by
  unfold keysOf at hx
  rw [hasId_find] at hx
  exact Option.isSome_iff_exists.1 hx
 have HF := Lib.hid hf
 clear h hx hf
 go_enter Tryz.func24, Tryz.ntmps24
 go_wp2_with (go_at_call 64; refine (named_any id _ hi).mono ?_; rw [HID.out]; rintro e w9 ⟨rfl, rfl⟩)
 go_quiet ((go_at_call 41; exact quiet_eq (clip_any _ _)))
 go_wp2_with (go_at_call 40; refine (find_any B R t id V E _ (HR.out.older (below_drewN (Below.refl _ _) _)) hl).mono ?_; rw [HF.out, ptrE_some]; rintro e w9 ⟨rfl, rfl⟩)
 go_ret
 exact ⟨rfl, below_drewN ((Below.refl _ _).alloc (Nat.le_refl _) _) _⟩
end Kr
end Go.Proofs.YtpkhbhdidkkebaaGreatDoor
end

section
namespace Go.Proofs.YtpkhbhdidkkebaaGreatDoor
open Go.RowKit Pl Ad
attribute [local go_sem] ba_get ba_append ba_extract_end ba_extract_zero ba_extract
set_option maxRecDepth 100000
set_option maxHeartbeats 4000000
set_option linter.unusedVariables false
set_option linter.unusedSimpArgs false
namespace Kr
theorem tyPtrs : SliceTy Tryz.prog 99 103 1 8 :=
 ⟨Tryz.underlying99, by
  obtain ⟨i, h1, h2, h3, h4⟩ := info_parts (show (Tryz.prog.info? 103).map (fun i => (i.zero, i.size, i.bytes)) = some (some (.pointer none), 1, 8) by kernel_rfl)
  exact ⟨i, _, h1, h2, h3, h4, rfl⟩, by decide, by decide⟩
/-- A key more: the entry's variable and the slice are there, the slice is laid into the ring. -/
theorem ring_added {w w2 : World} {B R n : Nat} {V : Nat → Value} {E : Nat → List Ent} {x : Ent} {v' : Value} (h : RingAt w B R V E) (hn : n < 16) (hB : B ≤ w.heap.size)
    (hx : EntAt w B x) (hfresh : ∀ t, t < 16 → ∀ e ∈ E t, ¬ e.blk = x.blk)
    (hown : OwnWin w2 B 103 1 v' ((E n).length + 1) ((E n).map Ent.ptr ++ [x.ptr])) (hg : w.grownBy w2 (V n).ownBlock) (hl : v'.ownBlock = (V n).ownBlock ∨ v'.ownBlock = some w.heap.size) :
    RingAt (w2.setCell ⟨R, n, none⟩ v') B R (updT V n v') (updT E n (E n ++ [x])) := by
 have htg : Touch (fun k => (V n).ownBlock = some k) w w2 := Touch.of_grown hg (fun k hk => hk)
 have hts := touch_set1 w2 R n v'
 obtain ⟨C, hC, hCs, hCv⟩ := h.box
 have hC2 : Bx w2 R 102 C := hC.touch htg (fun e => hC.neOwn (h.own n hn) (by decide) R e rfl)
 have hent : ∀ e, EntAt w B e → EntAt (w2.setCell ⟨R, n, none⟩ v') B e := fun e he => by
  refine ⟨he.hb, ?_, ?_⟩
  ·have h1 : Bx w2 e.blk 106 e.cells := he.box.touch htg (fun hq => he.box.neOwn (h.own n hn) (by decide) _ hq rfl)
   exact h1.touch hts (fun hq => h1.ne hC2 (by decide) hq)
  ·have h1 := he.sec.touch htg (fun k hk hq => own_neOwn he.sec (h.own n hn) (by decide) k hk hq)
   exact h1.touch hts (fun k hk hq => hC2.neOwn h1 (by decide) k hk hq)
 have hown2 : OwnWin (w2.setCell ⟨R, n, none⟩ v') B 103 1 v' ((E n).length + 1) ((E n).map Ent.ptr ++ [x.ptr]) := hown.touch hts (fun k hk hq => hC2.neOwn hown (by decide) k hk hq)
 refine ⟨h.hR, ⟨_, hC2.set n v', by simpa using hCs, fun t ht => ?_⟩, fun t ht => ?_, fun t s q ht hs hq hq' => ?_, fun t ht e he => ?_, fun t s i j a b ht hs ha hb hab => ?_⟩
 ·by_cases e : t = n
  ·subst e; rw [updT_same]; simp [hCs, ht]
  ·rw [updT_other V v' e, Array.getElem?_setIfInBounds_ne (fun e' => e e'.symm)]; exact hCv t ht
 ·by_cases e : t = n
  ·subst e; rw [updT_same, updT_same]; simpa using hown2
  ·rw [updT_other V v' e, updT_other E _ e]
   have h1 := (h.own t ht).touch htg (fun k hk hq => e (h.sepV t n k ht hn hk hq))
   exact h1.touch hts (fun k hk hq => hC2.neOwn h1 (by decide) k hk hq)
 ·by_cases e : t = n <;> by_cases e' : s = n
  ·rw [e, e']
  ·subst e
   rw [updT_same] at hq
   rw [updT_other V v' e'] at hq'
   rcases hl with hl | hl
   ·exact h.sepV t s q ht hs (hl ▸ hq) hq'
   ·rw [hl] at hq; cases hq
    have := ((h.own s hs).lt _ hq').2; omega
  ·subst e'
   rw [updT_same] at hq'
   rw [updT_other V v' e] at hq
   rcases hl with hl | hl
   ·exact h.sepV t s q ht hs hq (hl ▸ hq')
   ·rw [hl] at hq'; cases hq'
    have := ((h.own t ht).lt _ hq).2; omega
  ·rw [updT_other V v' e] at hq
   rw [updT_other V v' e'] at hq'
   exact h.sepV t s q ht hs hq hq'
 ·by_cases e' : t = n
  ·subst e'
   rw [updT_same] at he
   rcases List.mem_append.1 he with he | he
   ·exact hent e (h.ent t ht e he)
   ·rw [List.mem_singleton.1 he]; exact hent x hx
  ·rw [updT_other E _ e'] at he
   exact hent e (h.ent t ht e he)
 ·have key : ∀ (t i : Nat) (a : Ent), t < 16 → (updT E n (E n ++ [x]) t)[i]? = some a → ((E t)[i]? = some a) ∨ (t = n ∧ i = (E n).length ∧ a = x) := fun t i a ht ha => by
   by_cases e : t = n
   ·subst e
    rw [updT_same] at ha
    by_cases hi : i < (E t).length
    ·rw [List.getElem?_append_left hi] at ha; exact .inl ha
    ·rw [List.getElem?_append_right (by omega)] at ha
     have hi2 := (List.getElem?_eq_some_iff.1 ha).1
     have : i = (E t).length := by simp at hi2; omega
     subst this
     simp at ha
     exact .inr ⟨rfl, rfl, ha.symm⟩
   ·rw [updT_other E _ e] at ha; exact .inl ha
  rcases key t i a ht ha with h1 | ⟨rfl, rfl, rfl⟩ <;> rcases key s j b hs hb with h2 | ⟨h2, h2', h2''⟩
  ·exact h.sepE t s i j a b ht hs h1 h2 hab
  ·subst h2''
   exact absurd hab (hfresh t ht a (List.mem_of_getElem? h1))
  ·exact absurd hab.symm (hfresh s hs b (List.mem_of_getElem? h2))
  ·exact ⟨h2.symm, h2'.symm⟩
theorem RingAt.grownBox {w w2 : World} {B R n : Nat} {V : Nat → Value} {E : Nat → List Ent} (h : RingAt w B R V E) (hn : n < 16) (hg : w.grownBy w2 (V n).ownBlock) : w2.cell? ⟨R, n, none⟩ = some (V n) ∧ w2.frozen? ⟨R, n, none⟩ = false ∧ R < w2.heap.size := by
 obtain ⟨C, hC, _, hCv⟩ := h.box
 have htg : Touch (fun k => (V n).ownBlock = some k) w w2 := Touch.of_grown hg (fun k hk => hk)
 have hC2 : Bx w2 R 102 C := hC.touch htg (fun e => hC.neOwn (h.own n hn) (by decide) R e rfl)
 exact ⟨hC2.cell (hCv n hn), hC2.frz n, hC2.lt⟩
theorem RGoes.added {w w1 w2 : World} {B R n : Nat} {V : Nat → Value} {E : Nat → List Ent} {x : Ent} {v' : Value} (hb : Below w.heap.size w w1) (h : RingAt w B R V E) (hn : n < 16) (hx : w.heap.size ≤ x.blk)
    (hg : w1.grownBy w2 (V n).ownBlock) (hl : v'.ownBlock = (V n).ownBlock ∨ v'.ownBlock = some w1.heap.size) : RGoes w (w2.setCell ⟨R, n, none⟩ v') R V (updT V n v') E (updT E n (E n ++ [x])) := by
 refine ⟨((Touch.of_below hb (Nat.le_refl _)).trans' (Touch.of_grown (S := fun k => (V n).ownBlock = some k) hg (fun k hk => hk)) (fun i _ hi => .inr ⟨n, hn, .inl hi⟩)).setCell (.inl rfl) v', fun q hq => ?_⟩
 rcases hq with rfl | ⟨t, ht, hq | ⟨e, he, rfl⟩⟩
 ·exact .inl (.inl rfl)
 ·by_cases e : t = n
  ·subst e
   rw [updT_same] at hq
   rcases hl with hl | hl
   ·exact .inl (.inr ⟨t, ht, .inl (hl ▸ hq)⟩)
   ·rw [hl] at hq; cases hq
    exact .inr hb.size
  ·rw [updT_other V v' e] at hq
   exact .inl (.inr ⟨t, ht, .inl hq⟩)
 ·by_cases e' : t = n
  ·subst e'
   rw [updT_same] at he
   rcases List.mem_append.1 he with he | he
   ·exact .inl (.inr ⟨t, ht, .inr ⟨e, he, rfl⟩⟩)
   ·rw [List.mem_singleton.1 he]; exact .inr hx
  ·rw [updT_other E _ e'] at he
   exact .inl (.inr ⟨t, ht, .inr ⟨e, he, rfl⟩⟩)
theorem add_ok (B R n : Nat) (id sec : Bs) (frm til : Int) (sa : Option Addr) (sc : Nat) (V : Nat → Value) (E : Nat → List Ent) (w : World) (h : RingAt w B R V E) (hB : B ≤ w.heap.size) (hi : id.length ≤ 2147483648) (hl : (E n).length ≤ 1000000) (hn : idOk id = true) (hg : rngK n ⟨id, sec, frm, til, 0⟩ = false)
    (ho : ¬ til ≤ frm) (hx : hasId ((E n).map Ent.key) id = false) (hsec : SrcAt w (.slice sa sec.length sc) sec.length (bvals sec)) :
    Calls Tryz.prog 24 #[ptrK R, .int .i64 n, keyV id (.slice sa sec.length sc) frm til] w fun e w' => ∃ (v' : Value) (x : Ent), e = .returned .nilIface ∧ x.key = ⟨id, sec, frm, til, 1099511627777⟩ ∧ RingAt w' B R (updT V n v') (updT E n (E n ++ [x])) ∧ RGoes w w' R V (updT V n v') E (updT E n (E n ++ [x])) ∧ ∀ q, x.sv.ownBlock = some q → w.heap.size ≤ q := by
 have HID := Lib.hid hn
 obtain ⟨h0, h1, h2, h3, h4, h5⟩ := rngK_iff.1 hg
 simp only at h2 h3 h4 h5
 have hn16 : n < 16 := by omega
 have h2' : ¬ (sec.length : Int) < 16 := by omega
 have h3' : ¬ 64 < (sec.length : Int) := by omega
 have h0' : ¬ (n : Int) < 0 := by omega
 have h1' : ¬ 16 ≤ (n : Int) := by omega
 have h4' : (frm != clipK frm) = false := by simp [bne, ← h4]
 have h5' : (til != clipK til) = false := by simp [bne, ← h5]
 have HF : Hid (findE (tlK E n) id = none) := Lib.hid (by
  rw [tlK_nat E hn16]
  rw [hasId_find] at hx
  cases he : findE (E n) id with
  | none => rfl
  | some e => rw [he] at hx; cases hx)
 have hb0 := (Below.refl w.heap.size w).alloc (Nat.le_refl _) (.cells #[.string ⟨id.toArray⟩, .slice sa sec.length sc, .int .i64 frm, .int .i64 til] 74)
 have HB := Lib.hid hb0
 have HX := Lib.hid (Bx.new w 74 #[.string ⟨id.toArray⟩, .slice sa sec.length sc, .int .i64 frm, .int .i64 til])
 have HR := Lib.hid (h.older hb0)
 have HRW := Lib.hid h
 have HS := Lib.hid (hsec.older hb0)
 clear h4 h5 hg hn h hb0 hx hsec
 go_enter Tryz.func24, Tryz.ntmps24
 go_wp2_with (go_at_call 64; refine (named_any id _ hi).mono ?_; rw [HID.out]; rintro e w9 ⟨rfl, rfl⟩)
 go_quiet ((go_at_call 41; exact quiet_eq (clip_any _ _)))
 generalize hwA : (w.alloc (.cells #[.string ⟨id.toArray⟩, .slice sa sec.length sc, .int .i64 frm, .int .i64 til] 74)).drewN nq = wA
 have hd : Below (w.alloc (.cells #[.string ⟨id.toArray⟩, .slice sa sec.length sc, .int .i64 frm, .int .i64 til] 74)).heap.size (w.alloc (.cells #[.string ⟨id.toArray⟩, .slice sa sec.length sc, .int .i64 frm, .int .i64 til] 74)) wA := by rw [← hwA]; exact below_drewN (Below.refl _ _) _
 have HBA := Lib.hid (HB.out.trans (hd.mono HB.out.size))
 have HXA := Lib.hid (HX.out.older hd)
 have HRA := Lib.hid (HR.out.older hd)
 have HSA := Lib.hid (HS.out.older hd)
 clear hd hwA HR HS HX HB
 have c0 := HXA.out.cell (i := 0) rfl
 have c1 := HXA.out.cell (i := 1) rfl
 have c2 := HXA.out.cell (i := 2) rfl
 have c3 := HXA.out.cell (i := 3) rfl
 go_wp2_with (first | (go_at_call 40; refine (find_any B R n id V E _ HRA.out (by rw [tlK_nat E hn16]; exact hl)).mono ?_; rw [HF.out, ptrE_none]; rintro e w9 ⟨rfl, rfl⟩) | (go_at_call 52; refine (cloneB_any _ sec _ HSA.out (by omega)).mono ?_; rintro e w2 ⟨u, rfl, hu, hb2⟩; obtain ⟨ua, uc, rfl, _⟩ := hu.form; have HX2 := Lib.hid (HXA.out.older hb2); have HB2 := Lib.hid (HBA.out.trans (hb2.mono HBA.out.size)); have HR2 := Lib.hid (HRA.out.older hb2); have HU := Lib.hid hu; have HZ := Lib.hid hb2.size; have f1 := HX2.out.frz 1; have e1 := HX2.out.cell (i := 1) rfl; clear hu hb2 c0 c1 c2 c3))
 have hcell : ∃ C, Bx w2 R 102 C ∧ C.size = 16 ∧ ∀ t, t < 16 → C[t]? = some (V t) := HR2.out.box
 have HR3 := Lib.hid (HR2.out.setF HX2.out (by decide) (by decide) (by decide) (by decide) 1 (.slice ua sec.length uc))
 have HX3 := Lib.hid (HX2.out.set 1 (.slice ua sec.length uc))
 have HB3 := Lib.hid (HB2.out.setCell (p := ⟨w.heap.size, 1, none⟩) (Nat.le_refl _) (.slice ua sec.length uc))
 have HU3 := Lib.hid (HU.out.touch (touch_set1 w2 w.heap.size 1 (.slice ua sec.length uc)) (fun k hk e => HX2.out.neOwn HU.out (by decide) k hk e))
 have hz3 : (w2.setCell ⟨w.heap.size, 1, none⟩ (.slice ua sec.length uc)).heap.size = w2.heap.size := by simp
 have HZ3 := Lib.hid hz3
 generalize w2.setCell ⟨w.heap.size, 1, none⟩ (.slice ua sec.length uc) = w3 at HR3 HX3 HB3 HU3 HZ3 ⊢
 have d0 := HX3.out.cell (i := 0) rfl
 have d1 := HX3.out.cell (i := 1) rfl
 have d2 := HX3.out.cell (i := 2) rfl
 have d3 := HX3.out.cell (i := 3) rfl
 clear hcell hz3 f1 e1
 obtain ⟨C3, hC3, _, hv3⟩ := HR3.out.box
 have r0 := hC3.cell (hv3 n hn16)
 have hz := hC3.lt
 obtain ⟨va, vc, hvn, _⟩ := (HR3.out.own n hn16).form
 have HVN := Lib.hid hvn
 rw [hvn] at r0
 clear hC3 hv3 hvn
 have ha1 := (Below.refl w3.heap.size w3).alloc (Nat.le_refl _) (.cells #[.string ⟨id.toArray⟩, .slice ua sec.length uc, .int .i64 frm, .int .i64 til, .int .i64 1099511627777] 106)
 have ha2 := (ha1.alloc (by simp) (.cells #[ptrK w3.heap.size] 103)).drew
 have HA2 := Lib.hid ha2
 have HRN := Lib.hid (HR3.out.older ha2)
 have HON := Lib.hid (show OwnWin _ B 103 1 (.slice va (E n).length vc) (E n).length ((E n).map Ent.ptr) by rw [← HVN.out]; exact HRN.out.own n hn16)
 have HSRC := Lib.hid (show SrcAt _ (.slice (some ⟨w3.heap.size + 1, 0, none⟩) 1 1) 1 [ptrK w3.heap.size] from SrcAt.one (g := w3.heap.size + 1) (c := 1) (w := ((w3.alloc (.cells #[.string ⟨id.toArray⟩, .slice ua sec.length uc, .int .i64 frm, .int .i64 til, .int .i64 1099511627777] 106)).alloc (.cells #[ptrK w3.heap.size] 103)).drew) (by
  have h9 := heap_alloc_new (w3.alloc (.cells #[.string ⟨id.toArray⟩, .slice ua sec.length uc, .int .i64 frm, .int .i64 til, .int .i64 1099511627777] 106)) (.cells #[ptrK w3.heap.size] 103)
  rw [show (w3.alloc (.cells #[.string ⟨id.toArray⟩, .slice ua sec.length uc, .int .i64 frm, .int .i64 til, .int .i64 1099511627777] 106)).heap.size = w3.heap.size + 1 by simp] at h9
  exact h9))
 have HBZ := Lib.hid (show B ≤ ((w3.alloc (.cells #[.string ⟨id.toArray⟩, .slice ua sec.length uc, .int .i64 frm, .int .i64 til, .int .i64 1099511627777] 106)).alloc (.cells #[ptrK w3.heap.size] 103)).drew.heap.size by have := HB3.out.size; simp; omega)
 clear ha1 ha2
 go_region_law ((refine step_appw tyPtrs (by rfl) _ _ (by rfl) B (.slice va (E n).length vc) (E n).length ((E n).map Ent.ptr) (by rfl) HON.out HBZ.out (.slice (some ⟨w3.heap.size + 1, 0, none⟩) 1 1) 1 [ptrK w3.heap.size] (by rfl) HSRC.out (by rfl) (by simp [Value.oneCell']) (by omega) ?_; intro v' w4 hown4 hgrow4 hlies4; obtain ⟨g4a, g4c, rfl, _⟩ := hown4.form; obtain ⟨x0, y0, z0⟩ := HRN.out.grownBox hn16 (by rw [HVN.out]; exact hgrow4); rw [HVN.out] at x0))
 all_goals
   go_wp2
   go_ret
   have hzz := HB3.out.size
   have hxat : EntAt ((w3.alloc (.cells #[.string ⟨id.toArray⟩, .slice ua sec.length uc, .int .i64 frm, .int .i64 til, .int .i64 1099511627777] 106)).alloc (.cells #[ptrK w3.heap.size] 103)).drew B ⟨w3.heap.size, .slice ua sec.length uc, ⟨id, sec, frm, til, 1099511627777⟩⟩ := by
    refine ⟨(by show B ≤ w3.heap.size; omega), ?_, ?_⟩
    ·exact (Bx.new w3 106 #[.string ⟨id.toArray⟩, .slice ua sec.length uc, .int .i64 frm, .int .i64 til, .int .i64 1099511627777]).older ((Below.refl _ _).alloc (Nat.le_refl _) _).drew
    ·exact (HU3.out.mono (fun q hq => by have := (HU3.out.lt q hq).1; have := HBA.out.size; omega)).older HA2.out
   have hfr : ∀ t, t < 16 → ∀ e ∈ E t, ¬ e.blk = w3.heap.size := fun t ht e he hq => by
    have := (HR3.out.ent t ht e he).box.lt; omega
   refine ⟨.slice g4a ((E n).length + 1) g4c, ⟨w3.heap.size, .slice ua sec.length uc, ⟨id, sec, frm, til, 1099511627777⟩⟩, rfl, rfl, ring_added HRN.out hn16 HBZ.out hxat hfr hown4 (by rw [HVN.out]; exact hgrow4) (by rw [HVN.out]; exact hlies4), RGoes.added (HB3.out.trans (HA2.out.mono hzz)) HRW.out hn16 hzz (by rw [HVN.out]; exact hgrow4) (by rw [HVN.out]; exact hlies4), ?_⟩
   intro q hq
   have h1 := (HU3.out.lt q hq).1
   have h2 := HBA.out.size
   omega
end Kr
end Go.Proofs.YtpkhbhdidkkebaaGreatDoor
end

