/- Contract: address.Host. Conditions: texts of at most 2^31 bytes. -/
import Derived.Test.YtijjggbiljkalaaDoorAddr5
namespace Go.Proofs.YtijjggbiljkalaaDoor
open Go.RowKit Pl Ad
attribute [local go_sem] ba_get conv_one conv_one_drewN ba_append ba_extract
set_option maxRecDepth 100000
set_option maxHeartbeats 4000000
set_option linter.unusedVariables false
namespace A1

/-- The error code n as a value. -/
@[reducible] def errV (n : Int) : Value := .iface 29 (.int .i64 n)
def hostE (l : Bs) : Value := if hostOk l then .nilIface else errV 8
theorem hostE_no (l : Bs) (h : hostOk l = false) : hostE l = errV 8 := by rw [hostE, h]; rfl
theorem hostE_yes (l : Bs) (h : hostOk l = true) : hostE l = .nilIface := by rw [hostE, h]; rfl

/-- []byte(s): the new slice's capacity, and the world behind it. -/
def bcap (w : World) (l : Bs) : Nat := grownCap w l.length 0 5
def brow (w : World) (l : Bs) : List Value := bvals l ++ List.replicate (bcap w l - l.length) (.int .u8 0)
def bworld (w : World) (l : Bs) : World := w.drew.alloc (.cells (brow w l).toArray 5 ((brow w l).length, (brow w l).length + 1))
theorem conv_bytes (w : World) (l : Bs) : (convert 9 155 (.string ⟨l.toArray⟩)).run Tryd.prog w = .ok (.slice (some ⟨w.heap.size, 0, none⟩) l.length (bcap w l)) (bworld w l) := by
  rw [run_bytes_of_string w 9 155 5 ⟨l.toArray⟩ Tryd.underlying9 Tryd.underlying155 Tryd.underlying5]
  have e : bytesRow ⟨l.toArray⟩ (grownCap w (⟨l.toArray⟩ : ByteArray).size 0 5) = (brow w l).toArray := by
    unfold bytesRow brow bcap bvals
    rw [← Array.toList_inj]
    simp
    rfl
  rw [e]
  rfl
theorem bworld_below (w : World) (l : Bs) : Below w.heap.size w (bworld w l) := ((Below.refl _ _).drew).alloc (Nat.le_refl _) _
theorem bworld_size (w : World) (l : Bs) : (bworld w l).heap.size = w.heap.size + 1 := by simp [bworld]

/-- Block g holds the bytes l at its head, and may be written there. -/
def BytesAt (w : World) (g : Nat) (l : Bs) : Prop := ∃ C : List Value, w.heap[g]? = some (.cells C.toArray 5 (C.length, C.length + 1)) ∧ l.length ≤ C.length ∧ ∀ k (h : k < l.length), C[k]? = some (.int .u8 (l[k].toNat : Int))
theorem bytesAt_new (w : World) (l : Bs) : BytesAt (bworld w l) w.heap.size l := by
  refine ⟨brow w l, heap_alloc_new w.drew _, by simp [brow, bvals], fun k h => ?_⟩
  rw [brow, List.getElem?_append_left (by simpa [bvals] using h)]
  simp [bvals, h]
theorem BytesAt.cell {w : World} {g : Nat} {l : Bs} (h : BytesAt w g l) (k : Nat) (hk : k < l.length) : w.cell? ⟨g, k, none⟩ = some (.int .u8 (l[k].toNat : Int)) := by
  obtain ⟨C, h1, _, h3⟩ := h
  rw [cell_of_row w g k C.toArray 5 _ h1]
  simpa using h3 k hk
theorem BytesAt.frozen {w : World} {g : Nat} {l : Bs} (h : BytesAt w g l) (k : Nat) (hk : k < l.length) : w.frozen? ⟨g, k, none⟩ = false := by
  obtain ⟨C, h1, h2, _⟩ := h
  unfold World.frozen?
  rw [h1]
  simp; omega
theorem BytesAt.set {w : World} {g : Nat} {l : Bs} (h : BytesAt w g l) (k : Nat) (hk : k < l.length) (b : UInt8) (n : Int) (hn : (b.toNat : Int) = n) : BytesAt (w.setCell ⟨g, k, none⟩ (.int .u8 n)) g (l.set k b) := by
  obtain ⟨C, h1, h2, h3⟩ := h
  refine ⟨C.set k (.int .u8 n), ?_, by simpa using h2, fun j hj => ?_⟩
  · simp only [World.setCell, Array.getElem?_modify, if_pos, h1, Option.map_some, Option.isSome_none, Bool.false_eq_true, if_false, List.length_set]
    simp
  · rw [List.length_set] at hj
    by_cases e : k = j
    · subst e
      simp [hn, show k < C.length by omega]
    · rw [List.getElem?_set_ne e, h3 j hj]
      simp [List.getElem_set_ne e]
theorem BytesAt.conv {w : World} {g : Nat} {l : Bs} (h : BytesAt w g l) (c : Nat) : (convert 155 9 (.slice (some ⟨g, 0, none⟩) l.length c)).run Tryd.prog w = .ok (.string ⟨l.toArray⟩) w :=
  run_convert_bytes_back w 155 9 5 ⟨g, 0, none⟩ c l Tryd.underlying155 Tryd.underlying5 Tryd.underlying9 (fun j hj => by
    have hadd : (⟨g, 0, none⟩ : Addr).add j = ⟨g, j, none⟩ := by unfold Addr.add; split <;> simp_all
    rw [hadd]; exact h.cell j hj)

/-- The bytes before place k in lower case. -/
def lowTo (l : Bs) (k : Nat) : Bs := lower (l.take k) ++ l.drop k
theorem lowTo_len (l : Bs) (k : Nat) : (lowTo l k).length = l.length := by
  unfold lowTo; rw [List.length_append, lower_len, List.length_take, List.length_drop]; omega
theorem lowTo_at (l : Bs) (k : Nat) (h : k < l.length) (h2 : k < (lowTo l k).length) : (lowTo l k)[k] = l[k] := by
  have e : (lowTo l k)[k]? = some l[k] := by
    unfold lowTo
    rw [List.getElem?_append_right (by rw [lower_len, List.length_take]; omega)]
    simp [lower_len, show min k l.length = k by omega, h]
  rw [List.getElem?_eq_getElem h2] at e
  exact Option.some.inj e
theorem lowTo_succ (l : Bs) (k : Nat) (h : k < l.length) : lowTo l (k + 1) = (lowTo l k).set k (lowB l[k]) := by
  unfold lowTo
  rw [lower_take l k h, drop_cons h, List.set_append_right _ _ (by rw [lower_len, List.length_take]; omega)]
  rw [lower_len, List.length_take, show k - min k l.length = 0 by omega, List.set_cons_zero, List.append_assoc]
  rfl
theorem lowTo_same (l : Bs) (k : Nat) (h : k < l.length) (h2 : lowB l[k] = l[k]) : lowTo l (k + 1) = lowTo l k := by
  unfold lowTo
  rw [lower_take l k h, drop_cons h, h2]; simp
theorem lowTo_all (l : Bs) (k : Nat) (h : l.length ≤ k) : lowTo l k = lower l := by
  unfold lowTo; rw [List.take_of_length_le h, List.drop_of_length_le h, List.append_nil]

theorem lowB_in (b : UInt8) (h1 : 65 ≤ b.toNat) (h2 : b.toNat ≤ 90) : (((lowB b).toNat : Nat) : Int) = (b.toNat : Int) + 32 := by
  unfold lowB
  rw [if_pos ⟨h1, h2⟩, UInt8.toNat_add]
  show (((b.toNat + 32) % 256 : Nat) : Int) = _
  omega

theorem host_any (l : Bs) (w : World) (hl : l.length ≤ 2147483648) (hr : Ready w) :
    Calls Tryd.prog 82 #[.string ⟨l.toArray⟩] w fun e w' => e = .returned (.tuple #[.string ⟨(hostS l).toArray⟩, hostE l]) ∧ Below w.heap.size w w' := by
  have hcnt := splitOn_count 46 l
  have hlen := splitOn_len 46 l
  by_cases h100 : l.length ≤ 100
  · go_enter Tryd.func82, Tryd.ntmps82
    go_wp2_with fail
    refine (split_any l 46 w hl hr).mono ?_
    rintro e w1 ⟨b, c, rfl, hcap, hwb, hbw, hcells, hb1⟩
    generalize hxs0 : splitOn 46 l = xs at hcells hcap hcnt hlen
    have HXS := Lib.hid hxs0
    clear hxs0
    have hxs : ∀ (k : Nat) (x : Bs), xs[k]? = some x → x.length ≤ l.length := fun k x h => hlen x (List.mem_of_getElem? h)
    have HXL := Lib.hid hxs
    clear hxs hlen
    go_wp2_with fail
    go_loop [18] (fun i => ∃ k : Nat, k ≤ xs.length ∧ i = .int .i64 k ∧ Hid (xs.all labelB = (xs.drop k).all labelB)) (fun i => xs.length - (intOf i).toNat)
    case atStart => exact ⟨0, Nat.zero_le _, rfl, rfl⟩
    case round =>
      obtain ⟨k, hk, rfl, H⟩ := hrel
      by_cases hlt : k < xs.length
      · have hc := hcells k xs[k] (by simp [hlt])
        rw [Nat.zero_add] at hc
        generalize hx : xs[k] = x at hc
        have HX := Lib.hid hx
        clear hx
        have hxl := HXL.out k x (by rw [← HX.out]; simp [hlt])
        by_cases g1 : 1 ≤ x.length ∧ x.length ≤ 63
        · obtain ⟨g1, g2⟩ := g1
          have p0 : 0 < x.length := by omega
          have p1 : x.length - 1 < x.length := by omega
          have p2 : ((x.length : Int) - 1).toNat = x.length - 1 := by omega
          by_cases h1 : x[0] = 45
          · have HB := Lib.hid (labelB_head x p0 h1)
            have h1' : ((x[0].toNat : Int) == 45) = true := by rw [h1]; rfl
            clear h1
            go_wp2
            go_ret2
            have HN := Lib.hid (show xs.all labelB = false by rw [H.out, drop_cons hlt, List.all_cons, HX.out, HB.out, Bool.false_and])
            have HO := hostOk_no l (.inr (by rw [HXS.out, HN.out]))
            exact ⟨by rw [hostS_no l HO, hostE_no l HO]; rfl, hb1⟩
          · have h1' : ((x[0].toNat : Int) == 45) = false := beq_eq_false_iff_ne.2 (fun h => h1 (UInt8.toNat_inj.1 (show x[0].toNat = 45 by omega)))
            by_cases h2 : x[x.length - 1] = 45
            · have HB := Lib.hid (labelB_last x p1 h2)
              have h2' : ((x[x.length - 1].toNat : Int) == 45) = true := by rw [h2]; rfl
              clear h1 h2
              go_wp2
              go_ret2
              have HN := Lib.hid (show xs.all labelB = false by rw [H.out, drop_cons hlt, List.all_cons, HX.out, HB.out, Bool.false_and])
              have HO := hostOk_no l (.inr (by rw [HXS.out, HN.out]))
              exact ⟨by rw [hostS_no l HO, hostE_no l HO]; rfl, hb1⟩
            · have h2' : ((x[x.length - 1].toNat : Int) == 45) = false := beq_eq_false_iff_ne.2 (fun h => h2 (UInt8.toNat_inj.1 (show x[x.length - 1].toNat = 45 by omega)))
              have HA := Lib.hid (labelB_all x g1 g2 p0 p1 h1 h2)
              clear h1 h2
              go_wp2
              go_loop [44] (fun i => ∃ j : Nat, j ≤ x.length ∧ i = .int .i64 j ∧ Hid (labelB x = (x.drop j).all okC)) (fun i => x.length - (intOf i).toNat)
              case atStart => exact ⟨0, Nat.zero_le _, rfl, HA.out⟩
              case round =>
                obtain ⟨j, hj, rfl, HJ⟩ := hrel
                by_cases hjl : j < x.length
                · have h255 := byte_lt x[j]
                  have HD := Lib.hid (drop_cons hjl)
                  by_cases ho : okC x[j] = true
                  · have HO := Lib.hid ho
                    have HR := Lib.hid (show labelB x = (x.drop (j + 1)).all okC by rw [HJ.out, HD.out, List.all_cons, ho, Bool.true_and])
                    rw [okC, Bool.or_eq_true, decide_eq_true_eq] at ho
                    rcases ho with ho | ho
                    · go_wp2_with ((go_at_call 94; refine (alnum_any _ _ (by omega) (by omega)).mono ?_; rintro e w' ⟨rfl, rfl⟩))
                      go_round
                      case rel => exact ⟨j + 1, by omega, by go_num, HR.out⟩
                      case measure => simp [intOf]; omega
                    · have ho' : ((x[j].toNat : Int) == 45) = true := by rw [ho]; rfl
                      have ho2 : ((x[j].toNat : Int) != 45) = false := by rw [ho]; rfl
                      clear ho
                      go_wp2_with ((go_at_call 94; refine (alnum_any _ _ (by omega) (by omega)).mono ?_; rintro e w' ⟨rfl, rfl⟩))
                      all_goals
                        go_round
                        case rel => exact ⟨j + 1, by omega, by go_num, HR.out⟩
                        case measure => simp [intOf]; omega
                  · have ho2 : okC x[j] = false := by simpa using ho
                    have HB := Lib.hid (show labelB x = false by rw [HJ.out, HD.out, List.all_cons, ho2, Bool.false_and])
                    rw [okC, Bool.or_eq_false_iff, decide_eq_false_iff_not] at ho2
                    obtain ⟨ho3, ho4⟩ := ho2
                    have ho5 : ((x[j].toNat : Int) == 45) = false := beq_eq_false_iff_ne.2 (fun h => ho4 (UInt8.toNat_inj.1 (show x[j].toNat = 45 by omega)))
                    have ho6 : ((x[j].toNat : Int) != 45) = true := by rw [bne, ho5]; rfl
                    clear ho ho4
                    go_wp2_with ((go_at_call 94; refine (alnum_any _ _ (by omega) (by omega)).mono ?_; rintro e w' ⟨rfl, rfl⟩))
                    go_ret2
                    have HN := Lib.hid (show xs.all labelB = false by rw [H.out, drop_cons hlt, List.all_cons, HX.out, HB.out, Bool.false_and])
                    have HO := hostOk_no l (.inr (by rw [HXS.out, HN.out]))
                    exact ⟨by rw [hostS_no l HO, hostE_no l HO]; rfl, hb1⟩
                · have HT := Lib.hid (show labelB x = true by rw [HJ.out, List.drop_of_length_le (by omega)]; rfl)
                  go_wp2
                  go_round
                  case rel => exact ⟨k + 1, by omega, by go_num, by show xs.all labelB = _; rw [H.out, drop_cons hlt, List.all_cons, HX.out, HT.out, Bool.true_and]⟩
                  case measure => simp [intOf]; omega
        · have HB := Lib.hid (labelB_len x g1)
          by_cases g3 : 1 ≤ x.length
          · have g4 : 63 < x.length := by omega
            clear g1
            go_wp2
            go_ret2
            have HN := Lib.hid (show xs.all labelB = false by rw [H.out, drop_cons hlt, List.all_cons, HX.out, HB.out, Bool.false_and])
            have HO := hostOk_no l (.inr (by rw [HXS.out, HN.out]))
            exact ⟨by rw [hostS_no l HO, hostE_no l HO]; rfl, hb1⟩
          · clear g1
            go_wp2
            go_ret2
            have HN := Lib.hid (show xs.all labelB = false by rw [H.out, drop_cons hlt, List.all_cons, HX.out, HB.out, Bool.false_and])
            have HO := hostOk_no l (.inr (by rw [HXS.out, HN.out]))
            exact ⟨by rw [hostS_no l HO, hostE_no l HO]; rfl, hb1⟩
      · have HT := Lib.hid (show xs.all labelB = true by rw [H.out, List.drop_of_length_le (by omega)]; rfl)
        have HO := Lib.hid (hostOk_yes l h100 (by rw [HXS.out, HT.out]))
        have hcv := conv_bytes w1 l
        have HBA := Lib.hid (bytesAt_new w1 l)
        have hbz := bworld_size w1 l
        have hb2 := hb1.trans ((bworld_below w1 l).mono hb1.size)
        have hz1 := hb1.size
        go_wp2
        go_loopw [65] (fun i wr => ∃ k : Nat, k ≤ l.length ∧ i = .int .i64 k ∧ Hid (BytesAt wr w1.heap.size (lowTo l k)) ∧ Below w.heap.size w wr ∧ w1.heap.size < wr.heap.size) (fun i _ => l.length - (intOf i).toNat)
        case atStart => exact ⟨0, Nat.zero_le _, rfl, by show BytesAt _ _ (lowTo l 0); rw [show lowTo l 0 = l by simp [lowTo, lower]]; exact HBA.out, hb2, by omega⟩
        case round =>
          clear hcv hbz hb2
          obtain ⟨k, hk, rfl, HB, hb2, hsz⟩ := hrel
          by_cases hlt : k < l.length
          · have h255 := byte_lt l[k]
            have hlt2 : k < (lowTo l k).length := by rw [lowTo_len]; exact hlt
            have hcell := HB.out.cell k hlt2
            rw [lowTo_at l k hlt hlt2] at hcell
            have hfrz := HB.out.frozen k hlt2
            clear hlt2
            by_cases he : 65 ≤ l[k].toNat ∧ l[k].toNat ≤ 90
            · have HN := Lib.hid (show BytesAt (wr.setCell ⟨w1.heap.size, k, none⟩ (.int .u8 ((l[k].toNat : Int) + 32))) w1.heap.size (lowTo l (k + 1)) by
                rw [lowTo_succ l k hlt]
                exact HB.out.set k (by rw [lowTo_len]; exact hlt) _ _ (lowB_in _ he.1 he.2))
              obtain ⟨he1, he2⟩ := he
              have g1 : (65 : Int) ≤ (l[k].toNat : Int) := by omega
              have g2 : (l[k].toNat : Int) ≤ 90 := by omega
              clear he1 he2
              go_wp2
              go_roundw
              case rel => exact ⟨k + 1, by omega, by go_num, HN.out, hb2.setCell hz1 _, by simpa using hsz⟩
              case measure => simp [intOf]; omega
            · have HN := Lib.hid (show BytesAt wr w1.heap.size (lowTo l (k + 1)) by
                rw [lowTo_same l k hlt (if_neg he)]
                exact HB.out)
              have g1 : ¬ ((65 : Int) ≤ (l[k].toNat : Int) ∧ (l[k].toNat : Int) ≤ 90) := by omega
              clear he
              go_wp2
              all_goals
                go_roundw
                case rel => exact ⟨k + 1, by omega, by go_num, HN.out, hb2, hsz⟩
                case measure => simp [intOf]; omega
          · have hback := HB.out.conv (bcap w1 l)
            rw [lowTo_len, lowTo_all l k (by omega)] at hback
            go_wp2
            go_ret2
            exact ⟨by rw [hostS_yes l HO.out, hostE_yes l HO.out]; rfl, hb2⟩
  · have HO := Lib.hid (hostOk_no l (.inl h100))
    go_enter Tryd.func82, Tryd.ntmps82
    go_wp2
    go_ret2
    exact ⟨by rw [hostS_no l HO.out, hostE_no l HO.out]; rfl, Below.refl _ _⟩
end A1
end Go.Proofs.YtijjggbiljkalaaDoor
