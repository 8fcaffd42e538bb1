/- Contracts and plain facts that the statement's proof leans on (texts joined). No condition beyond those that each names. -/
import Derived.Laws.StructEq
import Derived.Test.YtpkhbhdidkkebaaGreatDoorPvF
import Derived.Test.YtpkhbhdidkkebaaGreatDoorPvG
section
namespace Go.Proofs.YtpkhbhdidkkebaaGreatDoor
open Go.RowKit Pl Ad
set_option maxRecDepth 100000
set_option linter.unusedVariables false
namespace Sg
def adB (h p q : Bs) (b : Bool) (h' p' q' : Bs) (b' : Bool) : Bool := h == h' && (p == p' && (q == q' && b == b'))
theorem adB_iff (h p q : Bs) (b : Bool) (h' p' q' : Bs) (b' : Bool) : adB h p q b h' p' q' b' = decide ((⟨h, p, q, b⟩ : Adr) = ⟨h', p', q', b'⟩) := by
 unfold adB
 rw [Bool.eq_iff_iff]
 simp only [Bool.and_eq_true, beq_iff_eq, decide_eq_true_eq, Adr.mk.injEq]
theorem und_pa : Tryz.prog.underlying 27 = some (.struct (Tryz.prog.fieldsOf 27)) := by rfl
theorem held_pa : Tryz.prog.stoodInHeld 27 = false := by decide +kernel
theorem guardB_pa : Tryz.prog.eqGuardType Tryz.prog.depth 27 = false := by decide +kernel
theorem guard_pa (op : BinOp) (x y : Operand) (xs ys : Array Value) (w : World) : (eqGuard op 27 x y (.agg xs) (.agg ys)).run Tryz.prog w = .ok () w := run_eqGuard_agg w op 27 x y xs ys guardB_pa
theorem eql_pa (h p q : Bs) (b : Bool) (h' p' q' : Bs) (b' : Bool) (w : World) : (binOp .eql 27 (.agg #[.string ⟨h.toArray⟩, .string ⟨p.toArray⟩, .string ⟨q.toArray⟩, .bool b]) (.agg #[.string ⟨h'.toArray⟩, .string ⟨p'.toArray⟩, .string ⟨q'.toArray⟩, .bool b'])).run Tryz.prog w = .ok (.bool (adB h p q b h' p' q' b')) w := by
 rw [run_eql_struct, run_equalIn_agg w 9999 _ _ _ und_pa held_pa]
 simp [go_sem]
 unfold adB
 by_cases h1 : h = h' <;> by_cases h2 : p = p' <;> by_cases h3 : q = q' <;> by_cases h4 : b = b' <;> simp [h1, h2, h3, h4]
theorem neq_pa (h p q : Bs) (b : Bool) (h' p' q' : Bs) (b' : Bool) (w : World) : (binOp .neq 27 (.agg #[.string ⟨h.toArray⟩, .string ⟨p.toArray⟩, .string ⟨q.toArray⟩, .bool b]) (.agg #[.string ⟨h'.toArray⟩, .string ⟨p'.toArray⟩, .string ⟨q'.toArray⟩, .bool b'])).run Tryz.prog w = .ok (.bool (!adB h p q b h' p' q' b')) w := by
 rw [run_neq_struct, run_equalIn_agg w 9999 _ _ _ und_pa held_pa]
 simp [go_sem]
 unfold adB
 by_cases h1 : h = h' <;> by_cases h2 : p = p' <;> by_cases h3 : q = q' <;> by_cases h4 : b = b' <;> simp [h1, h2, h3, h4]
theorem und_ra : Tryz.prog.underlying 63 = some (.struct (Tryz.prog.fieldsOf 63)) := by rfl
theorem held_ra : Tryz.prog.stoodInHeld 63 = false := by decide +kernel
theorem guardB_ra : Tryz.prog.eqGuardType Tryz.prog.depth 63 = false := by decide +kernel
theorem guard_ra (op : BinOp) (x y : Operand) (xs ys : Array Value) (w : World) : (eqGuard op 63 x y (.agg xs) (.agg ys)).run Tryz.prog w = .ok () w := run_eqGuard_agg w op 63 x y xs ys guardB_ra
theorem eql_ra (h p q : Bs) (b : Bool) (h' p' q' : Bs) (b' : Bool) (w : World) : (binOp .eql 63 (.agg #[.string ⟨h.toArray⟩, .string ⟨p.toArray⟩, .string ⟨q.toArray⟩, .bool b]) (.agg #[.string ⟨h'.toArray⟩, .string ⟨p'.toArray⟩, .string ⟨q'.toArray⟩, .bool b'])).run Tryz.prog w = .ok (.bool (adB h p q b h' p' q' b')) w := by
 rw [run_eql_struct, run_equalIn_agg w 9999 _ _ _ und_ra held_ra]
 simp [go_sem]
 unfold adB
 by_cases h1 : h = h' <;> by_cases h2 : p = p' <;> by_cases h3 : q = q' <;> by_cases h4 : b = b' <;> simp [h1, h2, h3, h4]
theorem guardB_pt : Tryz.prog.eqGuardType Tryz.prog.depth 51 = false := by decide +kernel
theorem guard_pt (op : BinOp) (x y : Operand) (xs ys : Array Value) (w : World) : (eqGuard op 51 x y (.agg xs) (.agg ys)).run Tryz.prog w = .ok () w := run_eqGuard_agg w op 51 x y xs ys guardB_pt
end Sg
end Go.Proofs.YtpkhbhdidkkebaaGreatDoor
end

