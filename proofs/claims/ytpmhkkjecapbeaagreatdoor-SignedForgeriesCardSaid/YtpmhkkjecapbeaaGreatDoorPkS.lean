/- Contracts and plain facts that the statement's proof leans on (texts joined). No condition beyond those that each names. -/
import Derived.Laws.StructEq
import Derived.Test.YtpmhkkjecapbeaaGreatDoorPkD
section
namespace Go.Proofs.YtpmhkkjecapbeaaGreatDoor
open Go.RowKit Pl Ad
set_option maxRecDepth 100000
set_option linter.unusedVariables false
namespace Sg
def adB (h p q : Bs) (b : Bool) (h' p' q' : Bs) (b' : Bool) : Bool := h == h' && (p == p' && (q == q' && b == b'))
theorem adB_iff (h p q : Bs) (b : Bool) (h' p' q' : Bs) (b' : Bool) : adB h p q b h' p' q' b' = decide ((⟨h, p, q, b⟩ : Adr) = ⟨h', p', q', b'⟩) := by
  unfold adB
  rw [Bool.eq_iff_iff]
  simp only [Bool.and_eq_true, beq_iff_eq, decide_eq_true_eq, Adr.mk.injEq]
def tkB (id : Bs) (f t : Int) (id' : Bs) (f' t' : Int) : Bool := id == id' && (f == f' && t == t')
theorem tkB_iff (id : Bs) (f t : Int) (id' : Bs) (f' t' : Int) : tkB id f t id' f' t' = decide ((⟨id, f, t⟩ : TokM) = ⟨id', f', t'⟩) := by
  unfold tkB
  rw [Bool.eq_iff_iff]
  simp only [Bool.and_eq_true, beq_iff_eq, decide_eq_true_eq, TokM.mk.injEq]
theorem und_pa : Tryz.prog.underlying 27 = some (.struct (Tryz.prog.fieldsOf 27)) := by rfl
theorem held_pa : Tryz.prog.stoodInHeld 27 = false := by decide +kernel
theorem guardB_pa : Tryz.prog.eqGuardType Tryz.prog.depth 27 = false := by decide +kernel
theorem guard_pa (op : BinOp) (x y : Operand) (xs ys : Array Value) (w : World) : (eqGuard op 27 x y (.agg xs) (.agg ys)).run Tryz.prog w = .ok () w := run_eqGuard_agg w op 27 x y xs ys guardB_pa
theorem eql_pa (h p q : Bs) (b : Bool) (h' p' q' : Bs) (b' : Bool) (w : World) : (binOp .eql 27 (.agg #[.string ⟨h.toArray⟩, .string ⟨p.toArray⟩, .string ⟨q.toArray⟩, .bool b]) (.agg #[.string ⟨h'.toArray⟩, .string ⟨p'.toArray⟩, .string ⟨q'.toArray⟩, .bool b'])).run Tryz.prog w = .ok (.bool (adB h p q b h' p' q' b')) w := by
  rw [run_eql_struct, run_equalIn_agg w 9999 _ _ _ und_pa held_pa]
  simp [go_sem]
  unfold adB
  by_cases h1 : h = h' <;> by_cases h2 : p = p' <;> by_cases h3 : q = q' <;> by_cases h4 : b = b' <;> simp [h1, h2, h3, h4]
theorem neq_pa (h p q : Bs) (b : Bool) (h' p' q' : Bs) (b' : Bool) (w : World) : (binOp .neq 27 (.agg #[.string ⟨h.toArray⟩, .string ⟨p.toArray⟩, .string ⟨q.toArray⟩, .bool b]) (.agg #[.string ⟨h'.toArray⟩, .string ⟨p'.toArray⟩, .string ⟨q'.toArray⟩, .bool b'])).run Tryz.prog w = .ok (.bool (!adB h p q b h' p' q' b')) w := by
  rw [run_neq_struct, run_equalIn_agg w 9999 _ _ _ und_pa held_pa]
  simp [go_sem]
  unfold adB
  by_cases h1 : h = h' <;> by_cases h2 : p = p' <;> by_cases h3 : q = q' <;> by_cases h4 : b = b' <;> simp [h1, h2, h3, h4]
theorem und_ra : Tryz.prog.underlying 62 = some (.struct (Tryz.prog.fieldsOf 62)) := by rfl
theorem held_ra : Tryz.prog.stoodInHeld 62 = false := by decide +kernel
theorem guardB_ra : Tryz.prog.eqGuardType Tryz.prog.depth 62 = false := by decide +kernel
theorem guard_ra (op : BinOp) (x y : Operand) (xs ys : Array Value) (w : World) : (eqGuard op 62 x y (.agg xs) (.agg ys)).run Tryz.prog w = .ok () w := run_eqGuard_agg w op 62 x y xs ys guardB_ra
theorem eql_ra (h p q : Bs) (b : Bool) (h' p' q' : Bs) (b' : Bool) (w : World) : (binOp .eql 62 (.agg #[.string ⟨h.toArray⟩, .string ⟨p.toArray⟩, .string ⟨q.toArray⟩, .bool b]) (.agg #[.string ⟨h'.toArray⟩, .string ⟨p'.toArray⟩, .string ⟨q'.toArray⟩, .bool b'])).run Tryz.prog w = .ok (.bool (adB h p q b h' p' q' b')) w := by
  rw [run_eql_struct, run_equalIn_agg w 9999 _ _ _ und_ra held_ra]
  simp [go_sem]
  unfold adB
  by_cases h1 : h = h' <;> by_cases h2 : p = p' <;> by_cases h3 : q = q' <;> by_cases h4 : b = b' <;> simp [h1, h2, h3, h4]
theorem und_pt : Tryz.prog.underlying 51 = some (.struct (Tryz.prog.fieldsOf 51)) := by rfl
theorem held_pt : Tryz.prog.stoodInHeld 51 = false := by decide +kernel
theorem guardB_pt : Tryz.prog.eqGuardType Tryz.prog.depth 51 = false := by decide +kernel
theorem guard_pt (op : BinOp) (x y : Operand) (xs ys : Array Value) (w : World) : (eqGuard op 51 x y (.agg xs) (.agg ys)).run Tryz.prog w = .ok () w := run_eqGuard_agg w op 51 x y xs ys guardB_pt
theorem eql_pt (id : Bs) (f t : Int) (id' : Bs) (f' t' : Int) (w : World) : (binOp .eql 51 (.agg #[.string ⟨id.toArray⟩, .int .i64 f, .int .i64 t]) (.agg #[.string ⟨id'.toArray⟩, .int .i64 f', .int .i64 t'])).run Tryz.prog w = .ok (.bool (tkB id f t id' f' t')) w := by
  rw [run_eql_struct, run_equalIn_agg w 9999 _ _ _ und_pt held_pt]
  simp [go_sem]
  unfold tkB
  by_cases h1 : id = id' <;> by_cases h2 : f = f' <;> by_cases h3 : t = t' <;> simp [h1, h2, h3]
theorem neq_pt (id : Bs) (f t : Int) (id' : Bs) (f' t' : Int) (w : World) : (binOp .neq 51 (.agg #[.string ⟨id.toArray⟩, .int .i64 f, .int .i64 t]) (.agg #[.string ⟨id'.toArray⟩, .int .i64 f', .int .i64 t'])).run Tryz.prog w = .ok (.bool (!tkB id f t id' f' t')) w := by
  rw [run_neq_struct, run_equalIn_agg w 9999 _ _ _ und_pt held_pt]
  simp [go_sem]
  unfold tkB
  by_cases h1 : id = id' <;> by_cases h2 : f = f' <;> by_cases h3 : t = t' <;> simp [h1, h2, h3]
end Sg
end Go.Proofs.YtpmhkkjecapbeaaGreatDoor
end

