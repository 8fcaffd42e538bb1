/- Contracts and plain facts that the statement's proof leans on (texts joined). No condition beyond those that each names. -/
import Derived.Lib.SlBytesConst
import Derived.Lib.SmallJoins
import Derived.Test.YtpkhbhdidkkebaaGreatDoorPvb
import Derived.Test.YtpkhbhdidkkebaaGreatDoorPve
import Derived.Test.YtpkhbhdidkkebaaGreatDoorPvg
section
namespace Go.Proofs.YtpkhbhdidkkebaaGreatDoor
open Go.RowKit Pl Ad Go.Shelf
attribute [local go_sem] ba_get ba_append ba_extract_end ba_extract_zero ba_extract conv_one
set_option maxRecDepth 100000
set_option maxHeartbeats 4000000
set_option linter.unusedVariables false
set_option linter.unusedSimpArgs false
namespace Sg
open Kr A1 Dg
attribute [local go_sem] guard_pa eql_pa
attribute [-go_sem] run_eql_struct run_eqGuard_agg
theorem num_any (c : Int) (w : World) : Calls Tryz.prog 31 #[Sg.errC c] w fun e w' => e = .returned (.int .i64 c) ∧ w = w' := by
 by_cases h : c = 0
 ·subst h; exact num_nil w
 ·rw [show Sg.errC c = errV c from if_neg h]; exact num_err c w
/-- A literal's row of bytes, marked behind its end by the conversion. -/
theorem conv_lit (w : World) (C : Array Value) (n c : Nat) : (convert 45 45 (.slice (some ⟨w.heap.size, 0, none⟩) n c)).run Tryz.prog (w.alloc (.cells C 5)) = .ok (.slice (some ⟨w.heap.size, 0, none⟩) n c) (w.alloc (.cells C 5 (C.size, C.size + 1))) :=
 Lib.run_convert_bytes_const w 45 5 C n c Tryz.underlying45 Tryz.underlying5
attribute [local go_sem] conv_lit
theorem check_by {a : Adr} {t : TokM} (h1 : valid a = true) (h2 : plainQ a.query = true) (h3 : idOk t.id = true) (h4 : t.frm < t.til) (h5 : 0 ≤ t.frm) (h6 : t.til ≤ 1099511627776) (h7 : a.text.length + 74 + t.id.length ≤ 1024) : checkS a t = 0 := by
 refine checkS_ok.2 ⟨h1, h2, h3, h4, h5, h6, ?_⟩
 rw [begun_text_len _ _ (valid_has h1)]
 have a1 := decI_len (n := t.frm) (by omega)
 have a2 := decI_len (n := t.til) h6
 omega
end Sg
end Go.Proofs.YtpkhbhdidkkebaaGreatDoor
end

