/- Probe: ProbeNil Part 14 of 14: AvBQ1. -/
import Derived.Test.YtanimmdlgmkmkaaPn10
import Derived.Test.YtanimmdlgmkmkaaPn13

/- The law ProbeNil, as the given row says it: for every fuel. -/
namespace Go.Proofs.Ytanimmdlgmkmkaa.Av
open Go Go.RowKit Go.ChangeShapes Go.WideShapes
set_option linter.unusedSimpArgs false
set_option linter.unusedVariables false
set_option maxRecDepth 100000

theorem atInt : ArgAt Try.prog 3 (fun n : Int => .raw (.int .i64 n)) := argAt_one Try.underlying3 rfl fun _ => rfl
theorem probeNil_read : ∀ t, t = 3 → Try.prog.readableRec t = true ∧ t < Try.prog.types.size := by
  rintro t rfl
  all_goals exact ⟨by kernel_rfl, of_decide_eq_true (by kernel_rfl)⟩
theorem probeNil_lifted (os : Os) (started : os.Started) (H : Type) (enc : TypeId × Value → H) :
    ReturnsInHanded {} Try.checked os 7 .any (Rows.probeNilSpec.pre6 enc Try.prog Try.f7 Rows.probeNilRow.domain false) (Rows.probeNilSpec.post enc Try.prog Try.f7 false true false false) := by
  refine lifted_bool (C := Try.checked) own started (by kernel_rfl) Try.func7
    (ChangeSpec.witness6 (enc := enc) (C := Try.checked) false ⟨#[], #[.int .i64 0], []⟩ 8 (by kernel_rfl) (by kernel_rfl) (by kernel_rfl) (by kernel_rfl))
    laid rfl rfl (fun t h => probeNil_read t (by simpa using h)) rfl Try.underlying4 ?_ (rdA_cons (rdI Try.underlying3) atInt rdA_nil)
    fun v hv => probeNil_calls v.1
  intro ds h
  match ds, h with
  | [a], _ => rfl
theorem probeNil_holds : Rows.ProbeNilSaid :=
  OpenClaim.holds_of_wide 7 Try.f7 rfl rfl rfl rfl rfl rfl rfl ⟨rfl, rfl, rfl, rfl, rfl⟩ rfl rfl rfl rfl rfl (by kernel_rfl) Try.func7 (by kernel_rfl)
    (of_decide_eq_true (by kernel_rfl)) (by unfold Func.isWrapper; first | (rw [if_pos (by decide +kernel)]; kernel_rfl) | (rw [if_neg (by decide +kernel)]; exact ⟨rfl, rfl⟩))
    (fun os started H enc _ => probeNil_lifted os started H enc)
end Go.Proofs.Ytanimmdlgmkmkaa.Av

