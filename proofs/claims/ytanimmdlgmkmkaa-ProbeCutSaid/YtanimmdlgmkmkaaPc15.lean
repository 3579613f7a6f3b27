/- Probe: ProbeCut Part 15 of 15: AvBQ2. -/
import Derived.Test.YtanimmdlgmkmkaaPc11
import Derived.Test.YtanimmdlgmkmkaaPc14

/- The law ProbeCut, as the given row says it: for every two networks, query and fuel. -/
namespace Go.Proofs.Ytanimmdlgmkmkaa.Av
open Go Go.RowKit Go.ChangeShapes Go.WideShapes
set_option linter.unusedSimpArgs false
set_option linter.unusedVariables false
set_option maxRecDepth 100000

theorem atInt : ArgAt Try.prog 3 (fun n : Int => .raw (.int .i64 n)) := argAt_one Try.underlying3 rfl fun _ => rfl
theorem probeCut_read : ∀ t, t = 29 ∨ t = 37 ∨ t = 3 → Try.prog.readableRec t = true ∧ t < Try.prog.types.size := by
  rintro t (rfl | rfl | rfl)
  all_goals exact ⟨by kernel_rfl, of_decide_eq_true (by kernel_rfl)⟩
theorem probeCut_lifted (os : Os) (started : os.Started) (H : Type) (enc : TypeId × Value → H) :
    ReturnsInHanded {} Try.checked os 9 .any (Rows.probeCutSpec.pre6 enc Try.prog Try.f9 Rows.probeCutRow.domain false) (Rows.probeCutSpec.post enc Try.prog Try.f9 false true false false) := by
  refine lifted_bool (C := Try.checked) own started (by kernel_rfl) Try.func9
    (ChangeSpec.witness6 (enc := enc) (C := Try.checked) false ⟨#[], #[.agg #[.slice none 0 0, .slice none 0 0, .slice none 0 0, .slice none 0 0, .slice none 0 0, .slice none 0 0], .agg #[.int .i64 0, .int .i64 0, .int .i64 0, .int .i64 0, .int .u32 0, .int .u32 0, .string ⟨#[]⟩], .int .i64 0], []⟩ 8 (by kernel_rfl) (by kernel_rfl) (by kernel_rfl) (by kernel_rfl))
    laid rfl rfl (fun t h => probeCut_read t (by simpa using h)) rfl Try.underlying4 ?_ (rdA_cons rdNw2 atNw2 (rdA_cons rdQy atQy (rdA_cons (rdI Try.underlying3) atInt rdA_nil)))
    fun v hv => probeCut_calls v.1.1 v.1.2 flN flN v.2.1 v.2.2.1 hv.1.1 hv.1.2 hv.2.1 hv.2.2.1
  intro ds h
  match ds, h with
  | [a, b, c], _ => rfl
theorem probeCut_holds : Rows.ProbeCutSaid :=
  OpenClaim.holds_of_wide 9 Try.f9 rfl rfl rfl rfl rfl rfl rfl ⟨rfl, rfl, rfl, rfl, rfl⟩ rfl rfl rfl rfl rfl (by kernel_rfl) Try.func9 (by kernel_rfl)
    (of_decide_eq_true (by kernel_rfl)) (by unfold Func.isWrapper; first | (rw [if_pos (by decide +kernel)]; kernel_rfl) | (rw [if_neg (by decide +kernel)]; exact ⟨rfl, rfl⟩))
    (fun os started H enc _ => probeCut_lifted os started H enc)
end Go.Proofs.Ytanimmdlgmkmkaa.Av

