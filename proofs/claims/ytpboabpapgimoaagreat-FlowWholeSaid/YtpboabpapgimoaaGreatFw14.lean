/- Flows: FlowWhole. Part 14 of 14: AvFQ5. -/
import Derived.Test.YtpboabpapgimoaaGreatFw10
import Derived.Test.YtpboabpapgimoaaGreatFw13
namespace Go.Proofs.YtpboabpapgimoaaGreat.Av
open Go Go.RowKit Go.ChangeShapes Go.WideShapes
set_option linter.unusedSimpArgs false
set_option linter.unusedVariables false
set_option maxRecDepth 100000
theorem zjW : ∀ t, t = 28 ∨ t = 3 → Tryz.prog.readableRec t = true ∧ t < Tryz.prog.types.size := by
  rintro t (rfl | rfl)
  all_goals exact ⟨by kernel_rfl, of_decide_eq_true (by kernel_rfl)⟩
theorem zil (os : Os) (started : os.Started) (H : Type) (enc : TypeId × Value → H) :
    ReturnsInHanded {} Tryz.checked os 4 .any (Rows.flowWholeSpec.pre6 enc Tryz.prog Tryz.f4 Rows.flowWholeRow.domain false) (Rows.flowWholeSpec.post enc Tryz.prog Tryz.f4 false true false false) := by
  refine zmN (C := Tryz.checked) own started (by kernel_rfl) Tryz.func4
    (ChangeSpec.witness6 (enc := enc) (C := Tryz.checked) false ⟨#[], #[.agg #[.slice none 0 0, .slice none 0 0, .slice none 0 0], .int .i64 0, .int .i64 0], []⟩ 8 (by kernel_rfl) (by kernel_rfl) (by kernel_rfl) (by kernel_rfl))
    laid rfl rfl (fun t h => zjW t (by simpa using h)) rfl Tryz.underlying4 ?_ ((zik zri zud (zik (rdI Tryz.underlying3) zpX (zik (rdI Tryz.underlying3) zpX zqh))))
    fun v hv => zjm v.1 flN v.2.1 v.2.2.1 hv.1
  intro ds h
  match ds, h with
  | [a, b, c], _ => rfl
theorem flowWhole_holds : Rows.FlowWholeSaid :=
  OpenClaim.holds_of_wide 4 Tryz.f4 rfl rfl rfl rfl rfl rfl rfl ⟨rfl, rfl, rfl, rfl, rfl⟩ rfl rfl rfl rfl rfl (by kernel_rfl) Tryz.func4 (by kernel_rfl)
    (of_decide_eq_true (by kernel_rfl)) (by unfold Func.isWrapper; first | (rw [if_pos (by decide +kernel)]; kernel_rfl) | (rw [if_neg (by decide +kernel)]; exact ⟨rfl, rfl⟩))
    (fun os started H enc _ => zil os started H enc)
end Go.Proofs.YtpboabpapgimoaaGreat.Av
