/- LabelTells: for every network, any device and atom, the labels are as the document says, or the error; no condition. Part 15 of 15: AvLQ3. -/
import Derived.Test.YtanimmdlgmkmkaaGreatLtl11
import Derived.Test.YtanimmdlgmkmkaaGreatLtl14

/- The law LabelTells, as the given row says it: for every network, any device and atom. -/
namespace Go.Proofs.YtanimmdlgmkmkaaGreat.Av
open Go Go.RowKit Go.ChangeShapes Go.WideShapes
set_option linter.unusedSimpArgs false
set_option linter.unusedVariables false
set_option maxRecDepth 100000

theorem labelTells_read : ∀ t, t = 28 ∨ t = 51 → Tryz.prog.readableRec t = true ∧ t < Tryz.prog.types.size := by
  rintro t (rfl | rfl)
  all_goals exact ⟨by kernel_rfl, of_decide_eq_true (by kernel_rfl)⟩
theorem labelTells_lifted (os : Os) (started : os.Started) (H : Type) (enc : TypeId × Value → H) :
    ReturnsInHanded {} Tryz.checked os 4 .any (Rows.labelTellsSpec.pre6 enc Tryz.prog Tryz.f4 Rows.labelTellsRow.domain false) (Rows.labelTellsSpec.post enc Tryz.prog Tryz.f4 false true false false) := by
  refine lifted_bool (C := Tryz.checked) own started (by kernel_rfl) Tryz.func4
    (ChangeSpec.witness6 (enc := enc) (C := Tryz.checked) false ⟨#[], #[.agg #[.slice none 0 0, .slice none 0 0, .slice none 0 0], .agg #[.int .i64 0, .int .i64 0]], []⟩ 8 (by kernel_rfl) (by kernel_rfl) (by kernel_rfl) (by kernel_rfl))
    laid rfl rfl (fun t h => labelTells_read t (by simpa using h)) rfl Tryz.underlying4 ?_ (rdA_cons rdNw atNw (rdA_cons rdPr atPr rdA_nil))
    fun v hv => labelTells_calls v.1 flN v.2.1.1 v.2.1.2 hv.1
  intro ds h
  match ds, h with
  | [a, b], _ => rfl
theorem labelTells_holds : Rows.LabelTellsSaid :=
  OpenClaim.holds_of_wide 4 Tryz.f4 rfl rfl rfl rfl rfl rfl rfl ⟨rfl, rfl, rfl, rfl, rfl⟩ rfl rfl rfl rfl rfl (by kernel_rfl) Tryz.func4 (by kernel_rfl)
    (of_decide_eq_true (by kernel_rfl)) (by unfold Func.isWrapper; first | (rw [if_pos (by decide +kernel)]; kernel_rfl) | (rw [if_neg (by decide +kernel)]; exact ⟨rfl, rfl⟩))
    (fun os started H enc _ => labelTells_lifted os started H enc)
end Go.Proofs.YtanimmdlgmkmkaaGreat.Av

