/- Flows: FlowTells, FlowDiffers, FlowCut, FlowFares. Part 14 of 14: AvFQ1, AvFQ2, AvFQ3, AvFQ4, AvFQX. -/
import Derived.Test.YtpboabpapgimoaaGreatFl10
import Derived.Test.YtpboabpapgimoaaGreatFl13
namespace Go.Proofs.YtpboabpapgimoaaGreat.Av
open Go Go.RowKit Go.ChangeShapes Go.WideShapes
set_option linter.unusedSimpArgs false
set_option linter.unusedVariables false
set_option maxRecDepth 100000
theorem zkC : ∀ t, t = 28 ∨ t = 3 → Tryz.prog.readableRec t = true ∧ t < Tryz.prog.types.size := by
  rintro t (rfl | rfl)
  all_goals exact ⟨by kernel_rfl, of_decide_eq_true (by kernel_rfl)⟩
theorem ziW (os : Os) (started : os.Started) (H : Type) (enc : TypeId × Value → H) :
    ReturnsInHanded {} Tryz.checked os 3 .any (Rows.flowTellsSpec.pre6 enc Tryz.prog Tryz.f3 Rows.flowTellsRow.domain false) (Rows.flowTellsSpec.post enc Tryz.prog Tryz.f3 false true false false) := by
  refine zeJ (C := Tryz.checked) own started (by kernel_rfl) Tryz.func3
    (ChangeSpec.witness6 (enc := enc) (C := Tryz.checked) false ⟨#[], #[.agg #[.slice none 0 0, .slice none 0 0, .slice none 0 0], .int .i64 0, .int .i64 0], []⟩ 8 (by kernel_rfl) (by kernel_rfl) (by kernel_rfl) (by kernel_rfl))
    laid rfl rfl (fun t h => zkC t (by simpa using h)) rfl Tryz.underlying4 ?_ ((zb3 zrI zuF (zb3 (rdI Tryz.underlying3) zlI (zb3 (rdI Tryz.underlying3) zlI zh8))))
    fun v hv => zjY v.1 flN v.2.1 v.2.2.1 hv.1
  intro ds h
  match ds, h with
  | [a, b, c], _ => rfl
theorem flowTells_holds : Rows.FlowTellsSaid :=
  OpenClaim.holds_of_wide 3 Tryz.f3 rfl rfl rfl rfl rfl rfl rfl ⟨rfl, rfl, rfl, rfl, rfl⟩ rfl rfl rfl rfl rfl (by kernel_rfl) Tryz.func3 (by kernel_rfl)
    (of_decide_eq_true (by kernel_rfl)) (by unfold Func.isWrapper; first | (rw [if_pos (by decide +kernel)]; kernel_rfl) | (rw [if_neg (by decide +kernel)]; exact ⟨rfl, rfl⟩))
    (fun os started H enc _ => ziW os started H enc)
end Go.Proofs.YtpboabpapgimoaaGreat.Av
namespace Go.Proofs.YtpboabpapgimoaaGreat.Av
open Go Go.RowKit Go.ChangeShapes Go.WideShapes
set_option linter.unusedSimpArgs false
set_option linter.unusedVariables false
set_option maxRecDepth 100000
theorem ziX : ∀ t, t = 45 ∨ t = 3 ∨ t = 48 → Tryz.prog.readableRec t = true ∧ t < Tryz.prog.types.size := by
  rintro t (rfl | rfl | rfl)
  all_goals exact ⟨by kernel_rfl, of_decide_eq_true (by kernel_rfl)⟩
theorem zhV (os : Os) (started : os.Started) (H : Type) (enc : TypeId × Value → H) :
    ReturnsInHanded {} Tryz.checked os 6 .any (Rows.flowDiffersSpec.pre6 enc Tryz.prog Tryz.f6 Rows.flowDiffersRow.domain false) (Rows.flowDiffersSpec.post enc Tryz.prog Tryz.f6 false true false false) := by
  refine zeJ (C := Tryz.checked) own started (by kernel_rfl) Tryz.func6
    (ChangeSpec.witness6 (enc := enc) (C := Tryz.checked) false ⟨#[], #[.agg #[.slice none 0 0, .slice none 0 0, .slice none 0 0, .slice none 0 0, .slice none 0 0, .slice none 0 0], .int .i64 0, .agg #[.int .u32 0, .int .u32 0]], []⟩ 8 (by kernel_rfl) (by kernel_rfl) (by kernel_rfl) (by kernel_rfl))
    laid rfl rfl (fun t h => ziX t (by simpa using h)) rfl Tryz.underlying4 ?_ ((zb3 zor zos (zb3 (rdI Tryz.underlying3) zlI (zb3 zqd zrJ zh8))))
    fun v hv => zie v.1.1 v.1.2 flN flN v.2.1 v.2.2.1 hv.1.1 hv.1.2 hv.2.2.1
  intro ds h
  match ds, h with
  | [a, b, c], _ => rfl
theorem flowDiffers_holds : Rows.FlowDiffersSaid :=
  OpenClaim.holds_of_wide 6 Tryz.f6 rfl rfl rfl rfl rfl rfl rfl ⟨rfl, rfl, rfl, rfl, rfl⟩ rfl rfl rfl rfl rfl (by kernel_rfl) Tryz.func6 (by kernel_rfl)
    (of_decide_eq_true (by kernel_rfl)) (by unfold Func.isWrapper; first | (rw [if_pos (by decide +kernel)]; kernel_rfl) | (rw [if_neg (by decide +kernel)]; exact ⟨rfl, rfl⟩))
    (fun os started H enc _ => zhV os started H enc)
end Go.Proofs.YtpboabpapgimoaaGreat.Av
namespace Go.Proofs.YtpboabpapgimoaaGreat.Av
open Go Go.RowKit Go.ChangeShapes Go.WideShapes
set_option linter.unusedSimpArgs false
set_option linter.unusedVariables false
set_option maxRecDepth 100000
theorem zmL : ∀ t, t = 45 ∨ t = 48 ∨ t = 3 → Tryz.prog.readableRec t = true ∧ t < Tryz.prog.types.size := by
  rintro t (rfl | rfl | rfl)
  all_goals exact ⟨by kernel_rfl, of_decide_eq_true (by kernel_rfl)⟩
theorem zkD (os : Os) (started : os.Started) (H : Type) (enc : TypeId × Value → H) :
    ReturnsInHanded {} Tryz.checked os 5 .any (Rows.flowCutSpec.pre6 enc Tryz.prog Tryz.f5 Rows.flowCutRow.domain false) (Rows.flowCutSpec.post enc Tryz.prog Tryz.f5 false true false false) := by
  refine zeJ (C := Tryz.checked) own started (by kernel_rfl) Tryz.func5
    (ChangeSpec.witness6 (enc := enc) (C := Tryz.checked) false ⟨#[], #[.agg #[.slice none 0 0, .slice none 0 0, .slice none 0 0, .slice none 0 0, .slice none 0 0, .slice none 0 0], .agg #[.int .u32 0, .int .u32 0], .int .i64 0], []⟩ 8 (by kernel_rfl) (by kernel_rfl) (by kernel_rfl) (by kernel_rfl))
    laid rfl rfl (fun t h => zmL t (by simpa using h)) rfl Tryz.underlying4 ?_ ((zb3 zor zos (zb3 zqd zrJ (zb3 (rdI Tryz.underlying3) zlI zh8))))
    fun v hv => zlC v.1.1 v.1.2 flN flN v.2.1 v.2.2.1 hv.1.1 hv.1.2 hv.2.1
  intro ds h
  match ds, h with
  | [a, b, c], _ => rfl
theorem flowCut_holds : Rows.FlowCutSaid :=
  OpenClaim.holds_of_wide 5 Tryz.f5 rfl rfl rfl rfl rfl rfl rfl ⟨rfl, rfl, rfl, rfl, rfl⟩ rfl rfl rfl rfl rfl (by kernel_rfl) Tryz.func5 (by kernel_rfl)
    (of_decide_eq_true (by kernel_rfl)) (by unfold Func.isWrapper; first | (rw [if_pos (by decide +kernel)]; kernel_rfl) | (rw [if_neg (by decide +kernel)]; exact ⟨rfl, rfl⟩))
    (fun os started H enc _ => zkD os started H enc)
end Go.Proofs.YtpboabpapgimoaaGreat.Av
namespace Go.Proofs.YtpboabpapgimoaaGreat.Av
open Go Go.RowKit Go.ChangeShapes Go.WideShapes
set_option linter.unusedSimpArgs false
set_option linter.unusedVariables false
set_option maxRecDepth 100000
theorem atU : zeI Tryz.prog 46 (fun n : Int => .raw (.int .u32 n)) := zla Tryz.underlying46 rfl fun _ => rfl
theorem zkE : ∀ t, t = 45 ∨ t = 61 ∨ t = 46 → Tryz.prog.readableRec t = true ∧ t < Tryz.prog.types.size := by
  rintro t (rfl | rfl | rfl)
  all_goals exact ⟨by kernel_rfl, of_decide_eq_true (by kernel_rfl)⟩
theorem ziY (os : Os) (started : os.Started) (H : Type) (enc : TypeId × Value → H) :
    ReturnsInHanded {} Tryz.checked os 7 .any (Rows.flowFaresSpec.pre6 enc Tryz.prog Tryz.f7 Rows.flowFaresRow.domain false) (Rows.flowFaresSpec.post enc Tryz.prog Tryz.f7 false true false false) := by
  refine zeJ (C := Tryz.checked) own started (by kernel_rfl) Tryz.func7
    (ChangeSpec.witness6 (enc := enc) (C := Tryz.checked) false ⟨#[], #[.agg #[.slice none 0 0, .slice none 0 0, .slice none 0 0, .slice none 0 0, .slice none 0 0, .slice none 0 0], .agg #[.int .i64 0, .int .i64 0], .int .u32 0], []⟩ 8 (by kernel_rfl) (by kernel_rfl) (by kernel_rfl) (by kernel_rfl))
    laid rfl rfl (fun t h => zkE t (by simpa using h)) rfl Tryz.underlying4 ?_ ((zb3 zor zos (zb3 zuD zuE (zb3 rdU atU zh8))))
    fun v hv => zj0 v.1.1 v.1.2 flN flN v.2.1.1 v.2.1.2 v.2.2.1 hv.1.1 hv.1.2 hv.2.2.1
  intro ds h
  match ds, h with
  | [a, b, c], _ => rfl
theorem flowFares_holds : Rows.FlowFaresSaid :=
  OpenClaim.holds_of_wide 7 Tryz.f7 rfl rfl rfl rfl rfl rfl rfl ⟨rfl, rfl, rfl, rfl, rfl⟩ rfl rfl rfl rfl rfl (by kernel_rfl) Tryz.func7 (by kernel_rfl)
    (of_decide_eq_true (by kernel_rfl)) (by unfold Func.isWrapper; first | (rw [if_pos (by decide +kernel)]; kernel_rfl) | (rw [if_neg (by decide +kernel)]; exact ⟨rfl, rfl⟩))
    (fun os started H enc _ => ziY os started H enc)
end Go.Proofs.YtpboabpapgimoaaGreat.Av
namespace Go.Proofs.YtpboabpapgimoaaGreat.Av
set_option linter.unusedSimpArgs false
set_option linter.unusedVariables false
end Go.Proofs.YtpboabpapgimoaaGreat.Av
