/- QueryTells: for every pair of networks, and any query, whether it is right, its sources and its verdict are as the document says, or the error; no condition. Part 14 of 14: AvQQ1. -/
import Derived.Test.YtanimmdlgmkmkaaGreatQtl10
import Derived.Test.YtanimmdlgmkmkaaGreatQtl13

/- The law QueryTells, as the given row says it: for every pair of networks, and any query. -/
namespace Go.Proofs.YtanimmdlgmkmkaaGreat.Av
open Go Go.RowKit Go.ChangeShapes Go.WideShapes
set_option linter.unusedSimpArgs false
set_option linter.unusedVariables false
set_option maxRecDepth 100000

theorem queryTells_read : ∀ t, t = 29 ∨ t = 35 → Tryz.prog.readableRec t = true ∧ t < Tryz.prog.types.size := by
  rintro t (rfl | rfl)
  all_goals exact ⟨by kernel_rfl, of_decide_eq_true (by kernel_rfl)⟩
theorem queryTells_lifted (os : Os) (started : os.Started) (H : Type) (enc : TypeId × Value → H) :
    ReturnsInHanded {} Tryz.checked os 3 .any (Rows.queryTellsSpec.pre6 enc Tryz.prog Tryz.f3 Rows.queryTellsRow.domain false) (Rows.queryTellsSpec.post enc Tryz.prog Tryz.f3 false true false false) := by
  refine lifted_bool (C := Tryz.checked) own started (by kernel_rfl) Tryz.func3
    (ChangeSpec.witness6 (enc := enc) (C := Tryz.checked) false ⟨#[], #[.agg #[.slice none 0 0, .slice none 0 0, .slice none 0 0, .slice none 0 0, .slice none 0 0, .slice none 0 0], .agg #[.int .i64 0, .int .i64 0, .int .i64 0, .int .i64 0, .int .u32 0, .int .u32 0, .string ⟨#[]⟩]], []⟩ 8 (by kernel_rfl) (by kernel_rfl) (by kernel_rfl) (by kernel_rfl))
    laid rfl rfl (fun t h => queryTells_read t (by simpa using h)) rfl Tryz.underlying4 ?_ (rdA_cons rdNw2 atNw2 (rdA_cons rdQy atQy rdA_nil))
    fun v hv => queryTells_calls v.1.1 v.1.2 flN flN v.2.1 hv.1.1 hv.1.2 hv.2.1
  intro ds h
  match ds, h with
  | [a, b], _ => rfl
theorem queryTells_holds : Rows.QueryTellsSaid :=
  OpenClaim.holds_of_wide 3 Tryz.f3 rfl rfl rfl rfl rfl rfl rfl ⟨rfl, rfl, rfl, rfl, rfl⟩ rfl rfl rfl rfl rfl (by kernel_rfl) Tryz.func3 (by kernel_rfl)
    (of_decide_eq_true (by kernel_rfl)) (by unfold Func.isWrapper; first | (rw [if_pos (by decide +kernel)]; kernel_rfl) | (rw [if_neg (by decide +kernel)]; exact ⟨rfl, rfl⟩))
    (fun os started H enc _ => queryTells_lifted os started H enc)
end Go.Proofs.YtanimmdlgmkmkaaGreat.Av

