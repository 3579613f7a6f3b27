/- Probe: ProbeTells. Part 15 of 15: AvBQ4. -/
import Derived.Test.YtanimmdlgmkmkaaGreatPt11
import Derived.Test.YtanimmdlgmkmkaaGreatPt14
namespace Go.Proofs.YtanimmdlgmkmkaaGreat.Av
open Go Go.RowKit Go.ChangeShapes Go.WideShapes
set_option linter.unusedSimpArgs false
set_option linter.unusedVariables false
set_option maxRecDepth 100000
theorem zjn : ∀ t, t = 29 ∨ t = 35 ∨ t = 22 → Tryz.prog.readableRec t = true ∧ t < Tryz.prog.types.size := by
  rintro t (rfl | rfl | rfl)
  all_goals exact ⟨by kernel_rfl, of_decide_eq_true (by kernel_rfl)⟩
theorem zhD (os : Os) (started : os.Started) (H : Type) (enc : TypeId × Value → H) :
    ReturnsInHanded {} Tryz.checked os 5 .any (Rows.probeTellsSpec.pre6 enc Tryz.prog Tryz.f5 Rows.probeTellsRow.domain false) (Rows.probeTellsSpec.post enc Tryz.prog Tryz.f5 false true false false) := by
  refine zmb (C := Tryz.checked) own started (by kernel_rfl) Tryz.func5
    (ChangeSpec.witness6 (enc := enc) (C := Tryz.checked) false ⟨#[], #[.agg #[.slice none 0 0, .slice none 0 0, .slice none 0 0, .slice none 0 0, .slice none 0 0, .slice none 0 0], .agg #[.int .i64 0, .int .i64 0, .int .i64 0, .int .i64 0, .int .u32 0, .int .u32 0, .string ⟨#[]⟩], .slice none 0 0], []⟩ 8 (by kernel_rfl) (by kernel_rfl) (by kernel_rfl) (by kernel_rfl))
    laid rfl rfl (fun t h => zjn t (by simpa using h)) rfl Tryz.underlying4 ?_ (zij zrQ zrR (zij zts ztt (zij zpf zqk zpc)))
    fun v hv => zii v.1.1 v.1.2 flN flN v.2.1 v.2.2.1 hv.1.1 hv.1.2 hv.2.1 hv.2.2.1.2 (Nat.lt_trans hv.2.2.1.1 (by decide))
  intro ds h
  match ds, h with
  | [a, b, c], _ => rfl
theorem probeTells_holds : Rows.ProbeTellsSaid :=
  OpenClaim.holds_of_wide 5 Tryz.f5 rfl rfl rfl rfl rfl rfl rfl ⟨rfl, rfl, rfl, rfl, rfl⟩ rfl rfl rfl rfl rfl (by kernel_rfl) Tryz.func5 (by kernel_rfl)
    (of_decide_eq_true (by kernel_rfl)) (by unfold Func.isWrapper; first | (rw [if_pos (by decide +kernel)]; kernel_rfl) | (rw [if_neg (by decide +kernel)]; exact ⟨rfl, rfl⟩))
    (fun os started H enc _ => zhD os started H enc)
end Go.Proofs.YtanimmdlgmkmkaaGreat.Av
