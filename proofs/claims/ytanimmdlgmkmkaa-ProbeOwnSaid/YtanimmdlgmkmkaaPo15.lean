/- Probe: ProbeOwn Part 15 of 15: AvBQ3. -/
import Derived.Test.YtanimmdlgmkmkaaPo11
import Derived.Test.YtanimmdlgmkmkaaPo14

/- The law ProbeOwn, as the given row says it: for every two networks, two queries and turns. -/
namespace Go.Proofs.Ytanimmdlgmkmkaa.Av
open Go Go.RowKit Go.ChangeShapes Go.WideShapes
set_option linter.unusedSimpArgs false
set_option linter.unusedVariables false
set_option maxRecDepth 100000

theorem rdQy2 : Rds Try.prog 77 (Qy × Qy) (fun p => qy2AV p.1 p.2) (fun p => RgOK p.1.r ∧ RgOK p.2.r) :=
  (rd_array2 Try.underlying77 rdQy (c := 7) (by kernel_rfl) (by kernel_rfl)).map id (fun _ => rfl) fun p h => h
theorem atQy2 : ArgAt Try.prog 77 (fun p : Qy × Qy => qy2AV p.1 p.2) := argAt_array Try.underlying77 (g := fun p => (qyAV p.1).cells ++ (qyAV p.2).cells) fun _ => rfl
theorem atInts : ArgAt Try.prog 22 (fun l : List Int => intsAV l false) := argAt_one Try.underlying22 rfl fun _ => rfl
theorem probeOwn_read : ∀ t, t = 29 ∨ t = 77 ∨ t = 22 → Try.prog.readableRec t = true ∧ t < Try.prog.types.size := by
  rintro t (rfl | rfl | rfl)
  all_goals exact ⟨by kernel_rfl, of_decide_eq_true (by kernel_rfl)⟩
theorem probeOwn_lifted (os : Os) (started : os.Started) (H : Type) (enc : TypeId × Value → H) :
    ReturnsInHanded {} Try.checked os 8 .any (Rows.probeOwnSpec.pre6 enc Try.prog Try.f8 Rows.probeOwnRow.domain false) (Rows.probeOwnSpec.post enc Try.prog Try.f8 false true false false) := by
  refine lifted_bool (C := Try.checked) own started (by kernel_rfl) Try.func8
    (ChangeSpec.witness6 (enc := enc) (C := Try.checked) false ⟨#[], #[.agg #[.slice none 0 0, .slice none 0 0, .slice none 0 0, .slice none 0 0, .slice none 0 0, .slice none 0 0], .agg #[.int .i64 0, .int .i64 0, .int .i64 0, .int .i64 0, .int .u32 0, .int .u32 0, .string ⟨#[]⟩, .int .i64 0, .int .i64 0, .int .i64 0, .int .i64 0, .int .u32 0, .int .u32 0, .string ⟨#[]⟩], .slice none 0 0], []⟩ 8 (by kernel_rfl) (by kernel_rfl) (by kernel_rfl) (by kernel_rfl))
    laid rfl rfl (fun t h => probeOwn_read t (by simpa using h)) rfl Try.underlying4 ?_ (rdA_cons rdNw2 atNw2 (rdA_cons rdQy2 atQy2 (rdA_cons rdInts atInts rdA_nil)))
    fun v hv => probeOwn_calls v.1.1 v.1.2 flN flN v.2.1.1 v.2.1.2 v.2.2.1 hv.1.1 hv.1.2 hv.2.1.1 hv.2.1.2 hv.2.2.1
  intro ds h
  match ds, h with
  | [a, b, c], _ => rfl
theorem probeOwn_holds : Rows.ProbeOwnSaid :=
  OpenClaim.holds_of_wide 8 Try.f8 rfl rfl rfl rfl rfl rfl rfl ⟨rfl, rfl, rfl, rfl, rfl⟩ rfl rfl rfl rfl rfl (by kernel_rfl) Try.func8 (by kernel_rfl)
    (of_decide_eq_true (by kernel_rfl)) (by unfold Func.isWrapper; first | (rw [if_pos (by decide +kernel)]; kernel_rfl) | (rw [if_neg (by decide +kernel)]; exact ⟨rfl, rfl⟩))
    (fun os started H enc _ => probeOwn_lifted os started H enc)
end Go.Proofs.Ytanimmdlgmkmkaa.Av

