/- Labels: LabelBack Part 17 of 17: AvNR3, AvLQ4. -/
import Derived.Test.YtanimmdlgmkmkaaGreatLb15
import Derived.Test.YtanimmdlgmkmkaaGreatLb16

/- Rules, and acts of labels, read. -/
namespace Go.Proofs.YtanimmdlgmkmkaaGreat.Av
open Go Go.RowKit Go.ChangeShapes Go.WideShapes
set_option linter.unusedSimpArgs false
set_option linter.unusedVariables false
set_option maxRecDepth 100000

theorem atRu : ArgAt Tryz.prog 73 ruAV := argAt_struct Tryz.underlying73 (g := fun r => (ruAV r).cells) fun _ => rfl
theorem rdAcl : Rds Tryz.prog 75 Acl aclAV (fun p => RuOK p.r) :=
  (rd_struct Tryz.underlying75 (n := 8) (by kernel_rfl) (rdF_cons (rd_bool Tryz.underlying4) (c := 1) (by kernel_rfl) (rdF_cons rdRu (c := 7) (by kernel_rfl) rdF_nil rfl rfl) rfl rfl)).map (fun p => ⟨p.1, p.2.1⟩) (fun _ => rfl)
    fun p h => ⟨h.2.1.1, h.2.1.2⟩
theorem bytesAcl : Tryz.prog.bytesOf 75 = 56 := by kernel_rfl
theorem rdAcls : Rds Tryz.prog 70 (List Acl) (fun l => aclsAV l false) (fun l => l.length < 2 ^ 60 ∧ ∀ p ∈ l, RuOK p.r) :=
  (rd_slice Tryz.underlying70 rdAcl (n := 8) (by kernel_rfl) (by decide) (by rw [bytesAcl]; decide)).map id (fun _ => rfl) fun l h => ⟨by
    have := h.1; rw [bytesAcl, reach_lit] at this; simp only [id]; omega, h.2⟩
theorem atAcls : ArgAt Tryz.prog 70 (fun l => aclsAV l false) := argAt_one Tryz.underlying70 rfl fun _ => rfl
end Go.Proofs.YtanimmdlgmkmkaaGreat.Av


/- The law LabelBack, as the given row says it: for every network, rule and ID. -/
namespace Go.Proofs.YtanimmdlgmkmkaaGreat.Av
open Go Go.RowKit Go.ChangeShapes Go.WideShapes
set_option linter.unusedSimpArgs false
set_option linter.unusedVariables false
set_option maxRecDepth 100000

theorem labelBack_read : ∀ t, t = 28 ∨ t = 73 ∨ t = 3 → Tryz.prog.readableRec t = true ∧ t < Tryz.prog.types.size := by
  rintro t (rfl | rfl | rfl)
  all_goals exact ⟨by kernel_rfl, of_decide_eq_true (by kernel_rfl)⟩
theorem labelBack_lifted (os : Os) (started : os.Started) (H : Type) (enc : TypeId × Value → H) :
    ReturnsInHanded {} Tryz.checked os 7 .any (Rows.labelBackSpec.pre6 enc Tryz.prog Tryz.f7 Rows.labelBackRow.domain false) (Rows.labelBackSpec.post enc Tryz.prog Tryz.f7 false true false false) := by
  refine lifted_bool (C := Tryz.checked) own started (by kernel_rfl) Tryz.func7
    (ChangeSpec.witness6 (enc := enc) (C := Tryz.checked) false ⟨#[], #[.agg #[.slice none 0 0, .slice none 0 0, .slice none 0 0], .agg #[.int .i64 0, .int .i64 0, .int .i64 0, .int .i64 0, .int .u32 0, .int .u32 0, .int .i64 0], .int .i64 0], []⟩ 8 (by kernel_rfl) (by kernel_rfl) (by kernel_rfl) (by kernel_rfl))
    laid rfl rfl (fun t h => labelBack_read t (by simpa using h)) rfl Tryz.underlying4 ?_ (rdA_cons rdNw atNw (rdA_cons rdRu atRu (rdA_cons (rdI Tryz.underlying3) atInt rdA_nil)))
    fun v hv => labelBack_calls v.1 flN v.2.1 v.2.2.1 hv.1 ⟨hv.2.1.1, hv.2.1.2⟩
  intro ds h
  match ds, h with
  | [a, b, c], _ => rfl
theorem labelBack_holds : Rows.LabelBackSaid :=
  OpenClaim.holds_of_wide 7 Tryz.f7 rfl rfl rfl rfl rfl rfl rfl ⟨rfl, rfl, rfl, rfl, rfl⟩ rfl rfl rfl rfl rfl (by kernel_rfl) Tryz.func7 (by kernel_rfl)
    (of_decide_eq_true (by kernel_rfl)) (by unfold Func.isWrapper; first | (rw [if_pos (by decide +kernel)]; kernel_rfl) | (rw [if_neg (by decide +kernel)]; exact ⟨rfl, rfl⟩))
    (fun os started H enc _ => labelBack_lifted os started H enc)
end Go.Proofs.YtanimmdlgmkmkaaGreat.Av

