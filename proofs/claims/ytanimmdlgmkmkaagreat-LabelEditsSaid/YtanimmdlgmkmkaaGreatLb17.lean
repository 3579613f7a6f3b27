/- Labels: LabelBack, LabelEdits. Part 17 of 17: AvNR3, AvLQ4, AvLQ5, AvLQX. -/
import Derived.Test.YtanimmdlgmkmkaaGreatLb15
import Derived.Test.YtanimmdlgmkmkaaGreatLb16
namespace Go.Proofs.YtanimmdlgmkmkaaGreat.Av
open Go Go.RowKit Go.ChangeShapes Go.WideShapes
set_option linter.unusedSimpArgs false
set_option linter.unusedVariables false
set_option maxRecDepth 100000
theorem ztz : zdk Tryz.prog 73 zE := zdQ Tryz.underlying73 (g := fun r => (zE r).cells) fun _ => rfl
theorem zse : Rds Tryz.prog 75 Acl zkE (fun p => RuOK p.r) :=
  (zcw Tryz.underlying75 (n := 8) (by kernel_rfl) (zaI (zpA Tryz.underlying4) (c := 1) (by kernel_rfl) (zaI zo2 (c := 7) (by kernel_rfl) zdy rfl rfl) rfl rfl)).map (fun p => ⟨p.1, p.2.1⟩) (fun _ => rfl)
    fun p h => ⟨h.2.1.1, h.2.1.2⟩
theorem zlK : Tryz.prog.bytesOf 75 = 56 := by kernel_rfl
theorem zqA : Rds Tryz.prog 70 (List Acl) (fun l => zar l false) (fun l => l.length < 2 ^ 60 ∧ ∀ p ∈ l, RuOK p.r) :=
  (zgo Tryz.underlying70 zse (n := 8) (by kernel_rfl) (by decide) (by rw [zlK]; decide)).map id (fun _ => rfl) fun l h => ⟨by
    have := h.1; rw [zlK, zfl] at this; simp only [id]; omega, h.2⟩
theorem zqB : zdk Tryz.prog 70 (fun l => zar l false) := zkc Tryz.underlying70 rfl fun _ => rfl
end Go.Proofs.YtanimmdlgmkmkaaGreat.Av
namespace Go.Proofs.YtanimmdlgmkmkaaGreat.Av
open Go Go.RowKit Go.ChangeShapes Go.WideShapes
set_option linter.unusedSimpArgs false
set_option linter.unusedVariables false
set_option maxRecDepth 100000
theorem zjK : ∀ t, t = 28 ∨ t = 73 ∨ t = 3 → Tryz.prog.readableRec t = true ∧ t < Tryz.prog.types.size := by
  rintro t (rfl | rfl | rfl)
  all_goals exact ⟨by kernel_rfl, of_decide_eq_true (by kernel_rfl)⟩
theorem zig (os : Os) (started : os.Started) (H : Type) (enc : TypeId × Value → H) :
    ReturnsInHanded {} Tryz.checked os 7 .any (Rows.labelBackSpec.pre6 enc Tryz.prog Tryz.f7 Rows.labelBackRow.domain false) (Rows.labelBackSpec.post enc Tryz.prog Tryz.f7 false true false false) := by
  refine zhM (C := Tryz.checked) own started (by kernel_rfl) Tryz.func7
    (ChangeSpec.witness6 (enc := enc) (C := Tryz.checked) false ⟨#[], #[.agg #[.slice none 0 0, .slice none 0 0, .slice none 0 0], .agg #[.int .i64 0, .int .i64 0, .int .i64 0, .int .i64 0, .int .u32 0, .int .u32 0, .int .i64 0], .int .i64 0], []⟩ 8 (by kernel_rfl) (by kernel_rfl) (by kernel_rfl) (by kernel_rfl))
    laid rfl rfl (fun t h => zjK t (by simpa using h)) rfl Tryz.underlying4 ?_ (ze8 zo3 zqz (ze8 zo2 ztz (ze8 (rdI Tryz.underlying3) zsd zmz)))
    fun v hv => zjc v.1 flN v.2.1 v.2.2.1 hv.1 ⟨hv.2.1.1, hv.2.1.2⟩
  intro ds h
  match ds, h with
  | [a, b, c], _ => rfl
theorem labelBack_holds : Rows.LabelBackSaid :=
  OpenClaim.holds_of_wide 7 Tryz.f7 rfl rfl rfl rfl rfl rfl rfl ⟨rfl, rfl, rfl, rfl, rfl⟩ rfl rfl rfl rfl rfl (by kernel_rfl) Tryz.func7 (by kernel_rfl)
    (of_decide_eq_true (by kernel_rfl)) (by unfold Func.isWrapper; first | (rw [if_pos (by decide +kernel)]; kernel_rfl) | (rw [if_neg (by decide +kernel)]; exact ⟨rfl, rfl⟩))
    (fun os started H enc _ => zig os started H enc)
end Go.Proofs.YtanimmdlgmkmkaaGreat.Av
namespace Go.Proofs.YtanimmdlgmkmkaaGreat.Av
open Go Go.RowKit Go.ChangeShapes Go.WideShapes
set_option linter.unusedSimpArgs false
set_option linter.unusedVariables false
set_option maxRecDepth 100000
theorem zjd : ∀ t, t = 28 ∨ t = 70 → Tryz.prog.readableRec t = true ∧ t < Tryz.prog.types.size := by
  rintro t (rfl | rfl)
  all_goals exact ⟨by kernel_rfl, of_decide_eq_true (by kernel_rfl)⟩
theorem zhv (os : Os) (started : os.Started) (H : Type) (enc : TypeId × Value → H) :
    ReturnsInHanded {} Tryz.checked os 6 .any (Rows.labelEditsSpec.pre6 enc Tryz.prog Tryz.f6 Rows.labelEditsRow.domain false) (Rows.labelEditsSpec.post enc Tryz.prog Tryz.f6 false true false false) := by
  refine zhM (C := Tryz.checked) own started (by kernel_rfl) Tryz.func6
    (ChangeSpec.witness6 (enc := enc) (C := Tryz.checked) false ⟨#[], #[.agg #[.slice none 0 0, .slice none 0 0, .slice none 0 0], .slice none 0 0], []⟩ 8 (by kernel_rfl) (by kernel_rfl) (by kernel_rfl) (by kernel_rfl))
    laid rfl rfl (fun t h => zjd t (by simpa using h)) rfl Tryz.underlying4 ?_ (ze8 zo3 zqz (ze8 zqA zqB zmz))
    fun v hv => zif v.1 v.2.1 false hv.1 hv.2.1.2 hv.2.1.1
  intro ds h
  match ds, h with
  | [a, b], _ => rfl
theorem labelEdits_holds : Rows.LabelEditsSaid :=
  OpenClaim.holds_of_wide 6 Tryz.f6 rfl rfl rfl rfl rfl rfl rfl ⟨rfl, rfl, rfl, rfl, rfl⟩ rfl rfl rfl rfl rfl (by kernel_rfl) Tryz.func6 (by kernel_rfl)
    (of_decide_eq_true (by kernel_rfl)) (by unfold Func.isWrapper; first | (rw [if_pos (by decide +kernel)]; kernel_rfl) | (rw [if_neg (by decide +kernel)]; exact ⟨rfl, rfl⟩))
    (fun os started H enc _ => zhv os started H enc)
end Go.Proofs.YtanimmdlgmkmkaaGreat.Av
namespace Go.Proofs.YtanimmdlgmkmkaaGreat.Av
set_option linter.unusedSimpArgs false
set_option linter.unusedVariables false
end Go.Proofs.YtanimmdlgmkmkaaGreat.Av
