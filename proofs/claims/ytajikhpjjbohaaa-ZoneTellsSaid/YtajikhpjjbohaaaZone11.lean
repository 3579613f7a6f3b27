/- The five given statements on zones (ZoneOf, ZoneTells, ZoneBoth, ZoneHas, ZoneLaws) are proved: for every input that the row speaks of, the law returns true and its arguments read as before. No condition is added. Part 11 of 11: AvZY. -/
import Derived.Test.YtajikhpjjbohaaaZone9
import Derived.Test.YtajikhpjjbohaaaZone10
import Derived.Test.YtajikhpjjbohaaaRows

/- Zones: the five laws, as the given rows say them. -/
namespace Go.Proofs.Ytajikhpjjbohaaa.Av
open Go Go.RowKit Go.ChangeShapes Go.WideShapes
set_option linter.unusedSimpArgs false
set_option linter.unusedVariables false
set_option maxRecDepth 100000

theorem own : ownKnob Try.prog.godebug = none := by kernel_rfl
theorem laid : laidOutB Try.prog = true := by kernel_rfl

theorem rdU32 : Rds Try.prog 29 Int (fun n => .raw (.int .u32 n)) (fun n => 0 ≤ n ∧ n < 4294967296) :=
  (rd_int Try.underlying29).map id (fun _ => rfl) fun n h => by
    simp only [Lit.wf, IntKind.min, IntKind.max, Bool.and_eq_true, decide_eq_true_eq] at h
    simp [IntKind.signed, IntKind.bits] at h ⊢
    omega
theorem rdRg : Rds Try.prog 33 Rg rgAV Rg.In :=
  (rd_struct Try.underlying33 (n := 2) (by kernel_rfl) (rdF_cons rdU32 (c := 1) (by kernel_rfl) (rdF_cons rdU32 (c := 1) (by kernel_rfl) rdF_nil rfl rfl) rfl rfl)).map (fun p => ⟨p.1, p.2.1⟩) (fun _ => rfl)
    fun p h => ⟨h.1.1, h.1.2, h.2.1.1, h.2.1.2⟩
theorem bytes33 : Try.prog.bytesOf 33 = 8 := by kernel_rfl
theorem rdZ : Rds Try.prog 22 (List Rg) (fun l => zAV l false) (fun l => l.length < 2 ^ 50 ∧ InZ l) :=
  (rd_slice Try.underlying22 rdRg (n := 2) (by kernel_rfl) (by decide) (by rw [bytes33]; decide)).map id (fun _ => rfl) fun l h => ⟨Nat.lt_of_le_of_lt h.1 (by decide), h.2⟩
theorem atZ : ArgAt Try.prog 22 (fun l : List Rg => zAV l false) := argAt_one Try.underlying22 rfl fun _ => rfl
theorem atU : ArgAt Try.prog 29 (fun n : Int => AV.raw (.int .u32 n)) := argAt_one Try.underlying29 rfl fun _ => rfl
theorem read22 : ∀ t ∈ [22], Try.prog.readableRec t = true ∧ t < Try.prog.types.size := by
  simp only [List.mem_singleton, forall_eq]
  exact ⟨by kernel_rfl, of_decide_eq_true (by kernel_rfl)⟩
theorem read29 : ∀ t ∈ [29], Try.prog.readableRec t = true ∧ t < Try.prog.types.size := by
  simp only [List.mem_singleton, forall_eq]
  exact ⟨by kernel_rfl, of_decide_eq_true (by kernel_rfl)⟩

theorem read2229 : ∀ t, t = 22 ∨ t = 29 → Try.prog.readableRec t = true ∧ t < Try.prog.types.size := by
  rintro t (rfl | rfl)
  · exact read22 _ (by simp)
  · exact read29 _ (by simp)

theorem zoneOf_lifted (os : Os) (started : os.Started) (H : Type) (enc : TypeId × Value → H) :
    ReturnsInHanded {} Try.checked os 3 .any (Rows.zoneOfSpec.pre6 enc Try.prog Try.f3 Rows.zoneOfRow.domain false) (Rows.zoneOfSpec.post enc Try.prog Try.f3 false true false false) := by
  refine lifted_bool (C := Try.checked) own started (by kernel_rfl) Try.func3
    (ChangeSpec.witness6 (enc := enc) (C := Try.checked) false ⟨#[], #[.slice none 0 0], []⟩ 8 (by kernel_rfl) (by kernel_rfl) (by kernel_rfl) (by kernel_rfl))
    laid rfl rfl (fun t h => read22 t (by simpa using h)) rfl Try.underlying4 ?_ (rdA_cons rdZ atZ rdA_nil) fun v hv => lawOf_calls v.1 false hv.1.2 hv.1.1
  intro ds h
  match ds, h with
  | [d], _ => rfl
theorem zoneOf_holds : Rows.ZoneOfSaid :=
  OpenClaim.holds_of_wide 3 Try.f3 rfl rfl rfl rfl rfl rfl rfl ⟨rfl, rfl, rfl, rfl, rfl⟩ rfl rfl rfl rfl rfl (by kernel_rfl) Try.func3 (by kernel_rfl)
    (of_decide_eq_true (by kernel_rfl)) (by unfold Func.isWrapper; first | (rw [if_pos (by decide +kernel)]; kernel_rfl) | (rw [if_neg (by decide +kernel)]; exact ⟨rfl, rfl⟩))
    (fun os started H enc _ => zoneOf_lifted os started H enc)

theorem zoneTells_lifted (os : Os) (started : os.Started) (H : Type) (enc : TypeId × Value → H) :
    ReturnsInHanded {} Try.checked os 4 .any (Rows.zoneTellsSpec.pre6 enc Try.prog Try.f4 Rows.zoneTellsRow.domain false) (Rows.zoneTellsSpec.post enc Try.prog Try.f4 false true false false) := by
  refine lifted_bool (C := Try.checked) own started (by kernel_rfl) Try.func4
    (ChangeSpec.witness6 (enc := enc) (C := Try.checked) false ⟨#[], #[.slice none 0 0, .int .u32 0], []⟩ 8 (by kernel_rfl) (by kernel_rfl) (by kernel_rfl) (by kernel_rfl))
    laid rfl rfl (fun t h => read2229 t (by simpa using h)) rfl Try.underlying4 ?_ (rdA_cons rdZ atZ (rdA_cons rdU32 atU rdA_nil)) fun v hv => lawTells_calls v.1 false v.2.1 hv.1.2 hv.1.1
  intro ds h
  match ds, h with
  | [d, e], _ => rfl
theorem zoneTells_holds : Rows.ZoneTellsSaid :=
  OpenClaim.holds_of_wide 4 Try.f4 rfl rfl rfl rfl rfl rfl rfl ⟨rfl, rfl, rfl, rfl, rfl⟩ rfl rfl rfl rfl rfl (by kernel_rfl) Try.func4 (by kernel_rfl)
    (of_decide_eq_true (by kernel_rfl)) (by unfold Func.isWrapper; first | (rw [if_pos (by decide +kernel)]; kernel_rfl) | (rw [if_neg (by decide +kernel)]; exact ⟨rfl, rfl⟩))
    (fun os started H enc _ => zoneTells_lifted os started H enc)

theorem zoneBoth_lifted (os : Os) (started : os.Started) (H : Type) (enc : TypeId × Value → H) :
    ReturnsInHanded {} Try.checked os 5 .any (Rows.zoneBothSpec.pre6 enc Try.prog Try.f5 Rows.zoneBothRow.domain false) (Rows.zoneBothSpec.post enc Try.prog Try.f5 false true false false) := by
  refine lifted_bool (C := Try.checked) own started (by kernel_rfl) Try.func5
    (ChangeSpec.witness6 (enc := enc) (C := Try.checked) false ⟨#[], #[.slice none 0 0, .slice none 0 0], []⟩ 8 (by kernel_rfl) (by kernel_rfl) (by kernel_rfl) (by kernel_rfl))
    laid rfl rfl (fun t h => read22 t (by simpa using h)) rfl Try.underlying4 ?_ (rdA_cons rdZ atZ (rdA_cons rdZ atZ rdA_nil)) fun v hv => lawBoth_calls v.1 v.2.1 false false hv.1.2 hv.2.1.2 hv.1.1 hv.2.1.1
  intro ds h
  match ds, h with
  | [d, e], _ => rfl
theorem zoneBoth_holds : Rows.ZoneBothSaid :=
  OpenClaim.holds_of_wide 5 Try.f5 rfl rfl rfl rfl rfl rfl rfl ⟨rfl, rfl, rfl, rfl, rfl⟩ rfl rfl rfl rfl rfl (by kernel_rfl) Try.func5 (by kernel_rfl)
    (of_decide_eq_true (by kernel_rfl)) (by unfold Func.isWrapper; first | (rw [if_pos (by decide +kernel)]; kernel_rfl) | (rw [if_neg (by decide +kernel)]; exact ⟨rfl, rfl⟩))
    (fun os started H enc _ => zoneBoth_lifted os started H enc)

theorem zoneHas_lifted (os : Os) (started : os.Started) (H : Type) (enc : TypeId × Value → H) :
    ReturnsInHanded {} Try.checked os 6 .any (Rows.zoneHasSpec.pre6 enc Try.prog Try.f6 Rows.zoneHasRow.domain false) (Rows.zoneHasSpec.post enc Try.prog Try.f6 false true false false) := by
  refine lifted_bool (C := Try.checked) own started (by kernel_rfl) Try.func6
    (ChangeSpec.witness6 (enc := enc) (C := Try.checked) false ⟨#[], #[.slice none 0 0, .slice none 0 0, .int .u32 0], []⟩ 8 (by kernel_rfl) (by kernel_rfl) (by kernel_rfl) (by kernel_rfl))
    laid rfl rfl (fun t h => read2229 t (by simpa using h)) rfl Try.underlying4 ?_ (rdA_cons rdZ atZ (rdA_cons rdZ atZ (rdA_cons rdU32 atU rdA_nil))) fun v hv => lawHas_calls v.1 v.2.1 false false v.2.2.1 hv.2.2.1 hv.1.2 hv.2.1.2 hv.1.1 hv.2.1.1
  intro ds h
  match ds, h with
  | [d, e, g], _ => rfl
theorem zoneHas_holds : Rows.ZoneHasSaid :=
  OpenClaim.holds_of_wide 6 Try.f6 rfl rfl rfl rfl rfl rfl rfl ⟨rfl, rfl, rfl, rfl, rfl⟩ rfl rfl rfl rfl rfl (by kernel_rfl) Try.func6 (by kernel_rfl)
    (of_decide_eq_true (by kernel_rfl)) (by unfold Func.isWrapper; first | (rw [if_pos (by decide +kernel)]; kernel_rfl) | (rw [if_neg (by decide +kernel)]; exact ⟨rfl, rfl⟩))
    (fun os started H enc _ => zoneHas_lifted os started H enc)

theorem zoneLaws_lifted (os : Os) (started : os.Started) (H : Type) (enc : TypeId × Value → H) :
    ReturnsInHanded {} Try.checked os 7 .any (Rows.zoneLawsSpec.pre6 enc Try.prog Try.f7 Rows.zoneLawsRow.domain false) (Rows.zoneLawsSpec.post enc Try.prog Try.f7 false true false false) := by
  refine lifted_bool (C := Try.checked) own started (by kernel_rfl) Try.func7
    (ChangeSpec.witness6 (enc := enc) (C := Try.checked) false ⟨#[], #[.slice none 0 0, .slice none 0 0, .slice none 0 0], []⟩ 8 (by kernel_rfl) (by kernel_rfl) (by kernel_rfl) (by kernel_rfl))
    laid rfl rfl (fun t h => read22 t (by simpa using h)) rfl Try.underlying4 ?_ (rdA_cons rdZ atZ (rdA_cons rdZ atZ (rdA_cons rdZ atZ rdA_nil))) fun v hv => lawLaws_calls v.1 v.2.1 v.2.2.1 false false false hv.1.2 hv.2.1.2 hv.2.2.1.2 hv.1.1 hv.2.1.1 hv.2.2.1.1
  intro ds h
  match ds, h with
  | [d, e, g], _ => rfl
theorem zoneLaws_holds : Rows.ZoneLawsSaid :=
  OpenClaim.holds_of_wide 7 Try.f7 rfl rfl rfl rfl rfl rfl rfl ⟨rfl, rfl, rfl, rfl, rfl⟩ rfl rfl rfl rfl rfl (by kernel_rfl) Try.func7 (by kernel_rfl)
    (of_decide_eq_true (by kernel_rfl)) (by unfold Func.isWrapper; first | (rw [if_pos (by decide +kernel)]; kernel_rfl) | (rw [if_neg (by decide +kernel)]; exact ⟨rfl, rfl⟩))
    (fun os started H enc _ => zoneLaws_lifted os started H enc)
end Go.Proofs.Ytajikhpjjbohaaa.Av
