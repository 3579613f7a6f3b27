/- The law PrefixNested Part 19 of 19: AvSQ1. -/
import Derived.Test.YtckabcbfbpejkaaDoorPn17
import Derived.Test.YtckabcbfbpejkaaDoorPn18
namespace Go.Proofs.YtckabcbfbpejkaaDoor.Av
open Go Go.RowKit Go.ChangeShapes Go.WideShapes
set_option linter.unusedSimpArgs false
set_option linter.unusedVariables false
set_option maxRecDepth 100000
theorem zd3 : ∀ t, t = 24 → Tryd.prog.readableRec t = true ∧ t < Tryd.prog.types.size := by
  rintro t rfl
  exact ⟨by kernel_rfl, of_decide_eq_true (by kernel_rfl)⟩
theorem zdm (os : Os) (started : os.Started) (H : Type) (enc : TypeId × Value → H) :
    ReturnsInHanded {} Tryd.checked os 3 .any (fun w args => (Rows.prefixNestedSpec.pre enc Tryd.prog Tryd.f3 Rows.prefixNestedRow.domain false w args ∧ laidMetH Tryd.prog ze6 w) ∧ sizedMet enc Tryd.prog Tryd.f3 (OpenSpec.ofChange Rows.prefixNestedSpec) false w args) (Rows.prefixNestedSpec.post enc Tryd.prog Tryd.f3 false true false false) := by
  refine zgE (C := Tryd.checked) own started (by kernel_rfl) Tryd.func3
    (ChangeSpec.witness_shaped (enc := enc) (C := Tryd.checked) (os := os) (X := fun w _ => laidMetH Tryd.prog ze6 w) false (laidW os) #[.agg #[.int .u32 0, .int .i64 0], .agg #[.int .u32 0, .int .i64 0]] 8 rfl (World.shaped_of_RefB (by kernel_rfl) (by kernel_rfl)) (by kernel_rfl) (by kernel_rfl) (by kernel_rfl) (ziz os _))
    laid rfl rfl (fun t h => zd3 t (by simpa using h)) rfl Tryd.underlying4 ?_ (zgD zkn zko (zgD zkn zko zjv))
    (fun v hv => zdP v.1.addr v.1.len v.2.1.addr v.2.1.len hv.1.1 hv.1.2 hv.2.1.1 hv.2.1.2) (fun W sh h => zjb sh h)
  intro ds h
  match ds, h with
  | [a, b], _ => rfl
theorem zdQ : Rows.PrefixNestedSaid :=
  OpenClaim.holds_of_wide 3 Tryd.f3 rfl rfl rfl rfl rfl rfl rfl ⟨rfl, rfl, rfl, rfl, rfl⟩ rfl rfl rfl rfl rfl (by kernel_rfl) Tryd.func3 (by kernel_rfl)
    (of_decide_eq_true (by kernel_rfl)) (by unfold Func.isWrapper; first | (rw [if_pos (by decide +kernel)]; kernel_rfl) | (rw [if_neg (by decide +kernel)]; exact ⟨rfl, rfl⟩))
    (fun os started H enc _ => zdm os started H enc)
theorem prefixNested_card : Rows.PrefixNestedCardSaid :=
  Claim7.holds_tied_plain_at .later [] [.data, .data, .data, .data, .sentinel, .sentinel, .pinned] true (true, "b7bfd3f1296cd71c2b916e19cbd6c91930ac18ed402b40caa8ce61de6e1b746f") true
    zdQ (fun _ h => by cases h) (by kernel_rfl) (fun _ h => by cases h) prefixNested_row_tie rfl ⟨rfl, rfl⟩ (by kernel_rfl) rfl
    (fun f fn hf hfn => by
      obtain rfl : f = 3 := Option.some.inj ((show Tryd.prog.funcNamed "waystone/waystonelaw02.PrefixNested" = some 3 by kernel_rfl).symm.trans hf) |>.symm
      obtain rfl : fn = Tryd.f3 := (Option.some.inj (Tryd.func3.symm.trans hfn)).symm
      exact ⟨by kernel_rfl, fun j t ht => by
        have hp : Tryd.f3.params = #[24, 24] := rfl
        rw [hp] at ht
        have hm : t ∈ [24, 24] := by simpa using Array.mem_of_getElem? ht
        have hall : ([24, 24].all fun u => !Tryd.prog.wantsStandIn u) = true := by kernel_rfl
        exact (show Tryd.prog.wantsStandIn t = false by simpa using List.all_eq_true.1 hall t hm)⟩)
    (by kernel_rfl)
end Go.Proofs.YtckabcbfbpejkaaDoor.Av
