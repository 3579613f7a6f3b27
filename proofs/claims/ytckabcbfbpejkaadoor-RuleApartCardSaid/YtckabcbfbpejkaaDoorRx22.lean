/- Rules: the laws RuleTells, RuleBack, RuleApart, RuleFirst. Part 22 of 22: AvRR, AvRQ1, AvRQ2, AvRQ3, AvRQ4, AvRQX. -/
import Derived.Test.YtckabcbfbpejkaaDoorRx20
import Derived.Test.YtckabcbfbpejkaaDoorRx21
namespace Go.Proofs.YtckabcbfbpejkaaDoor.Av
open Go Go.RowKit Go.ChangeShapes Go.WideShapes
set_option linter.unusedSimpArgs false
set_option linter.unusedVariables false
set_option maxRecDepth 100000
def zog (r : Rg) : Prop := (0 ≤ r.lo ∧ r.lo < 4294967296) ∧ 0 ≤ r.hi ∧ r.hi < 4294967296
theorem zpH : Rds Tryd.prog 28 Rg zgn zog :=
  (zdT Tryd.underlying28 (n := 2) (by kernel_rfl) (zaT rdU (c := 1) (by kernel_rfl) (zaT rdU (c := 1) (by kernel_rfl) zfH rfl rfl) rfl rfl)).map (fun p => ⟨p.1, p.2.1⟩) (fun _ => rfl)
    fun p h => ⟨h.1, h.2.1⟩
def zoh (r : Ru) : Prop := zog r.r ∧ -9223372036854775808 ≤ r.id ∧ r.id < 9223372036854775808
theorem zmS : Rds Tryd.prog 52 Ru ze zoh :=
  (zdT Tryd.underlying52 (n := 7) (by kernel_rfl) (zaT (rdI Tryd.underlying3) (c := 1) (by kernel_rfl) (zaT (rdI Tryd.underlying3) (c := 1) (by kernel_rfl) (zaT (rdI Tryd.underlying3) (c := 1) (by kernel_rfl)
    (zaT (rdI Tryd.underlying50) (c := 1) (by kernel_rfl) (zaT zpH (c := 2) (by kernel_rfl) (zaT (rdI Tryd.underlying3) (c := 1) (by kernel_rfl) zfH rfl rfl) rfl rfl) rfl rfl) rfl rfl) rfl rfl) rfl rfl)).map
    (fun p => ⟨p.1, p.2.1, p.2.2.1, p.2.2.2.1, p.2.2.2.2.1, p.2.2.2.2.2.1⟩) (fun _ => rfl) fun p h => ⟨h.2.2.2.2.1, h.1.1, h.1.2⟩
theorem zkw : Tryd.prog.bytesOf 52 = 48 := by kernel_rfl
theorem zlf : reachBytes = 140737488351232 := by decide
theorem zfM : Rds Tryd.prog 58 (List Ru) (fun l => za l false) (fun l => l.length < 2932031007403 ∧ ∀ r ∈ l, zoh r) :=
  (zmG Tryd.underlying58 zmS (n := 7) (by kernel_rfl) (by decide) (by rw [zkw]; decide)).map id (fun _ => rfl) fun l h => ⟨by
    have := h.1; rw [zkw, zlf] at this; simp only [id]; omega, h.2⟩
theorem zoi : zcS Tryd.prog 52 ze := zdH Tryd.underlying52 (g := fun p => (ze p).cells) fun _ => rfl
theorem zfN : zcS Tryd.prog 58 (fun l : List Ru => za l false) := zfo Tryd.underlying58 rfl fun _ => rfl
theorem atI : zcS Tryd.prog 3 (fun n : Int => .raw (.int .i64 n)) := zfo Tryd.underlying3 rfl fun _ => rfl
theorem atU : zcS Tryd.prog 22 (fun n : Int => .raw (.int .u32 n)) := zfo Tryd.underlying22 rfl fun _ => rfl
end Go.Proofs.YtckabcbfbpejkaaDoor.Av
namespace Go.Proofs.YtckabcbfbpejkaaDoor.Av
open Go Go.RowKit Go.ChangeShapes Go.WideShapes
set_option linter.unusedSimpArgs false
set_option linter.unusedVariables false
set_option maxRecDepth 100000
theorem zh2 : ∀ t, t = 58 → Tryd.prog.readableRec t = true ∧ t < Tryd.prog.types.size := by
  rintro t rfl
  all_goals exact ⟨by kernel_rfl, of_decide_eq_true (by kernel_rfl)⟩
theorem zgv (os : Os) (started : os.Started) (H : Type) (enc : TypeId × Value → H) :
    ReturnsInHanded {} Tryd.checked os 11 .any (fun w args => (Rows.ruleTellsSpec.pre enc Tryd.prog Tryd.f11 Rows.ruleTellsRow.domain false w args ∧ laidMetH Tryd.prog zcx w) ∧ sizedMet enc Tryd.prog Tryd.f11 (OpenSpec.ofChange Rows.ruleTellsSpec) false w args) (Rows.ruleTellsSpec.post enc Tryd.prog Tryd.f11 false true false false) := by
  refine zcy (C := Tryd.checked) own started (by kernel_rfl) Tryd.func11
    (ChangeSpec.witness_shaped (enc := enc) (C := Tryd.checked) (os := os) (X := fun w _ => laidMetH Tryd.prog zcx w) false (laidW os) #[.slice none 0 0, .slice none 0 0] 8 rfl (World.shaped_of_RefB (by kernel_rfl) (by kernel_rfl)) (by kernel_rfl) (by kernel_rfl) (by kernel_rfl) (zdX os _))
    laid rfl rfl (fun t h => zh2 t (by simpa using h)) rfl Tryd.underlying4 ?_ (zbi zfM zfN (zbi zfM zfN zfI))
    (fun v hv => zhy v.1 v.2.1 false false hv.1.1 hv.2.1.1 fun r hr => (hv.1.2 r hr).2) (fun W sh h => zeP sh h)
  intro ds h
  match ds, h with
  | [a, b], _ => rfl
theorem zhB : Rows.RuleTellsSaid :=
  OpenClaim.holds_of_wide 11 Tryd.f11 rfl rfl rfl rfl rfl rfl rfl ⟨rfl, rfl, rfl, rfl, rfl⟩ rfl rfl rfl rfl rfl (by kernel_rfl) Tryd.func11 (by kernel_rfl)
    (of_decide_eq_true (by kernel_rfl)) (by unfold Func.isWrapper; first | (rw [if_pos (by decide +kernel)]; kernel_rfl) | (rw [if_neg (by decide +kernel)]; exact ⟨rfl, rfl⟩))
    (fun os started H enc _ => zgv os started H enc)
theorem ruleTells_card : Rows.RuleTellsCardSaid :=
  Claim7.holds_tied_plain_at .later [] [.data, .data, .data, .data, .sentinel, .sentinel, .pinned] true (true, "b7bfd3f1296cd71c2b916e19cbd6c91930ac18ed402b40caa8ce61de6e1b746f") true
    zhB (fun _ h => by cases h) (by kernel_rfl) (fun _ h => by cases h) ruleTells_row_tie rfl ⟨rfl, rfl⟩ (by kernel_rfl) rfl
    (fun f fn hf hfn => by
      obtain rfl : f = 11 := Option.some.inj ((show Tryd.prog.funcNamed "waystone/waystonelaw07.RuleTells" = some 11 by kernel_rfl).symm.trans hf) |>.symm
      obtain rfl : fn = Tryd.f11 := (Option.some.inj (Tryd.func11.symm.trans hfn)).symm
      exact ⟨by kernel_rfl, fun j t ht => by
        have hp : Tryd.f11.params = #[58, 58] := rfl
        rw [hp] at ht
        have hm : t ∈ [58, 58] := by simpa using Array.mem_of_getElem? ht
        have hall : ([58, 58].all fun u => !Tryd.prog.wantsStandIn u) = true := by kernel_rfl
        exact (show Tryd.prog.wantsStandIn t = false by simpa using List.all_eq_true.1 hall t hm)⟩)
    (by kernel_rfl)
end Go.Proofs.YtckabcbfbpejkaaDoor.Av
namespace Go.Proofs.YtckabcbfbpejkaaDoor.Av
open Go Go.RowKit Go.ChangeShapes Go.WideShapes
set_option linter.unusedSimpArgs false
set_option linter.unusedVariables false
set_option maxRecDepth 100000
theorem ziK : ∀ t, t = 52 → Tryd.prog.readableRec t = true ∧ t < Tryd.prog.types.size := by
  rintro t rfl
  all_goals exact ⟨by kernel_rfl, of_decide_eq_true (by kernel_rfl)⟩
theorem zhC (os : Os) (started : os.Started) (H : Type) (enc : TypeId × Value → H) :
    ReturnsInHanded {} Tryd.checked os 9 .any (fun w args => (Rows.ruleBackSpec.pre enc Tryd.prog Tryd.f9 Rows.ruleBackRow.domain false w args ∧ laidMetH Tryd.prog zcx w) ∧ sizedMet enc Tryd.prog Tryd.f9 (OpenSpec.ofChange Rows.ruleBackSpec) false w args) (Rows.ruleBackSpec.post enc Tryd.prog Tryd.f9 false true false false) := by
  refine zcy (C := Tryd.checked) own started (by kernel_rfl) Tryd.func9
    (ChangeSpec.witness_shaped (enc := enc) (C := Tryd.checked) (os := os) (X := fun w _ => laidMetH Tryd.prog zcx w) false (laidW os) #[.agg #[.int .i64 0, .int .i64 0, .int .i64 0, .int .i64 0, .int .u32 0, .int .u32 0, .int .i64 0], .agg #[.int .i64 0, .int .i64 0, .int .i64 0, .int .i64 0, .int .u32 0, .int .u32 0, .int .i64 0]] 8 rfl (World.shaped_of_RefB (by kernel_rfl) (by kernel_rfl)) (by kernel_rfl) (by kernel_rfl) (by kernel_rfl) (zdX os _))
    laid rfl rfl (fun t h => ziK t (by simpa using h)) rfl Tryd.underlying4 ?_ (zbi zmS zoi (zbi zmS zoi zfI))
    (fun v hv => zh1 v.1 v.2.1 ⟨hv.1.1.1.1, hv.1.1.2.2⟩ ⟨hv.2.1.1.1.1, hv.2.1.1.2.2⟩) (fun W sh h => zeP sh h)
  intro ds h
  match ds, h with
  | [a, b], _ => rfl
theorem zh3 : Rows.RuleBackSaid :=
  OpenClaim.holds_of_wide 9 Tryd.f9 rfl rfl rfl rfl rfl rfl rfl ⟨rfl, rfl, rfl, rfl, rfl⟩ rfl rfl rfl rfl rfl (by kernel_rfl) Tryd.func9 (by kernel_rfl)
    (of_decide_eq_true (by kernel_rfl)) (by unfold Func.isWrapper; first | (rw [if_pos (by decide +kernel)]; kernel_rfl) | (rw [if_neg (by decide +kernel)]; exact ⟨rfl, rfl⟩))
    (fun os started H enc _ => zhC os started H enc)
theorem ruleBack_card : Rows.RuleBackCardSaid :=
  Claim7.holds_tied_plain_at .later [] [.data, .data, .data, .data, .sentinel, .sentinel, .pinned] true (true, "b7bfd3f1296cd71c2b916e19cbd6c91930ac18ed402b40caa8ce61de6e1b746f") true
    zh3 (fun _ h => by cases h) (by kernel_rfl) (fun _ h => by cases h) ruleBack_row_tie rfl ⟨rfl, rfl⟩ (by kernel_rfl) rfl
    (fun f fn hf hfn => by
      obtain rfl : f = 9 := Option.some.inj ((show Tryd.prog.funcNamed "waystone/waystonelaw07.RuleBack" = some 9 by kernel_rfl).symm.trans hf) |>.symm
      obtain rfl : fn = Tryd.f9 := (Option.some.inj (Tryd.func9.symm.trans hfn)).symm
      exact ⟨by kernel_rfl, fun j t ht => by
        have hp : Tryd.f9.params = #[52, 52] := rfl
        rw [hp] at ht
        have hm : t ∈ [52, 52] := by simpa using Array.mem_of_getElem? ht
        have hall : ([52, 52].all fun u => !Tryd.prog.wantsStandIn u) = true := by kernel_rfl
        exact (show Tryd.prog.wantsStandIn t = false by simpa using List.all_eq_true.1 hall t hm)⟩)
    (by kernel_rfl)
end Go.Proofs.YtckabcbfbpejkaaDoor.Av
namespace Go.Proofs.YtckabcbfbpejkaaDoor.Av
open Go Go.RowKit Go.ChangeShapes Go.WideShapes
set_option linter.unusedSimpArgs false
set_option linter.unusedVariables false
set_option maxRecDepth 100000
theorem zh4 : ∀ t, t = 58 ∨ t = 3 ∨ t = 22 → Tryd.prog.readableRec t = true ∧ t < Tryd.prog.types.size := by
  rintro t (rfl | rfl | rfl)
  all_goals exact ⟨by kernel_rfl, of_decide_eq_true (by kernel_rfl)⟩
theorem zgw (os : Os) (started : os.Started) (H : Type) (enc : TypeId × Value → H) :
    ReturnsInHanded {} Tryd.checked os 10 .any (fun w args => (Rows.ruleApartSpec.pre enc Tryd.prog Tryd.f10 Rows.ruleApartRow.domain false w args ∧ laidMetH Tryd.prog zcx w) ∧ sizedMet enc Tryd.prog Tryd.f10 (OpenSpec.ofChange Rows.ruleApartSpec) false w args) (Rows.ruleApartSpec.post enc Tryd.prog Tryd.f10 false true false false) := by
  refine zcy (C := Tryd.checked) own started (by kernel_rfl) Tryd.func10
    (ChangeSpec.witness_shaped (enc := enc) (C := Tryd.checked) (os := os) (X := fun w _ => laidMetH Tryd.prog zcx w) false (laidW os) #[.slice none 0 0, .int .i64 0, .int .u32 0] 8 rfl (World.shaped_of_RefB (by kernel_rfl) (by kernel_rfl)) (by kernel_rfl) (by kernel_rfl) (by kernel_rfl) (zdX os _))
    laid rfl rfl (fun t h => zh4 t (by simpa using h)) rfl Tryd.underlying4 ?_ (zbi zfM zfN (zbi (rdI Tryd.underlying3) atI (zbi rdU atU zfI)))
    (fun v hv => zhz v.1 false v.2.1 v.2.2.1 hv.1.1) (fun W sh h => zeP sh h)
  intro ds h
  match ds, h with
  | [a, b, c], _ => rfl
theorem zhD : Rows.RuleApartSaid :=
  OpenClaim.holds_of_wide 10 Tryd.f10 rfl rfl rfl rfl rfl rfl rfl ⟨rfl, rfl, rfl, rfl, rfl⟩ rfl rfl rfl rfl rfl (by kernel_rfl) Tryd.func10 (by kernel_rfl)
    (of_decide_eq_true (by kernel_rfl)) (by unfold Func.isWrapper; first | (rw [if_pos (by decide +kernel)]; kernel_rfl) | (rw [if_neg (by decide +kernel)]; exact ⟨rfl, rfl⟩))
    (fun os started H enc _ => zgw os started H enc)
theorem ruleApart_card : Rows.RuleApartCardSaid :=
  Claim7.holds_tied_plain_at .later [] [.data, .data, .data, .data, .sentinel, .sentinel, .pinned] true (true, "b7bfd3f1296cd71c2b916e19cbd6c91930ac18ed402b40caa8ce61de6e1b746f") true
    zhD (fun _ h => by cases h) (by kernel_rfl) (fun _ h => by cases h) ruleApart_row_tie rfl ⟨rfl, rfl⟩ (by kernel_rfl) rfl
    (fun f fn hf hfn => by
      obtain rfl : f = 10 := Option.some.inj ((show Tryd.prog.funcNamed "waystone/waystonelaw07.RuleApart" = some 10 by kernel_rfl).symm.trans hf) |>.symm
      obtain rfl : fn = Tryd.f10 := (Option.some.inj (Tryd.func10.symm.trans hfn)).symm
      exact ⟨by kernel_rfl, fun j t ht => by
        have hp : Tryd.f10.params = #[58, 3, 22] := rfl
        rw [hp] at ht
        have hm : t ∈ [58, 3, 22] := by simpa using Array.mem_of_getElem? ht
        have hall : ([58, 3, 22].all fun u => !Tryd.prog.wantsStandIn u) = true := by kernel_rfl
        exact (show Tryd.prog.wantsStandIn t = false by simpa using List.all_eq_true.1 hall t hm)⟩)
    (by kernel_rfl)
end Go.Proofs.YtckabcbfbpejkaaDoor.Av
namespace Go.Proofs.YtckabcbfbpejkaaDoor.Av
open Go Go.RowKit Go.ChangeShapes Go.WideShapes
set_option linter.unusedSimpArgs false
set_option linter.unusedVariables false
set_option maxRecDepth 100000
theorem zh5 : ∀ t, t = 58 ∨ t = 3 ∨ t = 22 → Tryd.prog.readableRec t = true ∧ t < Tryd.prog.types.size := by
  rintro t (rfl | rfl | rfl)
  all_goals exact ⟨by kernel_rfl, of_decide_eq_true (by kernel_rfl)⟩
theorem zgx (os : Os) (started : os.Started) (H : Type) (enc : TypeId × Value → H) :
    ReturnsInHanded {} Tryd.checked os 12 .any (fun w args => (Rows.ruleFirstSpec.pre enc Tryd.prog Tryd.f12 Rows.ruleFirstRow.domain false w args ∧ laidMetH Tryd.prog zcx w) ∧ sizedMet enc Tryd.prog Tryd.f12 (OpenSpec.ofChange Rows.ruleFirstSpec) false w args) (Rows.ruleFirstSpec.post enc Tryd.prog Tryd.f12 false true false false) := by
  refine zcy (C := Tryd.checked) own started (by kernel_rfl) Tryd.func12
    (ChangeSpec.witness_shaped (enc := enc) (C := Tryd.checked) (os := os) (X := fun w _ => laidMetH Tryd.prog zcx w) false (laidW os) #[.slice none 0 0, .int .i64 0, .int .u32 0] 8 rfl (World.shaped_of_RefB (by kernel_rfl) (by kernel_rfl)) (by kernel_rfl) (by kernel_rfl) (by kernel_rfl) (zdX os _))
    laid rfl rfl (fun t h => zh5 t (by simpa using h)) rfl Tryd.underlying4 ?_ (zbi zfM zfN (zbi (rdI Tryd.underlying3) atI (zbi rdU atU zfI)))
    (fun v hv => zhA v.1 false v.2.1 v.2.2.1 hv.1.1) (fun W sh h => zeP sh h)
  intro ds h
  match ds, h with
  | [a, b, c], _ => rfl
theorem zhE : Rows.RuleFirstSaid :=
  OpenClaim.holds_of_wide 12 Tryd.f12 rfl rfl rfl rfl rfl rfl rfl ⟨rfl, rfl, rfl, rfl, rfl⟩ rfl rfl rfl rfl rfl (by kernel_rfl) Tryd.func12 (by kernel_rfl)
    (of_decide_eq_true (by kernel_rfl)) (by unfold Func.isWrapper; first | (rw [if_pos (by decide +kernel)]; kernel_rfl) | (rw [if_neg (by decide +kernel)]; exact ⟨rfl, rfl⟩))
    (fun os started H enc _ => zgx os started H enc)
theorem ruleFirst_card : Rows.RuleFirstCardSaid :=
  Claim7.holds_tied_plain_at .later [] [.data, .data, .data, .data, .sentinel, .sentinel, .pinned] true (true, "b7bfd3f1296cd71c2b916e19cbd6c91930ac18ed402b40caa8ce61de6e1b746f") true
    zhE (fun _ h => by cases h) (by kernel_rfl) (fun _ h => by cases h) ruleFirst_row_tie rfl ⟨rfl, rfl⟩ (by kernel_rfl) rfl
    (fun f fn hf hfn => by
      obtain rfl : f = 12 := Option.some.inj ((show Tryd.prog.funcNamed "waystone/waystonelaw07.RuleFirst" = some 12 by kernel_rfl).symm.trans hf) |>.symm
      obtain rfl : fn = Tryd.f12 := (Option.some.inj (Tryd.func12.symm.trans hfn)).symm
      exact ⟨by kernel_rfl, fun j t ht => by
        have hp : Tryd.f12.params = #[58, 3, 22] := rfl
        rw [hp] at ht
        have hm : t ∈ [58, 3, 22] := by simpa using Array.mem_of_getElem? ht
        have hall : ([58, 3, 22].all fun u => !Tryd.prog.wantsStandIn u) = true := by kernel_rfl
        exact (show Tryd.prog.wantsStandIn t = false by simpa using List.all_eq_true.1 hall t hm)⟩)
    (by kernel_rfl)
end Go.Proofs.YtckabcbfbpejkaaDoor.Av
namespace Go.Proofs.YtckabcbfbpejkaaDoor.Av
set_option linter.unusedSimpArgs false
set_option linter.unusedVariables false
end Go.Proofs.YtckabcbfbpejkaaDoor.Av
