/- Rules: the laws RuleTexts, RuleMatches. Part 22 of 22: AvRR, AvRR2, AvRQ5, AvRQ6, AvRQY. -/
import Derived.Test.YtckabcbfbpejkaaGreatDoorRy15
import Derived.Test.YtckabcbfbpejkaaGreatDoorRy20
import Derived.Test.YtckabcbfbpejkaaGreatDoorRy21
namespace Go.Proofs.YtckabcbfbpejkaaGreatDoor.Av
open Go Go.RowKit Go.ChangeShapes Go.WideShapes
set_option linter.unusedSimpArgs false
set_option linter.unusedVariables false
set_option maxRecDepth 100000
def zpd (r : Rg) : Prop := (0 ≤ r.lo ∧ r.lo < 4294967296) ∧ 0 ≤ r.hi ∧ r.hi < 4294967296
theorem zqC : Rds Tryz.prog 25 Rg zg4 zpd :=
  (zek Tryz.underlying25 (n := 2) (by kernel_rfl) (za3 rdU (c := 1) (by kernel_rfl) (za3 rdU (c := 1) (by kernel_rfl) zgl rfl rfl) rfl rfl)).map (fun p => ⟨p.1, p.2.1⟩) (fun _ => rfl)
    fun p h => ⟨h.1, h.2.1⟩
def zmb (r : Ru) : Prop := zpd r.r ∧ -9223372036854775808 ≤ r.id ∧ r.id < 9223372036854775808
theorem zpe : Rds Tryz.prog 27 Ru zc zmb :=
  (zek Tryz.underlying27 (n := 7) (by kernel_rfl) (za3 (rdI Tryz.underlying3) (c := 1) (by kernel_rfl) (za3 (rdI Tryz.underlying3) (c := 1) (by kernel_rfl) (za3 (rdI Tryz.underlying3) (c := 1) (by kernel_rfl)
    (za3 (rdI Tryz.underlying22) (c := 1) (by kernel_rfl) (za3 zqC (c := 2) (by kernel_rfl) (za3 (rdI Tryz.underlying3) (c := 1) (by kernel_rfl) zgl rfl rfl) rfl rfl) rfl rfl) rfl rfl) rfl rfl) rfl rfl)).map
    (fun p => ⟨p.1, p.2.1, p.2.2.1, p.2.2.2.1, p.2.2.2.2.1, p.2.2.2.2.2.1⟩) (fun _ => rfl) fun p h => ⟨h.2.2.2.2.1, h.1.1, h.1.2⟩
theorem zlq : Tryz.prog.bytesOf 27 = 48 := by kernel_rfl
theorem zmc : reachBytes = 140737488351232 := by decide
theorem zon : Rds Tryz.prog 35 (List Ru) (fun l => za l false) (fun l => l.length < 2932031007403 ∧ ∀ r ∈ l, zmb r) :=
  (zny Tryz.underlying35 zpe (n := 7) (by kernel_rfl) (by decide) (by rw [zlq]; decide)).map id (fun _ => rfl) fun l h => ⟨by
    have := h.1; rw [zlq, zmc] at this; simp only [id]; omega, h.2⟩
theorem zrP : zcn Tryz.prog 27 zc := zd7 Tryz.underlying27 (g := fun p => (zc p).cells) fun _ => rfl
theorem zoo : zcn Tryz.prog 35 (fun l : List Ru => za l false) := zel Tryz.underlying35 rfl fun _ => rfl
theorem atI : zcn Tryz.prog 3 (fun n : Int => .raw (.int .i64 n)) := zel Tryz.underlying3 rfl fun _ => rfl
theorem atU : zcn Tryz.prog 23 (fun n : Int => .raw (.int .u32 n)) := zel Tryz.underlying23 rfl fun _ => rfl
end Go.Proofs.YtckabcbfbpejkaaGreatDoor.Av
namespace Go.Proofs.YtckabcbfbpejkaaGreatDoor.Av
open Go Go.RowKit Go.ChangeShapes Go.WideShapes
set_option linter.unusedSimpArgs false
set_option linter.unusedVariables false
set_option maxRecDepth 100000
def stR (b : ByteArray) : AV := .raw (.string b)
theorem zqD : Rds Tryz.prog 9 ByteArray stR (fun _ => True) := (zmQ Tryz.underlying9).map id (fun _ => rfl) fun _ _ => trivial
theorem zqE : zcn Tryz.prog 9 stR := zel Tryz.underlying9 rfl fun _ => rfl
def prR (p : Int × Int) : AV := .agg [.raw (.int .i64 p.1), .raw (.int .i64 p.2)]
theorem zqF : Rds Tryz.prog 36 (Int × Int) prR (fun _ => True) :=
  (zmR Tryz.underlying36 (rdI Tryz.underlying3) (c := 1) (by kernel_rfl) (by kernel_rfl)).map id (fun _ => rfl) fun p h => trivial
theorem zqG : zcn Tryz.prog 36 prR := zkW Tryz.underlying36 (g := fun p => [.raw (.int .i64 p.1), .raw (.int .i64 p.2)]) fun _ => rfl
theorem zji (r : Ru) (b : ByteArray) (h : zmb r) : PCalls Tryz.prog 3 [zc r, stR b] (.raw (.bool true)) := by
  have k := zh9 r b.data.toList ⟨h.1.1.1, h.1.2.2⟩ h.2
  have e : ze b.data.toList = stR b := by unfold ze stR; rw [zgm]
  rwa [e] at k
theorem zia (l : List Ru) (p : Int × Int) (a : Int) (hl : l.length < 2932031007403) (h : ∀ r ∈ l, zmb r) : PCalls Tryz.prog 4 [za l false, prR p, .raw (.int .u32 a)] (.raw (.bool true)) :=
  zgs l false p.1 p.2 a hl fun r hr => (h r hr).2
end Go.Proofs.YtckabcbfbpejkaaGreatDoor.Av
namespace Go.Proofs.YtckabcbfbpejkaaGreatDoor.Av
open Go Go.RowKit Go.ChangeShapes Go.WideShapes
set_option linter.unusedSimpArgs false
set_option linter.unusedVariables false
set_option maxRecDepth 100000
theorem ziA : ∀ t, t = 27 ∨ t = 9 → Tryz.prog.readableRec t = true ∧ t < Tryz.prog.types.size := by
  rintro t (rfl | rfl)
  all_goals exact ⟨by kernel_rfl, of_decide_eq_true (by kernel_rfl)⟩
theorem zha (os : Os) (started : os.Started) (H : Type) (enc : TypeId × Value → H) :
    ReturnsInHanded {} Tryz.checked os 3 .any (fun w args => (Rows.ruleTextsSpec.pre enc Tryz.prog Tryz.f3 Rows.ruleTextsRow.domain false w args ∧ laidMetH Tryz.prog zfi w) ∧ sizedMet enc Tryz.prog Tryz.f3 (OpenSpec.ofChange Rows.ruleTextsSpec) false w args) (Rows.ruleTextsSpec.post enc Tryz.prog Tryz.f3 false true false false) := by
  refine zf2 (C := Tryz.checked) own started (by kernel_rfl) Tryz.func3
    (ChangeSpec.witness_shaped (enc := enc) (C := Tryz.checked) (os := os) (X := fun w _ => laidMetH Tryz.prog zfi w) false (laidW os) #[.agg #[.int .i64 0, .int .i64 0, .int .i64 0, .int .i64 0, .int .u32 0, .int .u32 0, .int .i64 0], .string ⟨#[]⟩] 8 rfl (World.shaped_of_RefB (by kernel_rfl) (by kernel_rfl)) (by kernel_rfl) (by kernel_rfl) (by kernel_rfl) (zi6 os _))
    laid rfl rfl (fun t h => ziA t (by simpa using h)) rfl Tryz.underlying4 ?_ (zd8 zpe zrP (zd8 zqD zqE zli))
    (fun v hv => zji v.1 v.2.1 hv.1) (fun W sh h => zky sh h)
  intro ds h
  match ds, h with
  | [a, b], _ => rfl
theorem zib : Rows.RuleTextsSaid :=
  OpenClaim.holds_of_wide 3 Tryz.f3 rfl rfl rfl rfl rfl rfl rfl ⟨rfl, rfl, rfl, rfl, rfl⟩ rfl rfl rfl rfl rfl (by kernel_rfl) Tryz.func3 (by kernel_rfl)
    (of_decide_eq_true (by kernel_rfl)) (by unfold Func.isWrapper; first | (rw [if_pos (by decide +kernel)]; kernel_rfl) | (rw [if_neg (by decide +kernel)]; exact ⟨rfl, rfl⟩))
    (fun os started H enc _ => zha os started H enc)
theorem ruleTexts_card : Rows.RuleTextsCardSaid :=
  Claim7.holds_tied_plain_at .later [] [.data, .data, .data, .data, .sentinel, .sentinel, .pinned] true (true, "019d5f2a2ec582ef271fb821ca60879ec6de6fed94b4a84a337ad25f191770e0") true
    zib (fun _ h => by cases h) (by kernel_rfl) (fun _ h => by cases h) ruleTexts_row_tie rfl ⟨rfl, rfl⟩ (by kernel_rfl) rfl
    (fun f fn hf hfn => by
      obtain rfl : f = 3 := Option.some.inj ((show Tryz.prog.funcNamed "waystone/waystonelaw07.RuleTexts" = some 3 by kernel_rfl).symm.trans hf) |>.symm
      obtain rfl : fn = Tryz.f3 := (Option.some.inj (Tryz.func3.symm.trans hfn)).symm
      exact ⟨by kernel_rfl, fun j t ht => by
        have hp : Tryz.f3.params = #[27, 9] := rfl
        rw [hp] at ht
        have hm : t ∈ [27, 9] := by simpa using Array.mem_of_getElem? ht
        have hall : ([27, 9].all fun u => !Tryz.prog.wantsStandIn u) = true := by kernel_rfl
        exact (show Tryz.prog.wantsStandIn t = false by simpa using List.all_eq_true.1 hall t hm)⟩)
    (by kernel_rfl)
end Go.Proofs.YtckabcbfbpejkaaGreatDoor.Av
namespace Go.Proofs.YtckabcbfbpejkaaGreatDoor.Av
open Go Go.RowKit Go.ChangeShapes Go.WideShapes
set_option linter.unusedSimpArgs false
set_option linter.unusedVariables false
set_option maxRecDepth 100000
theorem zhb : ∀ t, t = 35 ∨ t = 36 ∨ t = 23 → Tryz.prog.readableRec t = true ∧ t < Tryz.prog.types.size := by
  rintro t (rfl | rfl | rfl)
  all_goals exact ⟨by kernel_rfl, of_decide_eq_true (by kernel_rfl)⟩
theorem zgb (os : Os) (started : os.Started) (H : Type) (enc : TypeId × Value → H) :
    ReturnsInHanded {} Tryz.checked os 4 .any (fun w args => (Rows.ruleMatchesSpec.pre enc Tryz.prog Tryz.f4 Rows.ruleMatchesRow.domain false w args ∧ laidMetH Tryz.prog zfi w) ∧ sizedMet enc Tryz.prog Tryz.f4 (OpenSpec.ofChange Rows.ruleMatchesSpec) false w args) (Rows.ruleMatchesSpec.post enc Tryz.prog Tryz.f4 false true false false) := by
  refine zf2 (C := Tryz.checked) own started (by kernel_rfl) Tryz.func4
    (ChangeSpec.witness_shaped (enc := enc) (C := Tryz.checked) (os := os) (X := fun w _ => laidMetH Tryz.prog zfi w) false (laidW os) #[.slice none 0 0, .agg #[.int .i64 0, .int .i64 0], .int .u32 0] 8 rfl (World.shaped_of_RefB (by kernel_rfl) (by kernel_rfl)) (by kernel_rfl) (by kernel_rfl) (by kernel_rfl) (zi6 os _))
    laid rfl rfl (fun t h => zhb t (by simpa using h)) rfl Tryz.underlying4 ?_ (zd8 zon zoo (zd8 zqF zqG (zd8 rdU atU zli)))
    (fun v hv => zia v.1 v.2.1 v.2.2.1 hv.1.1 hv.1.2) (fun W sh h => zky sh h)
  intro ds h
  match ds, h with
  | [a, b, c], _ => rfl
theorem zgt : Rows.RuleMatchesSaid :=
  OpenClaim.holds_of_wide 4 Tryz.f4 rfl rfl rfl rfl rfl rfl rfl ⟨rfl, rfl, rfl, rfl, rfl⟩ rfl rfl rfl rfl rfl (by kernel_rfl) Tryz.func4 (by kernel_rfl)
    (of_decide_eq_true (by kernel_rfl)) (by unfold Func.isWrapper; first | (rw [if_pos (by decide +kernel)]; kernel_rfl) | (rw [if_neg (by decide +kernel)]; exact ⟨rfl, rfl⟩))
    (fun os started H enc _ => zgb os started H enc)
theorem ruleMatches_card : Rows.RuleMatchesCardSaid :=
  Claim7.holds_tied_plain_at .later [] [.data, .data, .data, .data, .sentinel, .sentinel, .pinned] true (true, "019d5f2a2ec582ef271fb821ca60879ec6de6fed94b4a84a337ad25f191770e0") true
    zgt (fun _ h => by cases h) (by kernel_rfl) (fun _ h => by cases h) ruleMatches_row_tie rfl ⟨rfl, rfl⟩ (by kernel_rfl) rfl
    (fun f fn hf hfn => by
      obtain rfl : f = 4 := Option.some.inj ((show Tryz.prog.funcNamed "waystone/waystonelaw07.RuleMatches" = some 4 by kernel_rfl).symm.trans hf) |>.symm
      obtain rfl : fn = Tryz.f4 := (Option.some.inj (Tryz.func4.symm.trans hfn)).symm
      exact ⟨by kernel_rfl, fun j t ht => by
        have hp : Tryz.f4.params = #[35, 36, 23] := rfl
        rw [hp] at ht
        have hm : t ∈ [35, 36, 23] := by simpa using Array.mem_of_getElem? ht
        have hall : ([35, 36, 23].all fun u => !Tryz.prog.wantsStandIn u) = true := by kernel_rfl
        exact (show Tryz.prog.wantsStandIn t = false by simpa using List.all_eq_true.1 hall t hm)⟩)
    (by kernel_rfl)
end Go.Proofs.YtckabcbfbpejkaaGreatDoor.Av
namespace Go.Proofs.YtckabcbfbpejkaaGreatDoor.Av
set_option linter.unusedSimpArgs false
set_option linter.unusedVariables false
end Go.Proofs.YtckabcbfbpejkaaGreatDoor.Av
