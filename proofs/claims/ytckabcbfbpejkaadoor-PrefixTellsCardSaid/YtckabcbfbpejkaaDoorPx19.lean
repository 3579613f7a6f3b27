/- Prefix: the laws PrefixTexts, PrefixTells, PrefixSplit, PrefixParses, PrefixBack. Part 19 of 19: AvSQ2, AvSR2, AvSQ3, AvSQ4, AvSQ5, AvSQ6, AvSQX. -/
import Derived.Test.YtckabcbfbpejkaaDoorPx17
import Derived.Test.YtckabcbfbpejkaaDoorPx18
namespace Go.Proofs.YtckabcbfbpejkaaDoor.Av
open Go Go.RowKit Go.ChangeShapes Go.WideShapes
set_option linter.unusedSimpArgs false
set_option linter.unusedVariables false
set_option maxRecDepth 100000
theorem zgI : ∀ t, t = 24 ∨ t = 28 → Tryd.prog.readableRec t = true ∧ t < Tryd.prog.types.size := by
  rintro t (rfl | rfl)
  all_goals exact ⟨by kernel_rfl, of_decide_eq_true (by kernel_rfl)⟩
theorem zgX (a n c d : Int) (h1 : 0 ≤ a) (h2 : a < 4294967296) (h3 : 0 ≤ c) (h4 : c < 4294967296) (h5 : 0 ≤ d) (h6 : d < 4294967296) : PCalls Tryd.prog 8 [zab ⟨a, n⟩, rgA c d] (.raw (.bool true)) := by
  obtain ⟨a, rfl⟩ : ∃ k : Nat, a = k := ⟨a.toNat, by omega⟩
  obtain ⟨c, rfl⟩ : ∃ k : Nat, c = k := ⟨c.toNat, by omega⟩
  obtain ⟨d, rfl⟩ : ∃ k : Nat, d = k := ⟨d.toNat, by omega⟩
  exact zfR a c d n (by omega) (by omega) (by omega)
theorem zfi (os : Os) (started : os.Started) (H : Type) (enc : TypeId × Value → H) :
    ReturnsInHanded {} Tryd.checked os 8 .any (fun w args => (Rows.prefixBackSpec.pre enc Tryd.prog Tryd.f8 Rows.prefixBackRow.domain false w args ∧ laidMetH Tryd.prog zbP w) ∧ sizedMet enc Tryd.prog Tryd.f8 (OpenSpec.ofChange Rows.prefixBackSpec) false w args) (Rows.prefixBackSpec.post enc Tryd.prog Tryd.f8 false true false false) := by
  refine zbG (C := Tryd.checked) own started (by kernel_rfl) Tryd.func8
    (ChangeSpec.witness_shaped (enc := enc) (C := Tryd.checked) (os := os) (X := fun w _ => laidMetH Tryd.prog zbP w) false (laidW os) #[.agg #[.int .u32 0, .int .i64 0], .agg #[.int .u32 0, .int .u32 0]] 8 rfl (World.shaped_of_RefB (by kernel_rfl) (by kernel_rfl)) (by kernel_rfl) (by kernel_rfl) (by kernel_rfl) (zcL os _))
    laid rfl rfl (fun t h => zgI t (by simpa using h)) rfl Tryd.underlying4 ?_ (zbF zlh zli (zbF zjT zjU zdL))
    (fun v hv => zgX v.1.addr v.1.len v.2.1.1 v.2.1.2 hv.1.1 hv.1.2 hv.2.1.1.1 hv.2.1.1.2 hv.2.1.2.1 hv.2.1.2.2) (fun W sh h => zdl sh h)
  intro ds h
  match ds, h with
  | [a, b], _ => rfl
theorem zfT : Rows.PrefixBackSaid :=
  OpenClaim.holds_of_wide 8 Tryd.f8 rfl rfl rfl rfl rfl rfl rfl ⟨rfl, rfl, rfl, rfl, rfl⟩ rfl rfl rfl rfl rfl (by kernel_rfl) Tryd.func8 (by kernel_rfl)
    (of_decide_eq_true (by kernel_rfl)) (by unfold Func.isWrapper; first | (rw [if_pos (by decide +kernel)]; kernel_rfl) | (rw [if_neg (by decide +kernel)]; exact ⟨rfl, rfl⟩))
    (fun os started H enc _ => zfi os started H enc)
theorem prefixBack_card : Rows.PrefixBackCardSaid :=
  Claim7.holds_tied_plain_at .later [] [.data, .data, .data, .data, .sentinel, .sentinel, .pinned] true (true, "b7bfd3f1296cd71c2b916e19cbd6c91930ac18ed402b40caa8ce61de6e1b746f") true
    zfT (fun _ h => by cases h) (by kernel_rfl) (fun _ h => by cases h) prefixBack_row_tie rfl ⟨rfl, rfl⟩ (by kernel_rfl) rfl
    (fun f fn hf hfn => by
      obtain rfl : f = 8 := Option.some.inj ((show Tryd.prog.funcNamed "waystone/waystonelaw02.PrefixBack" = some 8 by kernel_rfl).symm.trans hf) |>.symm
      obtain rfl : fn = Tryd.f8 := (Option.some.inj (Tryd.func8.symm.trans hfn)).symm
      exact ⟨by kernel_rfl, fun j t ht => by
        have hp : Tryd.f8.params = #[24, 28] := rfl
        rw [hp] at ht
        have hm : t ∈ [24, 28] := by simpa using Array.mem_of_getElem? ht
        have hall : ([24, 28].all fun u => !Tryd.prog.wantsStandIn u) = true := by kernel_rfl
        exact (show Tryd.prog.wantsStandIn t = false by simpa using List.all_eq_true.1 hall t hm)⟩)
    (by kernel_rfl)
end Go.Proofs.YtckabcbfbpejkaaDoor.Av
namespace Go.Proofs.YtckabcbfbpejkaaDoor.Av
open Go Go.RowKit Go.ChangeShapes Go.WideShapes
set_option linter.unusedSimpArgs false
set_option linter.unusedVariables false
set_option maxRecDepth 100000
def stQ (b : ByteArray) : AV := .raw (.string b)
theorem zoA : Rds Tryd.prog 9 ByteArray stQ (fun _ => True) := (zkp Tryd.underlying9).map id (fun _ => rfl) fun _ _ => trivial
theorem zoB : zef Tryd.prog 9 stQ := zkq Tryd.underlying9 rfl fun _ => rfl
theorem zfU (b : ByteArray) : PCalls Tryd.prog 7 [stQ b] (.raw (.bool true)) := by
  have h := zeY b.data.toList
  have e : zk b.data.toList = stQ b := by unfold zk stQ; rw [zfd]
  rwa [e] at h
theorem zgJ (a n c d : Int) (h1 : 0 ≤ a) (h2 : a < 4294967296) (h3 : 0 ≤ c) (h4 : c < 4294967296) (h5 : 0 ≤ d) (h6 : d < 4294967296) : PCalls Tryd.prog 4 [zab ⟨a, n⟩, rgA c d] (.raw (.bool true)) := by
  obtain ⟨a, rfl⟩ : ∃ k : Nat, a = k := ⟨a.toNat, by omega⟩
  obtain ⟨c, rfl⟩ : ∃ k : Nat, c = k := ⟨c.toNat, by omega⟩
  obtain ⟨d, rfl⟩ : ∃ k : Nat, d = k := ⟨d.toNat, by omega⟩
  exact zff a c d n (by omega) (by omega) (by omega)
theorem zgK (a n c d : Int) (h1 : 0 ≤ a) (h2 : a < 4294967296) (h3 : 0 ≤ c) (h4 : c < 4294967296) (h5 : 0 ≤ d) (h6 : d < 4294967296) : PCalls Tryd.prog 5 [zab ⟨a, n⟩, rgA c d] (.raw (.bool true)) := by
  obtain ⟨a, rfl⟩ : ∃ k : Nat, a = k := ⟨a.toNat, by omega⟩
  obtain ⟨c, rfl⟩ : ∃ k : Nat, c = k := ⟨c.toNat, by omega⟩
  obtain ⟨d, rfl⟩ : ∃ k : Nat, d = k := ⟨d.toNat, by omega⟩
  exact zfg a c d n (by omega) (by omega) (by omega)
theorem zgL (c d : Int) (h3 : 0 ≤ c) (h4 : c < 4294967296) (h5 : 0 ≤ d) (h6 : d < 4294967296) : PCalls Tryd.prog 6 [rgA c d] (.raw (.bool true)) := by
  obtain ⟨c, rfl⟩ : ∃ k : Nat, c = k := ⟨c.toNat, by omega⟩
  obtain ⟨d, rfl⟩ : ∃ k : Nat, d = k := ⟨d.toNat, by omega⟩
  exact zfh c d (by omega) (by omega)
end Go.Proofs.YtckabcbfbpejkaaDoor.Av
namespace Go.Proofs.YtckabcbfbpejkaaDoor.Av
open Go Go.RowKit Go.ChangeShapes Go.WideShapes
set_option linter.unusedSimpArgs false
set_option linter.unusedVariables false
set_option maxRecDepth 100000
theorem zfV : ∀ t, t = 24 ∨ t = 28 → Tryd.prog.readableRec t = true ∧ t < Tryd.prog.types.size := by
  rintro t (rfl | rfl)
  all_goals exact ⟨by kernel_rfl, of_decide_eq_true (by kernel_rfl)⟩
theorem zeZ (os : Os) (started : os.Started) (H : Type) (enc : TypeId × Value → H) :
    ReturnsInHanded {} Tryd.checked os 4 .any (fun w args => (Rows.prefixTextsSpec.pre enc Tryd.prog Tryd.f4 Rows.prefixTextsRow.domain false w args ∧ laidMetH Tryd.prog zbP w) ∧ sizedMet enc Tryd.prog Tryd.f4 (OpenSpec.ofChange Rows.prefixTextsSpec) false w args) (Rows.prefixTextsSpec.post enc Tryd.prog Tryd.f4 false true false false) := by
  refine zbG (C := Tryd.checked) own started (by kernel_rfl) Tryd.func4
    (ChangeSpec.witness_shaped (enc := enc) (C := Tryd.checked) (os := os) (X := fun w _ => laidMetH Tryd.prog zbP w) false (laidW os) #[.agg #[.int .u32 0, .int .i64 0], .agg #[.int .u32 0, .int .u32 0]] 8 rfl (World.shaped_of_RefB (by kernel_rfl) (by kernel_rfl)) (by kernel_rfl) (by kernel_rfl) (by kernel_rfl) (zcL os _))
    laid rfl rfl (fun t h => zfV t (by simpa using h)) rfl Tryd.underlying4 ?_ (zbF zlh zli (zbF zjT zjU zdL))
    (fun v hv => zgJ v.1.addr v.1.len v.2.1.1 v.2.1.2 hv.1.1 hv.1.2 hv.2.1.1.1 hv.2.1.1.2 hv.2.1.2.1 hv.2.1.2.2) (fun W sh h => zdl sh h)
  intro ds h
  match ds, h with
  | [a, b], _ => rfl
theorem zfj : Rows.PrefixTextsSaid :=
  OpenClaim.holds_of_wide 4 Tryd.f4 rfl rfl rfl rfl rfl rfl rfl ⟨rfl, rfl, rfl, rfl, rfl⟩ rfl rfl rfl rfl rfl (by kernel_rfl) Tryd.func4 (by kernel_rfl)
    (of_decide_eq_true (by kernel_rfl)) (by unfold Func.isWrapper; first | (rw [if_pos (by decide +kernel)]; kernel_rfl) | (rw [if_neg (by decide +kernel)]; exact ⟨rfl, rfl⟩))
    (fun os started H enc _ => zeZ os started H enc)
theorem prefixTexts_card : Rows.PrefixTextsCardSaid :=
  Claim7.holds_tied_plain_at .later [] [.data, .data, .data, .data, .sentinel, .sentinel, .pinned] true (true, "b7bfd3f1296cd71c2b916e19cbd6c91930ac18ed402b40caa8ce61de6e1b746f") true
    zfj (fun _ h => by cases h) (by kernel_rfl) (fun _ h => by cases h) prefixTexts_row_tie rfl ⟨rfl, rfl⟩ (by kernel_rfl) rfl
    (fun f fn hf hfn => by
      obtain rfl : f = 4 := Option.some.inj ((show Tryd.prog.funcNamed "waystone/waystonelaw02.PrefixTexts" = some 4 by kernel_rfl).symm.trans hf) |>.symm
      obtain rfl : fn = Tryd.f4 := (Option.some.inj (Tryd.func4.symm.trans hfn)).symm
      exact ⟨by kernel_rfl, fun j t ht => by
        have hp : Tryd.f4.params = #[24, 28] := rfl
        rw [hp] at ht
        have hm : t ∈ [24, 28] := by simpa using Array.mem_of_getElem? ht
        have hall : ([24, 28].all fun u => !Tryd.prog.wantsStandIn u) = true := by kernel_rfl
        exact (show Tryd.prog.wantsStandIn t = false by simpa using List.all_eq_true.1 hall t hm)⟩)
    (by kernel_rfl)
end Go.Proofs.YtckabcbfbpejkaaDoor.Av
namespace Go.Proofs.YtckabcbfbpejkaaDoor.Av
open Go Go.RowKit Go.ChangeShapes Go.WideShapes
set_option linter.unusedSimpArgs false
set_option linter.unusedVariables false
set_option maxRecDepth 100000
theorem zfk : ∀ t, t = 9 → Tryd.prog.readableRec t = true ∧ t < Tryd.prog.types.size := by
  rintro t rfl
  all_goals exact ⟨by kernel_rfl, of_decide_eq_true (by kernel_rfl)⟩
theorem zeu (os : Os) (started : os.Started) (H : Type) (enc : TypeId × Value → H) :
    ReturnsInHanded {} Tryd.checked os 7 .any (fun w args => (Rows.prefixParsesSpec.pre enc Tryd.prog Tryd.f7 Rows.prefixParsesRow.domain false w args ∧ laidMetH Tryd.prog zbP w) ∧ sizedMet enc Tryd.prog Tryd.f7 (OpenSpec.ofChange Rows.prefixParsesSpec) false w args) (Rows.prefixParsesSpec.post enc Tryd.prog Tryd.f7 false true false false) := by
  refine zbG (C := Tryd.checked) own started (by kernel_rfl) Tryd.func7
    (ChangeSpec.witness_shaped (enc := enc) (C := Tryd.checked) (os := os) (X := fun w _ => laidMetH Tryd.prog zbP w) false (laidW os) #[.string ⟨#[]⟩] 8 rfl (World.shaped_of_RefB (by kernel_rfl) (by kernel_rfl)) (by kernel_rfl) (by kernel_rfl) (by kernel_rfl) (zcL os _))
    laid rfl rfl (fun t h => zfk t (by simpa using h)) rfl Tryd.underlying4 ?_ (zbF zoA zoB zdL)
    (fun v hv => zfU v.1) (fun W sh h => zdl sh h)
  intro ds h
  match ds, h with
  | [a], _ => rfl
theorem ze0 : Rows.PrefixParsesSaid :=
  OpenClaim.holds_of_wide 7 Tryd.f7 rfl rfl rfl rfl rfl rfl rfl ⟨rfl, rfl, rfl, rfl, rfl⟩ rfl rfl rfl rfl rfl (by kernel_rfl) Tryd.func7 (by kernel_rfl)
    (of_decide_eq_true (by kernel_rfl)) (by unfold Func.isWrapper; first | (rw [if_pos (by decide +kernel)]; kernel_rfl) | (rw [if_neg (by decide +kernel)]; exact ⟨rfl, rfl⟩))
    (fun os started H enc _ => zeu os started H enc)
theorem prefixParses_card : Rows.PrefixParsesCardSaid :=
  Claim7.holds_tied_plain_at .later [] [.data, .data, .data, .data, .sentinel, .sentinel, .pinned] true (true, "b7bfd3f1296cd71c2b916e19cbd6c91930ac18ed402b40caa8ce61de6e1b746f") true
    ze0 (fun _ h => by cases h) (by kernel_rfl) (fun _ h => by cases h) prefixParses_row_tie rfl ⟨rfl, rfl⟩ (by kernel_rfl) rfl
    (fun f fn hf hfn => by
      obtain rfl : f = 7 := Option.some.inj ((show Tryd.prog.funcNamed "waystone/waystonelaw02.PrefixParses" = some 7 by kernel_rfl).symm.trans hf) |>.symm
      obtain rfl : fn = Tryd.f7 := (Option.some.inj (Tryd.func7.symm.trans hfn)).symm
      exact ⟨by kernel_rfl, fun j t ht => by
        have hp : Tryd.f7.params = #[9] := rfl
        rw [hp] at ht
        have hm : t ∈ [9] := by simpa using Array.mem_of_getElem? ht
        have hall : ([9].all fun u => !Tryd.prog.wantsStandIn u) = true := by kernel_rfl
        exact (show Tryd.prog.wantsStandIn t = false by simpa using List.all_eq_true.1 hall t hm)⟩)
    (by kernel_rfl)
end Go.Proofs.YtckabcbfbpejkaaDoor.Av
namespace Go.Proofs.YtckabcbfbpejkaaDoor.Av
open Go Go.RowKit Go.ChangeShapes Go.WideShapes
set_option linter.unusedSimpArgs false
set_option linter.unusedVariables false
set_option maxRecDepth 100000
theorem zfW : ∀ t, t = 24 ∨ t = 28 → Tryd.prog.readableRec t = true ∧ t < Tryd.prog.types.size := by
  rintro t (rfl | rfl)
  all_goals exact ⟨by kernel_rfl, of_decide_eq_true (by kernel_rfl)⟩
theorem ze1 (os : Os) (started : os.Started) (H : Type) (enc : TypeId × Value → H) :
    ReturnsInHanded {} Tryd.checked os 5 .any (fun w args => (Rows.prefixTellsSpec.pre enc Tryd.prog Tryd.f5 Rows.prefixTellsRow.domain false w args ∧ laidMetH Tryd.prog zbP w) ∧ sizedMet enc Tryd.prog Tryd.f5 (OpenSpec.ofChange Rows.prefixTellsSpec) false w args) (Rows.prefixTellsSpec.post enc Tryd.prog Tryd.f5 false true false false) := by
  refine zbG (C := Tryd.checked) own started (by kernel_rfl) Tryd.func5
    (ChangeSpec.witness_shaped (enc := enc) (C := Tryd.checked) (os := os) (X := fun w _ => laidMetH Tryd.prog zbP w) false (laidW os) #[.agg #[.int .u32 0, .int .i64 0], .agg #[.int .u32 0, .int .u32 0]] 8 rfl (World.shaped_of_RefB (by kernel_rfl) (by kernel_rfl)) (by kernel_rfl) (by kernel_rfl) (by kernel_rfl) (zcL os _))
    laid rfl rfl (fun t h => zfW t (by simpa using h)) rfl Tryd.underlying4 ?_ (zbF zlh zli (zbF zjT zjU zdL))
    (fun v hv => zgK v.1.addr v.1.len v.2.1.1 v.2.1.2 hv.1.1 hv.1.2 hv.2.1.1.1 hv.2.1.1.2 hv.2.1.2.1 hv.2.1.2.2) (fun W sh h => zdl sh h)
  intro ds h
  match ds, h with
  | [a, b], _ => rfl
theorem zfl : Rows.PrefixTellsSaid :=
  OpenClaim.holds_of_wide 5 Tryd.f5 rfl rfl rfl rfl rfl rfl rfl ⟨rfl, rfl, rfl, rfl, rfl⟩ rfl rfl rfl rfl rfl (by kernel_rfl) Tryd.func5 (by kernel_rfl)
    (of_decide_eq_true (by kernel_rfl)) (by unfold Func.isWrapper; first | (rw [if_pos (by decide +kernel)]; kernel_rfl) | (rw [if_neg (by decide +kernel)]; exact ⟨rfl, rfl⟩))
    (fun os started H enc _ => ze1 os started H enc)
theorem prefixTells_card : Rows.PrefixTellsCardSaid :=
  Claim7.holds_tied_plain_at .later [] [.data, .data, .data, .data, .sentinel, .sentinel, .pinned] true (true, "b7bfd3f1296cd71c2b916e19cbd6c91930ac18ed402b40caa8ce61de6e1b746f") true
    zfl (fun _ h => by cases h) (by kernel_rfl) (fun _ h => by cases h) prefixTells_row_tie rfl ⟨rfl, rfl⟩ (by kernel_rfl) rfl
    (fun f fn hf hfn => by
      obtain rfl : f = 5 := Option.some.inj ((show Tryd.prog.funcNamed "waystone/waystonelaw02.PrefixTells" = some 5 by kernel_rfl).symm.trans hf) |>.symm
      obtain rfl : fn = Tryd.f5 := (Option.some.inj (Tryd.func5.symm.trans hfn)).symm
      exact ⟨by kernel_rfl, fun j t ht => by
        have hp : Tryd.f5.params = #[24, 28] := rfl
        rw [hp] at ht
        have hm : t ∈ [24, 28] := by simpa using Array.mem_of_getElem? ht
        have hall : ([24, 28].all fun u => !Tryd.prog.wantsStandIn u) = true := by kernel_rfl
        exact (show Tryd.prog.wantsStandIn t = false by simpa using List.all_eq_true.1 hall t hm)⟩)
    (by kernel_rfl)
end Go.Proofs.YtckabcbfbpejkaaDoor.Av
namespace Go.Proofs.YtckabcbfbpejkaaDoor.Av
open Go Go.RowKit Go.ChangeShapes Go.WideShapes
set_option linter.unusedSimpArgs false
set_option linter.unusedVariables false
set_option maxRecDepth 100000
theorem zfX : ∀ t, t = 28 → Tryd.prog.readableRec t = true ∧ t < Tryd.prog.types.size := by
  rintro t rfl
  all_goals exact ⟨by kernel_rfl, of_decide_eq_true (by kernel_rfl)⟩
theorem ze2 (os : Os) (started : os.Started) (H : Type) (enc : TypeId × Value → H) :
    ReturnsInHanded {} Tryd.checked os 6 .any (fun w args => (Rows.prefixSplitSpec.pre enc Tryd.prog Tryd.f6 Rows.prefixSplitRow.domain false w args ∧ laidMetH Tryd.prog zbP w) ∧ sizedMet enc Tryd.prog Tryd.f6 (OpenSpec.ofChange Rows.prefixSplitSpec) false w args) (Rows.prefixSplitSpec.post enc Tryd.prog Tryd.f6 false true false false) := by
  refine zbG (C := Tryd.checked) own started (by kernel_rfl) Tryd.func6
    (ChangeSpec.witness_shaped (enc := enc) (C := Tryd.checked) (os := os) (X := fun w _ => laidMetH Tryd.prog zbP w) false (laidW os) #[.agg #[.int .u32 0, .int .u32 0]] 8 rfl (World.shaped_of_RefB (by kernel_rfl) (by kernel_rfl)) (by kernel_rfl) (by kernel_rfl) (by kernel_rfl) (zcL os _))
    laid rfl rfl (fun t h => zfX t (by simpa using h)) rfl Tryd.underlying4 ?_ (zbF zjT zjU zdL)
    (fun v hv => zgL v.1.1 v.1.2 hv.1.1.1 hv.1.1.2 hv.1.2.1 hv.1.2.2) (fun W sh h => zdl sh h)
  intro ds h
  match ds, h with
  | [a], _ => rfl
theorem zfm : Rows.PrefixSplitSaid :=
  OpenClaim.holds_of_wide 6 Tryd.f6 rfl rfl rfl rfl rfl rfl rfl ⟨rfl, rfl, rfl, rfl, rfl⟩ rfl rfl rfl rfl rfl (by kernel_rfl) Tryd.func6 (by kernel_rfl)
    (of_decide_eq_true (by kernel_rfl)) (by unfold Func.isWrapper; first | (rw [if_pos (by decide +kernel)]; kernel_rfl) | (rw [if_neg (by decide +kernel)]; exact ⟨rfl, rfl⟩))
    (fun os started H enc _ => ze2 os started H enc)
theorem prefixSplit_card : Rows.PrefixSplitCardSaid :=
  Claim7.holds_tied_plain_at .later [] [.data, .data, .data, .data, .sentinel, .sentinel, .pinned] true (true, "b7bfd3f1296cd71c2b916e19cbd6c91930ac18ed402b40caa8ce61de6e1b746f") true
    zfm (fun _ h => by cases h) (by kernel_rfl) (fun _ h => by cases h) prefixSplit_row_tie rfl ⟨rfl, rfl⟩ (by kernel_rfl) rfl
    (fun f fn hf hfn => by
      obtain rfl : f = 6 := Option.some.inj ((show Tryd.prog.funcNamed "waystone/waystonelaw02.PrefixSplit" = some 6 by kernel_rfl).symm.trans hf) |>.symm
      obtain rfl : fn = Tryd.f6 := (Option.some.inj (Tryd.func6.symm.trans hfn)).symm
      exact ⟨by kernel_rfl, fun j t ht => by
        have hp : Tryd.f6.params = #[28] := rfl
        rw [hp] at ht
        have hm : t ∈ [28] := by simpa using Array.mem_of_getElem? ht
        have hall : ([28].all fun u => !Tryd.prog.wantsStandIn u) = true := by kernel_rfl
        exact (show Tryd.prog.wantsStandIn t = false by simpa using List.all_eq_true.1 hall t hm)⟩)
    (by kernel_rfl)
end Go.Proofs.YtckabcbfbpejkaaDoor.Av
namespace Go.Proofs.YtckabcbfbpejkaaDoor.Av
set_option linter.unusedSimpArgs false
set_option linter.unusedVariables false
end Go.Proofs.YtckabcbfbpejkaaDoor.Av
