/- Probe: ProbeOwn Part 14 of 15: AvNR. -/
import Derived.Test.YtanimmdlgmkmkaaPo9
import Derived.Test.YtanimmdlgmkmkaaPo13
import Derived.Test.YtanimmdlgmkmkaaRows

/- Networks and queries read. -/
namespace Go.Proofs.Ytanimmdlgmkmkaa.Av
open Go Go.RowKit Go.ChangeShapes Go.WideShapes
set_option linter.unusedSimpArgs false
set_option linter.unusedVariables false
set_option maxRecDepth 100000

theorem own : ownKnob Try.prog.godebug = none := by kernel_rfl
theorem laid : laidOutB Try.prog = true := by kernel_rfl
theorem rdI {t : TypeId} (ht : Try.prog.underlying t = some (.int .i64)) : Rds Try.prog t Int (fun n => .raw (.int .i64 n)) (fun n => -9223372036854775808 ≤ n ∧ n < 9223372036854775808) :=
  (rd_int ht).map id (fun _ => rfl) fun n h => by
    simp only [Lit.wf, IntKind.min, IntKind.max, Bool.and_eq_true, decide_eq_true_eq] at h
    simp [IntKind.signed, IntKind.bits] at h ⊢
    omega
theorem rdU : Rds Try.prog 31 Int (fun n => .raw (.int .u32 n)) (fun n => 0 ≤ n ∧ n < 4294967296) :=
  (rd_int Try.underlying31).map id (fun _ => rfl) fun n h => by
    simp only [Lit.wf, IntKind.min, IntKind.max, Bool.and_eq_true, decide_eq_true_eq] at h
    simp [IntKind.signed, IntKind.bits] at h ⊢
    omega
theorem rdRg : Rds Try.prog 33 Rg rgAV RgOK :=
  (rd_struct Try.underlying33 (n := 2) (by kernel_rfl) (rdF_cons rdU (c := 1) (by kernel_rfl) (rdF_cons rdU (c := 1) (by kernel_rfl) rdF_nil rfl rfl) rfl rfl)).map (fun p => ⟨p.1, p.2.1⟩) (fun _ => rfl)
    fun p h => ⟨h.1.1, h.1.2, h.2.1.1, h.2.1.2⟩
theorem rdPt : Rds Try.prog 41 Pt ptAV (fun _ => True) :=
  (rd_struct Try.underlying41 (n := 2) (by kernel_rfl) (rdF_cons (rdI Try.underlying3) (c := 1) (by kernel_rfl) (rdF_cons (rdI Try.underlying3) (c := 1) (by kernel_rfl) rdF_nil rfl rfl) rfl rfl)).map (fun p => ⟨p.1, p.2.1⟩) (fun _ => rfl) fun p h => trivial
theorem rdLk : Rds Try.prog 129 Lk lkAV (fun _ => True) :=
  (rd_struct Try.underlying129 (n := 4) (by kernel_rfl) (rdF_cons rdPt (c := 2) (by kernel_rfl) (rdF_cons rdPt (c := 2) (by kernel_rfl) rdF_nil rfl rfl) rfl rfl)).map (fun p => ⟨p.1, p.2.1⟩) (fun _ => rfl) fun p h => trivial
theorem rdRu : Rds Try.prog 85 Ru ruAV (fun r => RgOK r.r ∧ -9223372036854775808 ≤ r.id ∧ r.id < 9223372036854775808) :=
  (rd_struct Try.underlying85 (n := 7) (by kernel_rfl) (rdF_cons (rdI Try.underlying3) (c := 1) (by kernel_rfl) (rdF_cons (rdI Try.underlying3) (c := 1) (by kernel_rfl) (rdF_cons (rdI Try.underlying3) (c := 1) (by kernel_rfl)
    (rdF_cons (rdI Try.underlying83) (c := 1) (by kernel_rfl) (rdF_cons rdRg (c := 2) (by kernel_rfl) (rdF_cons (rdI Try.underlying3) (c := 1) (by kernel_rfl) rdF_nil rfl rfl) rfl rfl) rfl rfl) rfl rfl) rfl rfl) rfl rfl)).map
    (fun p => ⟨p.1, p.2.1, p.2.2.1, p.2.2.2.1, p.2.2.2.2.1, p.2.2.2.2.2.1⟩) (fun _ => rfl) fun p h => ⟨h.2.2.2.2.1, h.1.1, h.1.2⟩
theorem bytes3 : Try.prog.bytesOf 3 = 8 := by kernel_rfl
theorem bytes129 : Try.prog.bytesOf 129 = 32 := by kernel_rfl
theorem bytes85 : Try.prog.bytesOf 85 = 48 := by kernel_rfl
theorem reach_lit : reachBytes = 140737488351232 := by decide
theorem rdInts : Rds Try.prog 22 (List Int) (fun l => intsAV l false) (fun l => l.length < 2 ^ 44) :=
  (rd_slice Try.underlying22 (rdI Try.underlying3) (n := 1) (by kernel_rfl) (by decide) (by rw [bytes3]; decide)).map id (fun _ => rfl) fun l h => by
    have := h.1; rw [bytes3, reach_lit] at this; simp only [id]; omega
theorem rdLinks : Rds Try.prog 23 (List Lk) (fun l => linksAV l false) (fun l => l.length < 2 ^ 42) :=
  (rd_slice Try.underlying23 rdLk (n := 4) (by kernel_rfl) (by decide) (by rw [bytes129]; decide)).map id (fun _ => rfl) fun l h => by
    have := h.1; rw [bytes129, reach_lit] at this; simp only [id]; omega
theorem rdRules : Rds Try.prog 26 (List Ru) (fun l => rulesAV l false) (fun l => l.length < 2932031007403 ∧ ∀ r ∈ l, RgOK r.r ∧ -9223372036854775808 ≤ r.id ∧ r.id < 9223372036854775808) :=
  (rd_slice Try.underlying26 rdRu (n := 7) (by kernel_rfl) (by decide) (by rw [bytes85]; decide)).map id (fun _ => rfl) fun l h => ⟨by
    have := h.1; rw [bytes85, reach_lit] at this; simp only [id]; omega, h.2⟩
theorem rdTp : Rds Try.prog 25 Tp (fun t => tpAV t flN) (fun t => t.ports.length < 2 ^ 44 ∧ t.links.length < 2 ^ 42) :=
  (rd_struct Try.underlying25 (n := 2) (by kernel_rfl) (rdF_cons rdInts (c := 1) (by kernel_rfl) (rdF_cons rdLinks (c := 1) (by kernel_rfl) rdF_nil rfl rfl) rfl rfl)).map (fun p => ⟨p.1, p.2.1⟩) (fun _ => rfl) fun p h => ⟨h.1, h.2.1⟩
theorem rdNw : Rds Try.prog 28 Nw (fun n => nwAV n flN) NwOK :=
  (rd_struct Try.underlying28 (n := 3) (by kernel_rfl) (rdF_cons rdTp (c := 2) (by kernel_rfl) (rdF_cons rdRules (c := 1) (by kernel_rfl) rdF_nil rfl rfl) rfl rfl)).map (fun p => ⟨p.1, p.2.1⟩) (fun _ => rfl)
    fun p h => ⟨fun r hr => (h.2.1.2 r hr).1, h.1.1, h.1.2, h.2.1.1, fun r hr => (h.2.1.2 r hr).2⟩
theorem rdNw2 : Rds Try.prog 29 (Nw × Nw) (fun p => nw2AV p.1 p.2 flN flN) (fun p => NwOK p.1 ∧ NwOK p.2) :=
  (rd_array2 Try.underlying29 rdNw (c := 3) (by kernel_rfl) (by kernel_rfl)).map id (fun _ => rfl) fun p h => h
def prQ (p : Int × Int) : AV := .agg [.raw (.int .i64 p.1), .raw (.int .i64 p.2)]
theorem rdPr : Rds Try.prog 30 (Int × Int) prQ (fun _ => True) :=
  (rd_array2 Try.underlying30 (rdI Try.underlying3) (c := 1) (by kernel_rfl) (by kernel_rfl)).map id (fun _ => rfl) fun p h => trivial
theorem atNw2 : ArgAt Try.prog 29 (fun p : Nw × Nw => nw2AV p.1 p.2 flN flN) := argAt_array Try.underlying29 (g := fun p => (nwAV p.1 flN).cells ++ (nwAV p.2 flN).cells) fun _ => rfl
theorem atPr : ArgAt Try.prog 30 prQ := argAt_array Try.underlying30 (g := fun p => [.raw (.int .i64 p.1), .raw (.int .i64 p.2)]) fun _ => rfl
theorem atRg : ArgAt Try.prog 33 rgAV := argAt_struct Try.underlying33 (g := fun r => [.raw (.int .u32 r.lo), .raw (.int .u32 r.hi)]) fun _ => rfl
theorem rdQy : Rds Try.prog 37 Qy qyAV (fun q => RgOK q.r) :=
  (rd_struct Try.underlying37 (n := 7) (by kernel_rfl) (rdF_cons (rdI Try.underlying35) (c := 1) (by kernel_rfl) (rdF_cons (rdI Try.underlying3) (c := 1) (by kernel_rfl) (rdF_cons (rdI Try.underlying3) (c := 1) (by kernel_rfl)
    (rdF_cons (rdI Try.underlying3) (c := 1) (by kernel_rfl) (rdF_cons rdRg (c := 2) (by kernel_rfl) (rdF_cons (rd_string Try.underlying9) (c := 1) (by kernel_rfl) rdF_nil rfl rfl) rfl rfl) rfl rfl) rfl rfl) rfl rfl) rfl rfl)).map
    (fun p => ⟨p.1, p.2.1, p.2.2.1, p.2.2.2.1, p.2.2.2.2.1, p.2.2.2.2.2.1⟩) (fun _ => rfl) fun p h => h.2.2.2.2.1
theorem atQy : ArgAt Try.prog 37 qyAV := argAt_struct Try.underlying37 (g := fun q => (qyAV q).cells) fun _ => rfl
def pkQ (p : Int × Int) : AV := .agg [.raw (.int .i64 p.1), .raw (.int .u32 p.2)]
theorem rdPk : Rds Try.prog 53 (Int × Int) pkQ (fun p => 0 ≤ p.2 ∧ p.2 < 4294967296) :=
  (rd_struct Try.underlying53 (n := 2) (by kernel_rfl) (rdF_cons (rdI Try.underlying3) (c := 1) (by kernel_rfl) (rdF_cons rdU (c := 1) (by kernel_rfl) rdF_nil rfl rfl) rfl rfl)).map (fun p => ⟨p.1, p.2.1⟩) (fun _ => rfl) fun p h => h.2.1
theorem atPk : ArgAt Try.prog 53 pkQ := argAt_struct Try.underlying53 (g := fun p => (pkQ p).cells) fun _ => rfl
theorem readT : ∀ t, t = 29 ∨ t = 30 ∨ t = 33 ∨ t = 37 ∨ t = 53 → Try.prog.readableRec t = true ∧ t < Try.prog.types.size := by
  rintro t (rfl | rfl | rfl | rfl | rfl)
  · exact ⟨by kernel_rfl, of_decide_eq_true (by kernel_rfl)⟩
  · exact ⟨by kernel_rfl, of_decide_eq_true (by kernel_rfl)⟩
  · exact ⟨by kernel_rfl, of_decide_eq_true (by kernel_rfl)⟩
  · exact ⟨by kernel_rfl, of_decide_eq_true (by kernel_rfl)⟩
  · exact ⟨by kernel_rfl, of_decide_eq_true (by kernel_rfl)⟩

end Go.Proofs.Ytanimmdlgmkmkaa.Av

