/- Labels: LabelBack Part 16 of 17: AvNR2. -/
import Derived.Test.YtanimmdlgmkmkaaGreatLb9
import Derived.Test.YtanimmdlgmkmkaaGreatLb14
import Derived.Test.YtanimmdlgmkmkaaGreatRows

/- Networks and queries read (second seat). -/
namespace Go.Proofs.YtanimmdlgmkmkaaGreat.Av
open Go Go.RowKit Go.ChangeShapes Go.WideShapes
set_option linter.unusedSimpArgs false
set_option linter.unusedVariables false
set_option maxRecDepth 100000

theorem own : ownKnob Tryz.prog.godebug = none := by kernel_rfl
theorem laid : laidOutB Tryz.prog = true := by kernel_rfl
theorem rdI {t : TypeId} (ht : Tryz.prog.underlying t = some (.int .i64)) : Rds Tryz.prog t Int (fun n => .raw (.int .i64 n)) (fun n => -9223372036854775808 ≤ n ∧ n < 9223372036854775808) :=
  (rd_int ht).map id (fun _ => rfl) fun n h => by
    simp only [Lit.wf, IntKind.min, IntKind.max, Bool.and_eq_true, decide_eq_true_eq] at h
    simp [IntKind.signed, IntKind.bits] at h ⊢
    omega
theorem rdU : Rds Tryz.prog 31 Int (fun n => .raw (.int .u32 n)) (fun n => 0 ≤ n ∧ n < 4294967296) :=
  (rd_int Tryz.underlying31).map id (fun _ => rfl) fun n h => by
    simp only [Lit.wf, IntKind.min, IntKind.max, Bool.and_eq_true, decide_eq_true_eq] at h
    simp [IntKind.signed, IntKind.bits] at h ⊢
    omega
theorem rdRg : Rds Tryz.prog 33 Rg rgAV RgOK :=
  (rd_struct Tryz.underlying33 (n := 2) (by kernel_rfl) (rdF_cons rdU (c := 1) (by kernel_rfl) (rdF_cons rdU (c := 1) (by kernel_rfl) rdF_nil rfl rfl) rfl rfl)).map (fun p => ⟨p.1, p.2.1⟩) (fun _ => rfl)
    fun p h => ⟨h.1.1, h.1.2, h.2.1.1, h.2.1.2⟩
theorem rdPt : Rds Tryz.prog 41 Pt ptAV (fun _ => True) :=
  (rd_struct Tryz.underlying41 (n := 2) (by kernel_rfl) (rdF_cons (rdI Tryz.underlying3) (c := 1) (by kernel_rfl) (rdF_cons (rdI Tryz.underlying3) (c := 1) (by kernel_rfl) rdF_nil rfl rfl) rfl rfl)).map (fun p => ⟨p.1, p.2.1⟩) (fun _ => rfl) fun p h => trivial
theorem rdLk : Rds Tryz.prog 160 Lk lkAV (fun _ => True) :=
  (rd_struct Tryz.underlying160 (n := 4) (by kernel_rfl) (rdF_cons rdPt (c := 2) (by kernel_rfl) (rdF_cons rdPt (c := 2) (by kernel_rfl) rdF_nil rfl rfl) rfl rfl)).map (fun p => ⟨p.1, p.2.1⟩) (fun _ => rfl) fun p h => trivial
theorem rdRu : Rds Tryz.prog 73 Ru ruAV (fun r => RgOK r.r ∧ -9223372036854775808 ≤ r.id ∧ r.id < 9223372036854775808) :=
  (rd_struct Tryz.underlying73 (n := 7) (by kernel_rfl) (rdF_cons (rdI Tryz.underlying3) (c := 1) (by kernel_rfl) (rdF_cons (rdI Tryz.underlying3) (c := 1) (by kernel_rfl) (rdF_cons (rdI Tryz.underlying3) (c := 1) (by kernel_rfl)
    (rdF_cons (rdI Tryz.underlying71) (c := 1) (by kernel_rfl) (rdF_cons rdRg (c := 2) (by kernel_rfl) (rdF_cons (rdI Tryz.underlying3) (c := 1) (by kernel_rfl) rdF_nil rfl rfl) rfl rfl) rfl rfl) rfl rfl) rfl rfl) rfl rfl)).map
    (fun p => ⟨p.1, p.2.1, p.2.2.1, p.2.2.2.1, p.2.2.2.2.1, p.2.2.2.2.2.1⟩) (fun _ => rfl) fun p h => ⟨h.2.2.2.2.1, h.1.1, h.1.2⟩
theorem bytes3 : Tryz.prog.bytesOf 3 = 8 := by kernel_rfl
theorem bytes129 : Tryz.prog.bytesOf 160 = 32 := by kernel_rfl
theorem bytes85 : Tryz.prog.bytesOf 73 = 48 := by kernel_rfl
theorem reach_lit : reachBytes = 140737488351232 := by decide
theorem rdInts : Rds Tryz.prog 22 (List Int) (fun l => intsAV l false) (fun l => l.length < 2 ^ 44) :=
  (rd_slice Tryz.underlying22 (rdI Tryz.underlying3) (n := 1) (by kernel_rfl) (by decide) (by rw [bytes3]; decide)).map id (fun _ => rfl) fun l h => by
    have := h.1; rw [bytes3, reach_lit] at this; simp only [id]; omega
theorem rdLinks : Rds Tryz.prog 23 (List Lk) (fun l => linksAV l false) (fun l => l.length < 2 ^ 42) :=
  (rd_slice Tryz.underlying23 rdLk (n := 4) (by kernel_rfl) (by decide) (by rw [bytes129]; decide)).map id (fun _ => rfl) fun l h => by
    have := h.1; rw [bytes129, reach_lit] at this; simp only [id]; omega
theorem rdRules : Rds Tryz.prog 26 (List Ru) (fun l => rulesAV l false) (fun l => l.length < 2932031007403 ∧ ∀ r ∈ l, RgOK r.r ∧ -9223372036854775808 ≤ r.id ∧ r.id < 9223372036854775808) :=
  (rd_slice Tryz.underlying26 rdRu (n := 7) (by kernel_rfl) (by decide) (by rw [bytes85]; decide)).map id (fun _ => rfl) fun l h => ⟨by
    have := h.1; rw [bytes85, reach_lit] at this; simp only [id]; omega, h.2⟩
theorem rdTp : Rds Tryz.prog 25 Tp (fun t => tpAV t flN) (fun t => t.ports.length < 2 ^ 44 ∧ t.links.length < 2 ^ 42) :=
  (rd_struct Tryz.underlying25 (n := 2) (by kernel_rfl) (rdF_cons rdInts (c := 1) (by kernel_rfl) (rdF_cons rdLinks (c := 1) (by kernel_rfl) rdF_nil rfl rfl) rfl rfl)).map (fun p => ⟨p.1, p.2.1⟩) (fun _ => rfl) fun p h => ⟨h.1, h.2.1⟩
theorem rdNw : Rds Tryz.prog 28 Nw (fun n => nwAV n flN) NwOK :=
  (rd_struct Tryz.underlying28 (n := 3) (by kernel_rfl) (rdF_cons rdTp (c := 2) (by kernel_rfl) (rdF_cons rdRules (c := 1) (by kernel_rfl) rdF_nil rfl rfl) rfl rfl)).map (fun p => ⟨p.1, p.2.1⟩) (fun _ => rfl)
    fun p h => ⟨fun r hr => (h.2.1.2 r hr).1, h.1.1, h.1.2, h.2.1.1, fun r hr => (h.2.1.2 r hr).2⟩
theorem rdNw2 : Rds Tryz.prog 29 (Nw × Nw) (fun p => nw2AV p.1 p.2 flN flN) (fun p => NwOK p.1 ∧ NwOK p.2) :=
  (rd_array2 Tryz.underlying29 rdNw (c := 3) (by kernel_rfl) (by kernel_rfl)).map id (fun _ => rfl) fun p h => h
def prQ (p : Int × Int) : AV := .agg [.raw (.int .i64 p.1), .raw (.int .i64 p.2)]
theorem rdPr : Rds Tryz.prog 51 (Int × Int) prQ (fun _ => True) :=
  (rd_array2 Tryz.underlying51 (rdI Tryz.underlying3) (c := 1) (by kernel_rfl) (by kernel_rfl)).map id (fun _ => rfl) fun p h => trivial
theorem atNw2 : ArgAt Tryz.prog 29 (fun p : Nw × Nw => nw2AV p.1 p.2 flN flN) := argAt_array Tryz.underlying29 (g := fun p => (nwAV p.1 flN).cells ++ (nwAV p.2 flN).cells) fun _ => rfl
theorem atPr : ArgAt Tryz.prog 51 prQ := argAt_array Tryz.underlying51 (g := fun p => [.raw (.int .i64 p.1), .raw (.int .i64 p.2)]) fun _ => rfl
theorem atRg : ArgAt Tryz.prog 33 rgAV := argAt_struct Tryz.underlying33 (g := fun r => [.raw (.int .u32 r.lo), .raw (.int .u32 r.hi)]) fun _ => rfl
theorem rdQy : Rds Tryz.prog 35 Qy qyAV (fun q => RgOK q.r) :=
  (rd_struct Tryz.underlying35 (n := 7) (by kernel_rfl) (rdF_cons (rdI Tryz.underlying30) (c := 1) (by kernel_rfl) (rdF_cons (rdI Tryz.underlying3) (c := 1) (by kernel_rfl) (rdF_cons (rdI Tryz.underlying3) (c := 1) (by kernel_rfl)
    (rdF_cons (rdI Tryz.underlying3) (c := 1) (by kernel_rfl) (rdF_cons rdRg (c := 2) (by kernel_rfl) (rdF_cons (rd_string Tryz.underlying9) (c := 1) (by kernel_rfl) rdF_nil rfl rfl) rfl rfl) rfl rfl) rfl rfl) rfl rfl) rfl rfl)).map
    (fun p => ⟨p.1, p.2.1, p.2.2.1, p.2.2.2.1, p.2.2.2.2.1, p.2.2.2.2.2.1⟩) (fun _ => rfl) fun p h => h.2.2.2.2.1
theorem atQy : ArgAt Tryz.prog 35 qyAV := argAt_struct Tryz.underlying35 (g := fun q => (qyAV q).cells) fun _ => rfl
theorem atNw : ArgAt Tryz.prog 28 (fun n : Nw => nwAV n flN) := argAt_struct Tryz.underlying28 (g := fun n => (nwAV n flN).cells) fun _ => rfl
theorem atInt : ArgAt Tryz.prog 3 (fun n : Int => .raw (.int .i64 n)) := argAt_one Tryz.underlying3 rfl fun _ => rfl
end Go.Proofs.YtanimmdlgmkmkaaGreat.Av

