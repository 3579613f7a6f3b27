/- Flows: FlowTells, FlowDiffers, FlowCut, FlowFares. Part 13 of 14: AvNR2. -/
import Derived.Test.YtpboabpapgimoaaGreatFl8
import Derived.Test.YtpboabpapgimoaaGreatFl12
import Derived.Test.YtpboabpapgimoaaGreatRows
namespace Go.Proofs.YtpboabpapgimoaaGreat.Av
open Go Go.RowKit Go.ChangeShapes Go.WideShapes
set_option linter.unusedSimpArgs false
set_option linter.unusedVariables false
set_option maxRecDepth 100000
theorem own : ownKnob Tryz.prog.godebug = none := by kernel_rfl
theorem laid : laidOutB Tryz.prog = true := by kernel_rfl
theorem rdI {t : TypeId} (ht : Tryz.prog.underlying t = some (.int .i64)) : Rds Tryz.prog t Int (fun n => .raw (.int .i64 n)) (fun n => -9223372036854775808 ≤ n ∧ n < 9223372036854775808) :=
  (zps ht).map id (fun _ => rfl) fun n h => by
    simp only [Lit.wf, IntKind.min, IntKind.max, Bool.and_eq_true, decide_eq_true_eq] at h
    simp [IntKind.signed, IntKind.bits] at h ⊢
    omega
theorem rdU : Rds Tryz.prog 46 Int (fun n => .raw (.int .u32 n)) (fun n => 0 ≤ n ∧ n < 4294967296) :=
  (zps Tryz.underlying46).map id (fun _ => rfl) fun n h => by
    simp only [Lit.wf, IntKind.min, IntKind.max, Bool.and_eq_true, decide_eq_true_eq] at h
    simp [IntKind.signed, IntKind.bits] at h ⊢
    omega
theorem zqd : Rds Tryz.prog 48 Rg zp RgOK :=
  (zdU Tryz.underlying48 (n := 2) (by kernel_rfl) (zbw rdU (c := 1) (by kernel_rfl) (zbw rdU (c := 1) (by kernel_rfl) zfh rfl rfl) rfl rfl)).map (fun p => ⟨p.1, p.2.1⟩) (fun _ => rfl)
    fun p h => ⟨h.1.1, h.1.2, h.2.1.1, h.2.1.2⟩
theorem zrG : Rds Tryz.prog 52 Pt zS (fun _ => True) :=
  (zdU Tryz.underlying52 (n := 2) (by kernel_rfl) (zbw (rdI Tryz.underlying3) (c := 1) (by kernel_rfl) (zbw (rdI Tryz.underlying3) (c := 1) (by kernel_rfl) zfh rfl rfl) rfl rfl)).map (fun p => ⟨p.1, p.2.1⟩) (fun _ => rfl) fun p h => trivial
theorem zuA : Rds Tryz.prog 101 Lk ziI (fun _ => True) :=
  (zdU Tryz.underlying101 (n := 4) (by kernel_rfl) (zbw zrG (c := 2) (by kernel_rfl) (zbw zrG (c := 2) (by kernel_rfl) zfh rfl rfl) rfl rfl)).map (fun p => ⟨p.1, p.2.1⟩) (fun _ => rfl) fun p h => trivial
theorem zuB : Rds Tryz.prog 79 Ru zab (fun r => RgOK r.r ∧ -9223372036854775808 ≤ r.id ∧ r.id < 9223372036854775808) :=
  (zdU Tryz.underlying79 (n := 7) (by kernel_rfl) (zbw (rdI Tryz.underlying3) (c := 1) (by kernel_rfl) (zbw (rdI Tryz.underlying3) (c := 1) (by kernel_rfl) (zbw (rdI Tryz.underlying3) (c := 1) (by kernel_rfl)
    (zbw (rdI Tryz.underlying77) (c := 1) (by kernel_rfl) (zbw zqd (c := 2) (by kernel_rfl) (zbw (rdI Tryz.underlying3) (c := 1) (by kernel_rfl) zfh rfl rfl) rfl rfl) rfl rfl) rfl rfl) rfl rfl) rfl rfl)).map
    (fun p => ⟨p.1, p.2.1, p.2.2.1, p.2.2.2.1, p.2.2.2.2.1, p.2.2.2.2.2.1⟩) (fun _ => rfl) fun p h => ⟨h.2.2.2.2.1, h.1.1, h.1.2⟩
theorem zpt : Tryz.prog.bytesOf 3 = 8 := by kernel_rfl
theorem zmK : Tryz.prog.bytesOf 101 = 32 := by kernel_rfl
theorem znA : Tryz.prog.bytesOf 79 = 48 := by kernel_rfl
theorem zhU : reachBytes = 140737488351232 := by decide
theorem zrH : Rds Tryz.prog 22 (List Int) (fun l => zh l false) (fun l => l.length < 2 ^ 44) :=
  (ziV Tryz.underlying22 (rdI Tryz.underlying3) (n := 1) (by kernel_rfl) (by decide) (by rw [zpt]; decide)).map id (fun _ => rfl) fun l h => by
    have := h.1; rw [zpt, zhU] at this; simp only [id]; omega
theorem zqH : Rds Tryz.prog 23 (List Lk) (fun l => zC l false) (fun l => l.length < 2 ^ 42) :=
  (ziV Tryz.underlying23 zuA (n := 4) (by kernel_rfl) (by decide) (by rw [zmK]; decide)).map id (fun _ => rfl) fun l h => by
    have := h.1; rw [zmK, zhU] at this; simp only [id]; omega
theorem zqI : Rds Tryz.prog 26 (List Ru) (fun l => zz l false) (fun l => l.length < 2932031007403 ∧ ∀ r ∈ l, RgOK r.r ∧ -9223372036854775808 ≤ r.id ∧ r.id < 9223372036854775808) :=
  (ziV Tryz.underlying26 zuB (n := 7) (by kernel_rfl) (by decide) (by rw [znA]; decide)).map id (fun _ => rfl) fun l h => ⟨by
    have := h.1; rw [znA, zhU] at this; simp only [id]; omega, h.2⟩
theorem zuC : Rds Tryz.prog 25 Tp (fun t => zbJ t flN) (fun t => t.ports.length < 2 ^ 44 ∧ t.links.length < 2 ^ 42) :=
  (zdU Tryz.underlying25 (n := 2) (by kernel_rfl) (zbw zrH (c := 1) (by kernel_rfl) (zbw zqH (c := 1) (by kernel_rfl) zfh rfl rfl) rfl rfl)).map (fun p => ⟨p.1, p.2.1⟩) (fun _ => rfl) fun p h => ⟨h.1, h.2.1⟩
theorem zrI : Rds Tryz.prog 28 Nw (fun n => zR n flN) NwOK :=
  (zdU Tryz.underlying28 (n := 3) (by kernel_rfl) (zbw zuC (c := 2) (by kernel_rfl) (zbw zqI (c := 1) (by kernel_rfl) zfh rfl rfl) rfl rfl)).map (fun p => ⟨p.1, p.2.1⟩) (fun _ => rfl)
    fun p h => ⟨fun r hr => (h.2.1.2 r hr).1, h.1.1, h.1.2, h.2.1.1, fun r hr => (h.2.1.2 r hr).2⟩
theorem zor : Rds Tryz.prog 45 (Nw × Nw) (fun p => zcl p.1 p.2 flN flN) (fun p => NwOK p.1 ∧ NwOK p.2) :=
  (zlb Tryz.underlying45 zrI (c := 3) (by kernel_rfl) (by kernel_rfl)).map id (fun _ => rfl) fun p h => h
def prQ (p : Int × Int) : AV := .agg [.raw (.int .i64 p.1), .raw (.int .i64 p.2)]
theorem zuD : Rds Tryz.prog 61 (Int × Int) prQ (fun _ => True) :=
  (zlb Tryz.underlying61 (rdI Tryz.underlying3) (c := 1) (by kernel_rfl) (by kernel_rfl)).map id (fun _ => rfl) fun p h => trivial
theorem zos : zeI Tryz.prog 45 (fun p : Nw × Nw => zcl p.1 p.2 flN flN) := ziv Tryz.underlying45 (g := fun p => (zR p.1 flN).cells ++ (zR p.2 flN).cells) fun _ => rfl
theorem zuE : zeI Tryz.prog 61 prQ := ziv Tryz.underlying61 (g := fun p => [.raw (.int .i64 p.1), .raw (.int .i64 p.2)]) fun _ => rfl
theorem zrJ : zeI Tryz.prog 48 zp := zhT Tryz.underlying48 (g := fun r => [.raw (.int .u32 r.lo), .raw (.int .u32 r.hi)]) fun _ => rfl
theorem zuF : zeI Tryz.prog 28 (fun n : Nw => zR n flN) := zhT Tryz.underlying28 (g := fun n => (zR n flN).cells) fun _ => rfl
theorem zlI : zeI Tryz.prog 3 (fun n : Int => .raw (.int .i64 n)) := zla Tryz.underlying3 rfl fun _ => rfl
end Go.Proofs.YtpboabpapgimoaaGreat.Av
