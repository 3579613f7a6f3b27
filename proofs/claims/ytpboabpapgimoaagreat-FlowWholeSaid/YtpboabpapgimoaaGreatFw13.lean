/- Flows: FlowWhole. Part 13 of 14: AvNR2. -/
import Derived.Test.YtpboabpapgimoaaGreatFw8
import Derived.Test.YtpboabpapgimoaaGreatFw12
import Derived.Test.YtpboabpapgimoaaGreatRows
namespace Go.Proofs.YtpboabpapgimoaaGreat.Av
open Go Go.RowKit Go.ChangeShapes Go.WideShapes
set_option linter.unusedSimpArgs false
set_option linter.unusedVariables false
set_option maxRecDepth 100000
theorem own : ownKnob Tryz.prog.godebug = none := by kernel_rfl
theorem laid : laidOutB Tryz.prog = true := by kernel_rfl
theorem rdI {t : TypeId} (ht : Tryz.prog.underlying t = some (.int .i64)) : Rds Tryz.prog t Int (fun n => .raw (.int .i64 n)) (fun n => -9223372036854775808 ≤ n ∧ n < 9223372036854775808) :=
  (zoZ ht).map id (fun _ => rfl) fun n h => by
    simp only [Lit.wf, IntKind.min, IntKind.max, Bool.and_eq_true, decide_eq_true_eq] at h
    simp [IntKind.signed, IntKind.bits] at h ⊢
    omega
theorem rdU : Rds Tryz.prog 46 Int (fun n => .raw (.int .u32 n)) (fun n => 0 ≤ n ∧ n < 4294967296) :=
  (zoZ Tryz.underlying46).map id (fun _ => rfl) fun n h => by
    simp only [Lit.wf, IntKind.min, IntKind.max, Bool.and_eq_true, decide_eq_true_eq] at h
    simp [IntKind.signed, IntKind.bits] at h ⊢
    omega
theorem zt9 : Rds Tryz.prog 48 Rg zl RgOK :=
  (zdk Tryz.underlying48 (n := 2) (by kernel_rfl) (za9 rdU (c := 1) (by kernel_rfl) (za9 rdU (c := 1) (by kernel_rfl) zeE rfl rfl) rfl rfl)).map (fun p => ⟨p.1, p.2.1⟩) (fun _ => rfl)
    fun p h => ⟨h.1.1, h.1.2, h.2.1.1, h.2.1.2⟩
theorem zrg : Rds Tryz.prog 52 Pt zag (fun _ => True) :=
  (zdk Tryz.underlying52 (n := 2) (by kernel_rfl) (za9 (rdI Tryz.underlying3) (c := 1) (by kernel_rfl) (za9 (rdI Tryz.underlying3) (c := 1) (by kernel_rfl) zeE rfl rfl) rfl rfl)).map (fun p => ⟨p.1, p.2.1⟩) (fun _ => rfl) fun p h => trivial
theorem zua : Rds Tryz.prog 101 Lk zh4 (fun _ => True) :=
  (zdk Tryz.underlying101 (n := 4) (by kernel_rfl) (za9 zrg (c := 2) (by kernel_rfl) (za9 zrg (c := 2) (by kernel_rfl) zeE rfl rfl) rfl rfl)).map (fun p => ⟨p.1, p.2.1⟩) (fun _ => rfl) fun p h => trivial
theorem zub : Rds Tryz.prog 79 Ru zah (fun r => RgOK r.r ∧ -9223372036854775808 ≤ r.id ∧ r.id < 9223372036854775808) :=
  (zdk Tryz.underlying79 (n := 7) (by kernel_rfl) (za9 (rdI Tryz.underlying3) (c := 1) (by kernel_rfl) (za9 (rdI Tryz.underlying3) (c := 1) (by kernel_rfl) (za9 (rdI Tryz.underlying3) (c := 1) (by kernel_rfl)
    (za9 (rdI Tryz.underlying77) (c := 1) (by kernel_rfl) (za9 zt9 (c := 2) (by kernel_rfl) (za9 (rdI Tryz.underlying3) (c := 1) (by kernel_rfl) zeE rfl rfl) rfl rfl) rfl rfl) rfl rfl) rfl rfl) rfl rfl)).map
    (fun p => ⟨p.1, p.2.1, p.2.2.1, p.2.2.2.1, p.2.2.2.2.1, p.2.2.2.2.2.1⟩) (fun _ => rfl) fun p h => ⟨h.2.2.2.2.1, h.1.1, h.1.2⟩
theorem zo1 : Tryz.prog.bytesOf 3 = 8 := by kernel_rfl
theorem zl6 : Tryz.prog.bytesOf 101 = 32 := by kernel_rfl
theorem zm2 : Tryz.prog.bytesOf 79 = 48 := by kernel_rfl
theorem zhe : reachBytes = 140737488351232 := by decide
theorem zrh : Rds Tryz.prog 22 (List Int) (fun l => zp l false) (fun l => l.length < 2 ^ 44) :=
  (zij Tryz.underlying22 (rdI Tryz.underlying3) (n := 1) (by kernel_rfl) (by decide) (by rw [zo1]; decide)).map id (fun _ => rfl) fun l h => by
    have := h.1; rw [zo1, zhe] at this; simp only [id]; omega
theorem zqi : Rds Tryz.prog 23 (List Lk) (fun l => zF l false) (fun l => l.length < 2 ^ 42) :=
  (zij Tryz.underlying23 zua (n := 4) (by kernel_rfl) (by decide) (by rw [zl6]; decide)).map id (fun _ => rfl) fun l h => by
    have := h.1; rw [zl6, zhe] at this; simp only [id]; omega
theorem zqj : Rds Tryz.prog 26 (List Ru) (fun l => zz l false) (fun l => l.length < 2932031007403 ∧ ∀ r ∈ l, RgOK r.r ∧ -9223372036854775808 ≤ r.id ∧ r.id < 9223372036854775808) :=
  (zij Tryz.underlying26 zub (n := 7) (by kernel_rfl) (by decide) (by rw [zm2]; decide)).map id (fun _ => rfl) fun l h => ⟨by
    have := h.1; rw [zm2, zhe] at this; simp only [id]; omega, h.2⟩
theorem zuc : Rds Tryz.prog 25 Tp (fun t => zbZ t flN) (fun t => t.ports.length < 2 ^ 44 ∧ t.links.length < 2 ^ 42) :=
  (zdk Tryz.underlying25 (n := 2) (by kernel_rfl) (za9 zrh (c := 1) (by kernel_rfl) (za9 zqi (c := 1) (by kernel_rfl) zeE rfl rfl) rfl rfl)).map (fun p => ⟨p.1, p.2.1⟩) (fun _ => rfl) fun p h => ⟨h.1, h.2.1⟩
theorem zri : Rds Tryz.prog 28 Nw (fun n => zau n flN) NwOK :=
  (zdk Tryz.underlying28 (n := 3) (by kernel_rfl) (za9 zuc (c := 2) (by kernel_rfl) (za9 zqj (c := 1) (by kernel_rfl) zeE rfl rfl) rfl rfl)).map (fun p => ⟨p.1, p.2.1⟩) (fun _ => rfl)
    fun p h => ⟨fun r hr => (h.2.1.2 r hr).1, h.1.1, h.1.2, h.2.1.1, fun r hr => (h.2.1.2 r hr).2⟩
theorem zyZ : Rds Tryz.prog 45 (Nw × Nw) (fun p => zpV p.1 p.2 flN flN) (fun p => NwOK p.1 ∧ NwOK p.2) :=
  (zku Tryz.underlying45 zri (c := 3) (by kernel_rfl) (by kernel_rfl)).map id (fun _ => rfl) fun p h => h
def prQ (p : Int × Int) : AV := .agg [.raw (.int .i64 p.1), .raw (.int .i64 p.2)]
theorem rdPr : Rds Tryz.prog 61 (Int × Int) prQ (fun _ => True) :=
  (zku Tryz.underlying61 (rdI Tryz.underlying3) (c := 1) (by kernel_rfl) (by kernel_rfl)).map id (fun _ => rfl) fun p h => trivial
theorem zy0 : zeA Tryz.prog 45 (fun p : Nw × Nw => zpV p.1 p.2 flN flN) := zhR Tryz.underlying45 (g := fun p => (zau p.1 flN).cells ++ (zau p.2 flN).cells) fun _ => rfl
theorem atPr : zeA Tryz.prog 61 prQ := zhR Tryz.underlying61 (g := fun p => [.raw (.int .i64 p.1), .raw (.int .i64 p.2)]) fun _ => rfl
theorem atRg : zeA Tryz.prog 48 zl := zhc Tryz.underlying48 (g := fun r => [.raw (.int .u32 r.lo), .raw (.int .u32 r.hi)]) fun _ => rfl
theorem zud : zeA Tryz.prog 28 (fun n : Nw => zau n flN) := zhc Tryz.underlying28 (g := fun n => (zau n flN).cells) fun _ => rfl
theorem zpX : zeA Tryz.prog 3 (fun n : Int => .raw (.int .i64 n)) := zo0 Tryz.underlying3 rfl fun _ => rfl
end Go.Proofs.YtpboabpapgimoaaGreat.Av
