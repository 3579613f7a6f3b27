/- Probe: ProbeTells. Part 14 of 15: AvNR2, AvNR4. -/
import Derived.Test.YtanimmdlgmkmkaaGreatPt9
import Derived.Test.YtanimmdlgmkmkaaGreatPt13
import Derived.Test.YtanimmdlgmkmkaaGreatRows
namespace Go.Proofs.YtanimmdlgmkmkaaGreat.Av
open Go Go.RowKit Go.ChangeShapes Go.WideShapes
set_option linter.unusedSimpArgs false
set_option linter.unusedVariables false
set_option maxRecDepth 100000
theorem own : ownKnob Tryz.prog.godebug = none := by kernel_rfl
theorem laid : laidOutB Tryz.prog = true := by kernel_rfl
theorem rdI {t : TypeId} (ht : Tryz.prog.underlying t = some (.int .i64)) : Rds Tryz.prog t Int (fun n => .raw (.int .i64 n)) (fun n => -9223372036854775808 ≤ n ∧ n < 9223372036854775808) :=
  (zn4 ht).map id (fun _ => rfl) fun n h => by
    simp only [Lit.wf, IntKind.min, IntKind.max, Bool.and_eq_true, decide_eq_true_eq] at h
    simp [IntKind.signed, IntKind.bits] at h ⊢
    omega
theorem rdU : Rds Tryz.prog 31 Int (fun n => .raw (.int .u32 n)) (fun n => 0 ≤ n ∧ n < 4294967296) :=
  (zn4 Tryz.underlying31).map id (fun _ => rfl) fun n h => by
    simp only [Lit.wf, IntKind.min, IntKind.max, Bool.and_eq_true, decide_eq_true_eq] at h
    simp [IntKind.signed, IntKind.bits] at h ⊢
    omega
theorem zqh : Rds Tryz.prog 33 Rg zat RgOK :=
  (zc4 Tryz.underlying33 (n := 2) (by kernel_rfl) (zaX rdU (c := 1) (by kernel_rfl) (zaX rdU (c := 1) (by kernel_rfl) zee rfl rfl) rfl rfl)).map (fun p => ⟨p.1, p.2.1⟩) (fun _ => rfl)
    fun p h => ⟨h.1.1, h.1.2, h.2.1.1, h.2.1.2⟩
theorem zqi : Rds Tryz.prog 41 Pt zS (fun _ => True) :=
  (zc4 Tryz.underlying41 (n := 2) (by kernel_rfl) (zaX (rdI Tryz.underlying3) (c := 1) (by kernel_rfl) (zaX (rdI Tryz.underlying3) (c := 1) (by kernel_rfl) zee rfl rfl) rfl rfl)).map (fun p => ⟨p.1, p.2.1⟩) (fun _ => rfl) fun p h => trivial
theorem zto : Rds Tryz.prog 160 Lk zcw (fun _ => True) :=
  (zc4 Tryz.underlying160 (n := 4) (by kernel_rfl) (zaX zqi (c := 2) (by kernel_rfl) (zaX zqi (c := 2) (by kernel_rfl) zee rfl rfl) rfl rfl)).map (fun p => ⟨p.1, p.2.1⟩) (fun _ => rfl) fun p h => trivial
theorem ztp : Rds Tryz.prog 73 Ru zac (fun r => RgOK r.r ∧ -9223372036854775808 ≤ r.id ∧ r.id < 9223372036854775808) :=
  (zc4 Tryz.underlying73 (n := 7) (by kernel_rfl) (zaX (rdI Tryz.underlying3) (c := 1) (by kernel_rfl) (zaX (rdI Tryz.underlying3) (c := 1) (by kernel_rfl) (zaX (rdI Tryz.underlying3) (c := 1) (by kernel_rfl)
    (zaX (rdI Tryz.underlying71) (c := 1) (by kernel_rfl) (zaX zqh (c := 2) (by kernel_rfl) (zaX (rdI Tryz.underlying3) (c := 1) (by kernel_rfl) zee rfl rfl) rfl rfl) rfl rfl) rfl rfl) rfl rfl) rfl rfl)).map
    (fun p => ⟨p.1, p.2.1, p.2.2.1, p.2.2.2.1, p.2.2.2.2.1, p.2.2.2.2.2.1⟩) (fun _ => rfl) fun p h => ⟨h.2.2.2.2.1, h.1.1, h.1.2⟩
theorem zjm : Tryz.prog.bytesOf 3 = 8 := by kernel_rfl
theorem zlG : Tryz.prog.bytesOf 160 = 32 := by kernel_rfl
theorem zms : Tryz.prog.bytesOf 73 = 48 := by kernel_rfl
theorem zfm : reachBytes = 140737488351232 := by decide
theorem zqj : Rds Tryz.prog 22 (List Int) (fun l => zq l false) (fun l => l.length < 2 ^ 44) :=
  (zgv Tryz.underlying22 (rdI Tryz.underlying3) (n := 1) (by kernel_rfl) (by decide) (by rw [zjm]; decide)).map id (fun _ => rfl) fun l h => by
    have := h.1; rw [zjm, zfm] at this; simp only [id]; omega
theorem zpd : Rds Tryz.prog 23 (List Lk) (fun l => zy l false) (fun l => l.length < 2 ^ 42) :=
  (zgv Tryz.underlying23 zto (n := 4) (by kernel_rfl) (by decide) (by rw [zlG]; decide)).map id (fun _ => rfl) fun l h => by
    have := h.1; rw [zlG, zfm] at this; simp only [id]; omega
theorem zpe : Rds Tryz.prog 26 (List Ru) (fun l => zE l false) (fun l => l.length < 2932031007403 ∧ ∀ r ∈ l, RgOK r.r ∧ -9223372036854775808 ≤ r.id ∧ r.id < 9223372036854775808) :=
  (zgv Tryz.underlying26 ztp (n := 7) (by kernel_rfl) (by decide) (by rw [zms]; decide)).map id (fun _ => rfl) fun l h => ⟨by
    have := h.1; rw [zms, zfm] at this; simp only [id]; omega, h.2⟩
theorem ztq : Rds Tryz.prog 25 Tp (fun t => zaT t flN) (fun t => t.ports.length < 2 ^ 44 ∧ t.links.length < 2 ^ 42) :=
  (zc4 Tryz.underlying25 (n := 2) (by kernel_rfl) (zaX zqj (c := 1) (by kernel_rfl) (zaX zpd (c := 1) (by kernel_rfl) zee rfl rfl) rfl rfl)).map (fun p => ⟨p.1, p.2.1⟩) (fun _ => rfl) fun p h => ⟨h.1, h.2.1⟩
theorem ztr : Rds Tryz.prog 28 Nw (fun n => z7 n flN) NwOK :=
  (zc4 Tryz.underlying28 (n := 3) (by kernel_rfl) (zaX ztq (c := 2) (by kernel_rfl) (zaX zpe (c := 1) (by kernel_rfl) zee rfl rfl) rfl rfl)).map (fun p => ⟨p.1, p.2.1⟩) (fun _ => rfl)
    fun p h => ⟨fun r hr => (h.2.1.2 r hr).1, h.1.1, h.1.2, h.2.1.1, fun r hr => (h.2.1.2 r hr).2⟩
theorem zrQ : Rds Tryz.prog 29 (Nw × Nw) (fun p => zgs p.1 p.2 flN flN) (fun p => NwOK p.1 ∧ NwOK p.2) :=
  (zj9 Tryz.underlying29 ztr (c := 3) (by kernel_rfl) (by kernel_rfl)).map id (fun _ => rfl) fun p h => h
def prQ (p : Int × Int) : AV := .agg [.raw (.int .i64 p.1), .raw (.int .i64 p.2)]
theorem rdPr : Rds Tryz.prog 51 (Int × Int) prQ (fun _ => True) :=
  (zj9 Tryz.underlying51 (rdI Tryz.underlying3) (c := 1) (by kernel_rfl) (by kernel_rfl)).map id (fun _ => rfl) fun p h => trivial
theorem zrR : zd0 Tryz.prog 29 (fun p : Nw × Nw => zgs p.1 p.2 flN flN) := zhX Tryz.underlying29 (g := fun p => (z7 p.1 flN).cells ++ (z7 p.2 flN).cells) fun _ => rfl
theorem atPr : zd0 Tryz.prog 51 prQ := zhX Tryz.underlying51 (g := fun p => [.raw (.int .i64 p.1), .raw (.int .i64 p.2)]) fun _ => rfl
theorem atRg : zd0 Tryz.prog 33 zat := zfc Tryz.underlying33 (g := fun r => [.raw (.int .u32 r.lo), .raw (.int .u32 r.hi)]) fun _ => rfl
theorem zts : Rds Tryz.prog 35 Qy zaH (fun q => RgOK q.r) :=
  (zc4 Tryz.underlying35 (n := 7) (by kernel_rfl) (zaX (rdI Tryz.underlying30) (c := 1) (by kernel_rfl) (zaX (rdI Tryz.underlying3) (c := 1) (by kernel_rfl) (zaX (rdI Tryz.underlying3) (c := 1) (by kernel_rfl)
    (zaX (rdI Tryz.underlying3) (c := 1) (by kernel_rfl) (zaX zqh (c := 2) (by kernel_rfl) (zaX (zn5 Tryz.underlying9) (c := 1) (by kernel_rfl) zee rfl rfl) rfl rfl) rfl rfl) rfl rfl) rfl rfl) rfl rfl)).map
    (fun p => ⟨p.1, p.2.1, p.2.2.1, p.2.2.2.1, p.2.2.2.2.1, p.2.2.2.2.2.1⟩) (fun _ => rfl) fun p h => h.2.2.2.2.1
theorem ztt : zd0 Tryz.prog 35 zaH := zfc Tryz.underlying35 (g := fun q => (zaH q).cells) fun _ => rfl
theorem atNw : zd0 Tryz.prog 28 (fun n : Nw => z7 n flN) := zfc Tryz.underlying28 (g := fun n => (z7 n flN).cells) fun _ => rfl
theorem zyF : zd0 Tryz.prog 3 (fun n : Int => .raw (.int .i64 n)) := zj8 Tryz.underlying3 rfl fun _ => rfl
end Go.Proofs.YtanimmdlgmkmkaaGreat.Av
namespace Go.Proofs.YtanimmdlgmkmkaaGreat.Av
open Go Go.RowKit Go.ChangeShapes Go.WideShapes
set_option linter.unusedSimpArgs false
set_option linter.unusedVariables false
set_option maxRecDepth 100000
theorem zpf : Rds Tryz.prog 22 (List Int) (fun l => zq l false) (fun l => l.length < 2 ^ 44 ∧ ∀ x ∈ l, -9223372036854775808 ≤ x ∧ x < 9223372036854775808) :=
  (zgv Tryz.underlying22 (rdI Tryz.underlying3) (n := 1) (by kernel_rfl) (by decide) (by rw [zjm]; decide)).map id (fun _ => rfl) fun l h => ⟨by
    have := h.1; rw [zjm, zfm] at this; simp only [id]; omega, h.2⟩
theorem zqk : zd0 Tryz.prog 22 (fun l => zq l false) := zj8 Tryz.underlying22 rfl fun _ => rfl
end Go.Proofs.YtanimmdlgmkmkaaGreat.Av
