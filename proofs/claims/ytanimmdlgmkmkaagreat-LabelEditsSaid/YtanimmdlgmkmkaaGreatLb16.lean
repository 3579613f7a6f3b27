/- Labels: LabelBack, LabelEdits. Part 16 of 17: AvNR2. -/
import Derived.Test.YtanimmdlgmkmkaaGreatLb8
import Derived.Test.YtanimmdlgmkmkaaGreatLb14
import Derived.Test.YtanimmdlgmkmkaaGreatRows
namespace Go.Proofs.YtanimmdlgmkmkaaGreat.Av
open Go Go.RowKit Go.ChangeShapes Go.WideShapes
set_option linter.unusedSimpArgs false
set_option linter.unusedVariables false
set_option maxRecDepth 100000
theorem own : ownKnob Tryz.prog.godebug = none := by kernel_rfl
theorem laid : laidOutB Tryz.prog = true := by kernel_rfl
theorem rdI {t : TypeId} (ht : Tryz.prog.underlying t = some (.int .i64)) : Rds Tryz.prog t Int (fun n => .raw (.int .i64 n)) (fun n => -9223372036854775808 ≤ n ∧ n < 9223372036854775808) :=
  (zn8 ht).map id (fun _ => rfl) fun n h => by
    simp only [Lit.wf, IntKind.min, IntKind.max, Bool.and_eq_true, decide_eq_true_eq] at h
    simp [IntKind.signed, IntKind.bits] at h ⊢
    omega
theorem rdU : Rds Tryz.prog 31 Int (fun n => .raw (.int .u32 n)) (fun n => 0 ≤ n ∧ n < 4294967296) :=
  (zn8 Tryz.underlying31).map id (fun _ => rfl) fun n h => by
    simp only [Lit.wf, IntKind.min, IntKind.max, Bool.and_eq_true, decide_eq_true_eq] at h
    simp [IntKind.signed, IntKind.bits] at h ⊢
    omega
theorem zqw : Rds Tryz.prog 33 Rg zau RgOK :=
  (zcw Tryz.underlying33 (n := 2) (by kernel_rfl) (zaI rdU (c := 1) (by kernel_rfl) (zaI rdU (c := 1) (by kernel_rfl) zdy rfl rfl) rfl rfl)).map (fun p => ⟨p.1, p.2.1⟩) (fun _ => rfl)
    fun p h => ⟨h.1.1, h.1.2, h.2.1.1, h.2.1.2⟩
theorem zqx : Rds Tryz.prog 41 Pt zQ (fun _ => True) :=
  (zcw Tryz.underlying41 (n := 2) (by kernel_rfl) (zaI (rdI Tryz.underlying3) (c := 1) (by kernel_rfl) (zaI (rdI Tryz.underlying3) (c := 1) (by kernel_rfl) zdy rfl rfl) rfl rfl)).map (fun p => ⟨p.1, p.2.1⟩) (fun _ => rfl) fun p h => trivial
theorem ztx : Rds Tryz.prog 160 Lk zbU (fun _ => True) :=
  (zcw Tryz.underlying160 (n := 4) (by kernel_rfl) (zaI zqx (c := 2) (by kernel_rfl) (zaI zqx (c := 2) (by kernel_rfl) zdy rfl rfl) rfl rfl)).map (fun p => ⟨p.1, p.2.1⟩) (fun _ => rfl) fun p h => trivial
theorem zo2 : Rds Tryz.prog 73 Ru zE (fun r => RgOK r.r ∧ -9223372036854775808 ≤ r.id ∧ r.id < 9223372036854775808) :=
  (zcw Tryz.underlying73 (n := 7) (by kernel_rfl) (zaI (rdI Tryz.underlying3) (c := 1) (by kernel_rfl) (zaI (rdI Tryz.underlying3) (c := 1) (by kernel_rfl) (zaI (rdI Tryz.underlying3) (c := 1) (by kernel_rfl)
    (zaI (rdI Tryz.underlying71) (c := 1) (by kernel_rfl) (zaI zqw (c := 2) (by kernel_rfl) (zaI (rdI Tryz.underlying3) (c := 1) (by kernel_rfl) zdy rfl rfl) rfl rfl) rfl rfl) rfl rfl) rfl rfl) rfl rfl)).map
    (fun p => ⟨p.1, p.2.1, p.2.2.1, p.2.2.2.1, p.2.2.2.2.1, p.2.2.2.2.2.1⟩) (fun _ => rfl) fun p h => ⟨h.2.2.2.2.1, h.1.1, h.1.2⟩
theorem zoe : Tryz.prog.bytesOf 3 = 8 := by kernel_rfl
theorem zlJ : Tryz.prog.bytesOf 160 = 32 := by kernel_rfl
theorem zmA : Tryz.prog.bytesOf 73 = 48 := by kernel_rfl
theorem zfl : reachBytes = 140737488351232 := by decide
theorem zqy : Rds Tryz.prog 22 (List Int) (fun l => zy l false) (fun l => l.length < 2 ^ 44) :=
  (zgo Tryz.underlying22 (rdI Tryz.underlying3) (n := 1) (by kernel_rfl) (by decide) (by rw [zoe]; decide)).map id (fun _ => rfl) fun l h => by
    have := h.1; rw [zoe, zfl] at this; simp only [id]; omega
theorem zpB : Rds Tryz.prog 23 (List Lk) (fun l => zw l false) (fun l => l.length < 2 ^ 42) :=
  (zgo Tryz.underlying23 ztx (n := 4) (by kernel_rfl) (by decide) (by rw [zlJ]; decide)).map id (fun _ => rfl) fun l h => by
    have := h.1; rw [zlJ, zfl] at this; simp only [id]; omega
theorem zpC : Rds Tryz.prog 26 (List Ru) (fun l => zu l false) (fun l => l.length < 2932031007403 ∧ ∀ r ∈ l, RgOK r.r ∧ -9223372036854775808 ≤ r.id ∧ r.id < 9223372036854775808) :=
  (zgo Tryz.underlying26 zo2 (n := 7) (by kernel_rfl) (by decide) (by rw [zmA]; decide)).map id (fun _ => rfl) fun l h => ⟨by
    have := h.1; rw [zmA, zfl] at this; simp only [id]; omega, h.2⟩
theorem zty : Rds Tryz.prog 25 Tp (fun t => zat t flN) (fun t => t.ports.length < 2 ^ 44 ∧ t.links.length < 2 ^ 42) :=
  (zcw Tryz.underlying25 (n := 2) (by kernel_rfl) (zaI zqy (c := 1) (by kernel_rfl) (zaI zpB (c := 1) (by kernel_rfl) zdy rfl rfl) rfl rfl)).map (fun p => ⟨p.1, p.2.1⟩) (fun _ => rfl) fun p h => ⟨h.1, h.2.1⟩
theorem zo3 : Rds Tryz.prog 28 Nw (fun n => z7 n flN) NwOK :=
  (zcw Tryz.underlying28 (n := 3) (by kernel_rfl) (zaI zty (c := 2) (by kernel_rfl) (zaI zpC (c := 1) (by kernel_rfl) zdy rfl rfl) rfl rfl)).map (fun p => ⟨p.1, p.2.1⟩) (fun _ => rfl)
    fun p h => ⟨fun r hr => (h.2.1.2 r hr).1, h.1.1, h.1.2, h.2.1.1, fun r hr => (h.2.1.2 r hr).2⟩
theorem zxR : Rds Tryz.prog 29 (Nw × Nw) (fun p => zpf p.1 p.2 flN flN) (fun p => NwOK p.1 ∧ NwOK p.2) :=
  (zkd Tryz.underlying29 zo3 (c := 3) (by kernel_rfl) (by kernel_rfl)).map id (fun _ => rfl) fun p h => h
def prQ (p : Int × Int) : AV := .agg [.raw (.int .i64 p.1), .raw (.int .i64 p.2)]
theorem rdPr : Rds Tryz.prog 51 (Int × Int) prQ (fun _ => True) :=
  (zkd Tryz.underlying51 (rdI Tryz.underlying3) (c := 1) (by kernel_rfl) (by kernel_rfl)).map id (fun _ => rfl) fun p h => trivial
theorem zxS : zdk Tryz.prog 29 (fun p : Nw × Nw => zpf p.1 p.2 flN flN) := zhN Tryz.underlying29 (g := fun p => (z7 p.1 flN).cells ++ (z7 p.2 flN).cells) fun _ => rfl
theorem atPr : zdk Tryz.prog 51 prQ := zhN Tryz.underlying51 (g := fun p => [.raw (.int .i64 p.1), .raw (.int .i64 p.2)]) fun _ => rfl
theorem atRg : zdk Tryz.prog 33 zau := zdQ Tryz.underlying33 (g := fun r => [.raw (.int .u32 r.lo), .raw (.int .u32 r.hi)]) fun _ => rfl
theorem rdQy : Rds Tryz.prog 35 Qy zoI (fun q => RgOK q.r) :=
  (zcw Tryz.underlying35 (n := 7) (by kernel_rfl) (zaI (rdI Tryz.underlying30) (c := 1) (by kernel_rfl) (zaI (rdI Tryz.underlying3) (c := 1) (by kernel_rfl) (zaI (rdI Tryz.underlying3) (c := 1) (by kernel_rfl)
    (zaI (rdI Tryz.underlying3) (c := 1) (by kernel_rfl) (zaI zqw (c := 2) (by kernel_rfl) (zaI (zn9 Tryz.underlying9) (c := 1) (by kernel_rfl) zdy rfl rfl) rfl rfl) rfl rfl) rfl rfl) rfl rfl) rfl rfl)).map
    (fun p => ⟨p.1, p.2.1, p.2.2.1, p.2.2.2.1, p.2.2.2.2.1, p.2.2.2.2.2.1⟩) (fun _ => rfl) fun p h => h.2.2.2.2.1
theorem atQy : zdk Tryz.prog 35 zoI := zdQ Tryz.underlying35 (g := fun q => (zoI q).cells) fun _ => rfl
theorem zqz : zdk Tryz.prog 28 (fun n : Nw => z7 n flN) := zdQ Tryz.underlying28 (g := fun n => (z7 n flN).cells) fun _ => rfl
theorem zsd : zdk Tryz.prog 3 (fun n : Int => .raw (.int .i64 n)) := zkc Tryz.underlying3 rfl fun _ => rfl
end Go.Proofs.YtanimmdlgmkmkaaGreat.Av
