/- Rules: the laws RuleTells, RuleBack, RuleApart, RuleFirst. Part 21 of 22: AvSR. -/
import Derived.Test.YtckabcbfbpejkaaDoorRx16
import Derived.Test.YtckabcbfbpejkaaDoorRx18
import Derived.Test.YtckabcbfbpejkaaDoorTie
import Derived.Test.YtckabcbfbpejkaaDoorCards
namespace Go.Proofs.YtckabcbfbpejkaaDoor.Av
open Go Go.RowKit Go.ChangeShapes Go.WideShapes
set_option linter.unusedSimpArgs false
set_option linter.unusedVariables false
set_option maxRecDepth 100000
theorem own : ownKnob Tryd.prog.godebug = none := by kernel_rfl
theorem laid : laidOutB Tryd.prog = true := by kernel_rfl
theorem rdI {t : TypeId} (ht : Tryd.prog.underlying t = some (.int .i64)) : Rds Tryd.prog t Int (fun n => .raw (.int .i64 n)) (fun n => -9223372036854775808 ≤ n ∧ n < 9223372036854775808) :=
  (zlY ht).map id (fun _ => rfl) fun n h => by
    simp only [Lit.wf, IntKind.min, IntKind.max, Bool.and_eq_true, decide_eq_true_eq] at h
    simp [IntKind.signed, IntKind.bits] at h ⊢
    omega
theorem rdU : Rds Tryd.prog 22 Int (fun n => .raw (.int .u32 n)) (fun n => 0 ≤ n ∧ n < 4294967296) :=
  (zlY Tryd.underlying22).map id (fun _ => rfl) fun n h => by
    simp only [Lit.wf, IntKind.min, IntKind.max, Bool.and_eq_true, decide_eq_true_eq] at h
    simp [IntKind.signed, IntKind.bits] at h ⊢
    omega
theorem rdPf : Rds Tryd.prog 24 Pf zc7 (fun p => 0 ≤ p.addr ∧ p.addr < 4294967296) :=
  (zdT Tryd.underlying24 (n := 2) (by kernel_rfl) (zaT rdU (c := 1) (by kernel_rfl) (zaT (rdI Tryd.underlying3) (c := 1) (by kernel_rfl) zfH rfl rfl) rfl rfl)).map (fun p => ⟨p.1, p.2.1⟩) (fun _ => rfl) fun p h => h.1
theorem atPf : zcS Tryd.prog 24 zc7 := zdH Tryd.underlying24 (g := fun p => (zc7 p).cells) fun _ => rfl
theorem rdRg : Rds Tryd.prog 28 (Int × Int) (fun p => rgA p.1 p.2) (fun p => (0 ≤ p.1 ∧ p.1 < 4294967296) ∧ 0 ≤ p.2 ∧ p.2 < 4294967296) :=
  (zdT Tryd.underlying28 (n := 2) (by kernel_rfl) (zaT rdU (c := 1) (by kernel_rfl) (zaT rdU (c := 1) (by kernel_rfl) zfH rfl rfl) rfl rfl)).map (fun p => ⟨p.1, p.2.1⟩) (fun _ => rfl) fun p h => ⟨h.1, h.2.1⟩
theorem atRg : zcS Tryd.prog 28 (fun p : Int × Int => rgA p.1 p.2) := zdH Tryd.underlying28 (g := fun p : Int × Int => (rgA p.1 p.2).cells) fun _ => rfl
def zmR : DataW Unit → List Value
  | .agg l => l.map fun | .lit (.int k n) => .int k n | _ => .nilIface
  | _ => []
noncomputable def laidW (os : Os) : World :=
  { World.doorLaid Tryd.prog 72 os with heap := (World.doorLaid Tryd.prog 72 os).heap.setIfInBounds 5 (.cells (zmR Rows.laid_unicode_utf8_first).toArray 150) }
theorem zdX (os : Os) (args : Array Value) : laidMetH Tryd.prog zcx ((laidW os).forCall (fun _ _ => 0) ⟨#[], args, []⟩).memory :=
  laidMetH_of_parts3 (fuel := 8) (laidMet_of_run' 8 (by kernel_rfl) (by kernel_rfl)) (by kernel_rfl) (by kernel_rfl)
theorem zeP {W : World} (sh : W.ShapedOpen Tryd.prog) (h : laidMetH Tryd.prog zcx W) : GlobOK (zbY W) := by
  rw [MakeChecks.laidMetH_plain _ _ _ (by kernel_rfl)] at h
  exact znm sh h
end Go.Proofs.YtckabcbfbpejkaaDoor.Av
