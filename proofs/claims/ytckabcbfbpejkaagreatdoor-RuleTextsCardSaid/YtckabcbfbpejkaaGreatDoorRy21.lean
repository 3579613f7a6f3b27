/- Rules: the laws RuleTexts, RuleMatches. Part 21 of 22: AvSR. -/
import Derived.Test.YtckabcbfbpejkaaGreatDoorRy16
import Derived.Test.YtckabcbfbpejkaaGreatDoorRy18
import Derived.Test.YtckabcbfbpejkaaGreatDoorTie
import Derived.Test.YtckabcbfbpejkaaGreatDoorCards
namespace Go.Proofs.YtckabcbfbpejkaaGreatDoor.Av
open Go Go.RowKit Go.ChangeShapes Go.WideShapes
set_option linter.unusedSimpArgs false
set_option linter.unusedVariables false
set_option maxRecDepth 100000
theorem own : ownKnob Tryz.prog.godebug = none := by kernel_rfl
theorem laid : laidOutB Tryz.prog = true := by kernel_rfl
theorem rdI {t : TypeId} (ht : Tryz.prog.underlying t = some (.int .i64)) : Rds Tryz.prog t Int (fun n => .raw (.int .i64 n)) (fun n => -9223372036854775808 ≤ n ∧ n < 9223372036854775808) :=
  (zmP ht).map id (fun _ => rfl) fun n h => by
    simp only [Lit.wf, IntKind.min, IntKind.max, Bool.and_eq_true, decide_eq_true_eq] at h
    simp [IntKind.signed, IntKind.bits] at h ⊢
    omega
theorem rdU : Rds Tryz.prog 23 Int (fun n => .raw (.int .u32 n)) (fun n => 0 ≤ n ∧ n < 4294967296) :=
  (zmP Tryz.underlying23).map id (fun _ => rfl) fun n h => by
    simp only [Lit.wf, IntKind.min, IntKind.max, Bool.and_eq_true, decide_eq_true_eq] at h
    simp [IntKind.signed, IntKind.bits] at h ⊢
    omega
theorem rdPf : Rds Tryz.prog 81 Pf zbl (fun p => 0 ≤ p.addr ∧ p.addr < 4294967296) :=
  (zek Tryz.underlying81 (n := 2) (by kernel_rfl) (za3 rdU (c := 1) (by kernel_rfl) (za3 (rdI Tryz.underlying3) (c := 1) (by kernel_rfl) zgl rfl rfl) rfl rfl)).map (fun p => ⟨p.1, p.2.1⟩) (fun _ => rfl) fun p h => h.1
theorem atPf : zcn Tryz.prog 81 zbl := zd7 Tryz.underlying81 (g := fun p => (zbl p).cells) fun _ => rfl
theorem rdRg : Rds Tryz.prog 25 (Int × Int) (fun p => rgA p.1 p.2) (fun p => (0 ≤ p.1 ∧ p.1 < 4294967296) ∧ 0 ≤ p.2 ∧ p.2 < 4294967296) :=
  (zek Tryz.underlying25 (n := 2) (by kernel_rfl) (za3 rdU (c := 1) (by kernel_rfl) (za3 rdU (c := 1) (by kernel_rfl) zgl rfl rfl) rfl rfl)).map (fun p => ⟨p.1, p.2.1⟩) (fun _ => rfl) fun p h => ⟨h.1, h.2.1⟩
theorem atRg : zcn Tryz.prog 25 (fun p : Int × Int => rgA p.1 p.2) := zd7 Tryz.underlying25 (g := fun p : Int × Int => (rgA p.1 p.2).cells) fun _ => rfl
def znM : DataW Unit → List Value
  | .agg l => l.map fun | .lit (.int k n) => .int k n | _ => .nilIface
  | _ => []
noncomputable def laidW (os : Os) : World :=
  { World.doorLaid Tryz.prog 72 os with heap := (World.doorLaid Tryz.prog 72 os).heap.setIfInBounds 4 (.cells (znM Rows.laid_unicode_utf8_first).toArray 138) }
theorem zi6 (os : Os) (args : Array Value) : laidMetH Tryz.prog zfi ((laidW os).forCall (fun _ _ => 0) ⟨#[], args, []⟩).memory :=
  laidMetH_of_parts3 (fuel := 8) (laidMet_of_run' 8 (by kernel_rfl) (by kernel_rfl)) (by kernel_rfl) (by kernel_rfl)
theorem zky {W : World} (sh : W.ShapedOpen Tryz.prog) (h : laidMetH Tryz.prog zfi W) : GlobOK (zch W) := by
  rw [MakeChecks.laidMetH_plain _ _ _ (by kernel_rfl)] at h
  exact zog sh h
end Go.Proofs.YtckabcbfbpejkaaGreatDoor.Av
