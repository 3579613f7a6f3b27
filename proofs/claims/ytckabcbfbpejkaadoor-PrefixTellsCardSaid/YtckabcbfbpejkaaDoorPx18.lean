/- Prefix: the laws PrefixTexts, PrefixTells, PrefixSplit, PrefixParses, PrefixBack. Part 18 of 19: AvSR. -/
import Derived.Test.YtckabcbfbpejkaaDoorPx14
import Derived.Test.YtckabcbfbpejkaaDoorPx16
import Derived.Test.YtckabcbfbpejkaaDoorTie
import Derived.Test.YtckabcbfbpejkaaDoorCards
namespace Go.Proofs.YtckabcbfbpejkaaDoor.Av
open Go Go.RowKit Go.ChangeShapes Go.WideShapes
set_option linter.unusedSimpArgs false
set_option linter.unusedVariables false
set_option maxRecDepth 100000
theorem own : ownKnob Tryd.prog.godebug = none := by kernel_rfl
theorem laid : laidOutB Tryd.prog = true := by kernel_rfl
theorem rdI {t : TypeId} (ht : Tryd.prog.underlying t = some (.int .i64)) : Rds Tryd.prog t Int (fun n => .raw (.int .i64 n)) (fun n => -9223372036854775808 ≤ n ∧ n < 9223372036854775808) :=
  (zko ht).map id (fun _ => rfl) fun n h => by
    simp only [Lit.wf, IntKind.min, IntKind.max, Bool.and_eq_true, decide_eq_true_eq] at h
    simp [IntKind.signed, IntKind.bits] at h ⊢
    omega
theorem rdU : Rds Tryd.prog 22 Int (fun n => .raw (.int .u32 n)) (fun n => 0 ≤ n ∧ n < 4294967296) :=
  (zko Tryd.underlying22).map id (fun _ => rfl) fun n h => by
    simp only [Lit.wf, IntKind.min, IntKind.max, Bool.and_eq_true, decide_eq_true_eq] at h
    simp [IntKind.signed, IntKind.bits] at h ⊢
    omega
theorem zlh : Rds Tryd.prog 24 Pf zab (fun p => 0 ≤ p.addr ∧ p.addr < 4294967296) :=
  (zhg Tryd.underlying24 (n := 2) (by kernel_rfl) (zee rdU (c := 1) (by kernel_rfl) (zee (rdI Tryd.underlying3) (c := 1) (by kernel_rfl) zi9 rfl rfl) rfl rfl)).map (fun p => ⟨p.1, p.2.1⟩) (fun _ => rfl) fun p h => h.1
theorem zli : zef Tryd.prog 24 zab := zeS Tryd.underlying24 (g := fun p => (zab p).cells) fun _ => rfl
theorem zjT : Rds Tryd.prog 28 (Int × Int) (fun p => rgA p.1 p.2) (fun p => (0 ≤ p.1 ∧ p.1 < 4294967296) ∧ 0 ≤ p.2 ∧ p.2 < 4294967296) :=
  (zhg Tryd.underlying28 (n := 2) (by kernel_rfl) (zee rdU (c := 1) (by kernel_rfl) (zee rdU (c := 1) (by kernel_rfl) zi9 rfl rfl) rfl rfl)).map (fun p => ⟨p.1, p.2.1⟩) (fun _ => rfl) fun p h => ⟨h.1, h.2.1⟩
theorem zjU : zef Tryd.prog 28 (fun p : Int × Int => rgA p.1 p.2) := zeS Tryd.underlying28 (g := fun p : Int × Int => (rgA p.1 p.2).cells) fun _ => rfl
def zlj : DataW Unit → List Value
  | .agg l => l.map fun | .lit (.int k n) => .int k n | _ => .nilIface
  | _ => []
noncomputable def laidW (os : Os) : World :=
  { World.doorLaid Tryd.prog 72 os with heap := (World.doorLaid Tryd.prog 72 os).heap.setIfInBounds 5 (.cells (zlj Rows.laid_unicode_utf8_first).toArray 150) }
theorem zcL (os : Os) (args : Array Value) : laidMetH Tryd.prog zbP ((laidW os).forCall (fun _ _ => 0) ⟨#[], args, []⟩).memory :=
  laidMetH_of_parts3 (fuel := 8) (laidMet_of_run' 8 (by kernel_rfl) (by kernel_rfl)) (by kernel_rfl) (by kernel_rfl)
theorem zdl {W : World} (sh : W.ShapedOpen Tryd.prog) (h : laidMetH Tryd.prog zbP W) : GlobOK (zbV W) := by
  rw [MakeChecks.laidMetH_plain _ _ _ (by kernel_rfl)] at h
  exact zlG sh h
end Go.Proofs.YtckabcbfbpejkaaDoor.Av
