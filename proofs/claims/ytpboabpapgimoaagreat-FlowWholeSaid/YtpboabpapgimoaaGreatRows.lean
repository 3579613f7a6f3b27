/-
  No cell of these rows narrows 'for every input' (looked for: loops, veiled, ifaces, maps, wideKeys, modest, calm, conditions, laid).
  DERIVED. THE GIVEN ROWS OF THIS SEAT. 5 by the template 'for every input the law returns true; each argument reads behind the call as it read before'; 0 by the template 'total and deterministic' (their statements: YtpboabpapgimoaaGreatTotals.lean).
  GIVEN WITH THE SEED: the statements are not yours to turn. If you find one false, say at which input.
  Laid BY PROGRAM, IN A SANDBOX (cutbox-rows.mjs): the forced cells as the released guide's own fill.sh prints them over the translation f2dc66fb091bf7ba… (all of the seat's roots in one cut). By AI agents, Wed Nov 11 2026. No macro, syntax, notation, axiom, sorry.
-/
import Derived.Test.YtpboabpapgimoaaGreatChecked
import GoSem.Claim
import GoSem.ClaimJoined
import GoSem.ClaimMapViews
import Derived.JoinedTies
import Derived.KernelRfl
namespace Go.Proofs.YtpboabpapgimoaaGreat
/- THE CELL 'sum', in the pinned program and in every row, IS THE sha256 OF THE DUMP (.gsa) THAT YtpboabpapgimoaaGreatProg.lean LOADS. Nothing in Lean hashes anything: it is a label: what it is worth is what the hold of that sum in a sandbox is worth. -/
noncomputable def Tryz.pinned : Pinned := { name := "ytpboabpapgimoaagreat", sum := "f2dc66fb091bf7ba33a826084d5a83cb495e08382af46e83c1afe0710e072fa5", checked := Tryz.checked }
namespace Rows
def none {H : Type} : Left H := { results := [], args := [] }

/-- 'waystonelaw11.FlowTells': WHATEVER THE INPUT: true; the input reads as it did. -/
def flowTellsSpec : ChangeSpec := { name := "flowTells", fn := fun _ => fun
  | [d1, d2, d3] => { results := [.lit (.bool true)], args := [d1, d2, d3] }
  | _ => none }
def flowTellsRow : OpenClaim := { program := "ytpboabpapgimoaagreat", sum := "f2dc66fb091bf7ba33a826084d5a83cb495e08382af46e83c1afe0710e072fa5", func := "waystone/waystonelaw11.FlowTells", spec := "flowTells", unfollowed := true, recurses := true, plainKeys := false, apart := false }
def FlowTellsSaid : Prop := flowTellsRow.holds Tryz.pinned (OpenSpec.ofChange flowTellsSpec)

/-- ITS FALSE NEIGHBOUR: 'it returns false'. Refute it at one input. -/
def flowTellsWrong : ChangeSpec := { name := "flowTells", fn := fun _ => fun
  | [d1, d2, d3] => { results := [.lit (.bool false)], args := [d1, d2, d3] }
  | _ => none }
def FlowTellsWrongFalsely : Prop := flowTellsRow.holds Tryz.pinned (OpenSpec.ofChange flowTellsWrong)

/-- 'waystonelaw11.FlowWhole': WHATEVER THE INPUT: true; the input reads as it did. -/
def flowWholeSpec : ChangeSpec := { name := "flowWhole", fn := fun _ => fun
  | [d1, d2, d3] => { results := [.lit (.bool true)], args := [d1, d2, d3] }
  | _ => none }
def flowWholeRow : OpenClaim := { program := "ytpboabpapgimoaagreat", sum := "f2dc66fb091bf7ba33a826084d5a83cb495e08382af46e83c1afe0710e072fa5", func := "waystone/waystonelaw11.FlowWhole", spec := "flowWhole", unfollowed := true, recurses := true, plainKeys := false, apart := false }
def FlowWholeSaid : Prop := flowWholeRow.holds Tryz.pinned (OpenSpec.ofChange flowWholeSpec)

/-- ITS FALSE NEIGHBOUR: 'it returns false'. Refute it at one input. -/
def flowWholeWrong : ChangeSpec := { name := "flowWhole", fn := fun _ => fun
  | [d1, d2, d3] => { results := [.lit (.bool false)], args := [d1, d2, d3] }
  | _ => none }
def FlowWholeWrongFalsely : Prop := flowWholeRow.holds Tryz.pinned (OpenSpec.ofChange flowWholeWrong)

/-- 'waystonelaw11.FlowCut': WHATEVER THE INPUT: true; the input reads as it did. -/
def flowCutSpec : ChangeSpec := { name := "flowCut", fn := fun _ => fun
  | [d1, d2, d3] => { results := [.lit (.bool true)], args := [d1, d2, d3] }
  | _ => none }
def flowCutRow : OpenClaim := { program := "ytpboabpapgimoaagreat", sum := "f2dc66fb091bf7ba33a826084d5a83cb495e08382af46e83c1afe0710e072fa5", func := "waystone/waystonelaw11.FlowCut", spec := "flowCut", unfollowed := true, recurses := true, plainKeys := false, apart := false }
def FlowCutSaid : Prop := flowCutRow.holds Tryz.pinned (OpenSpec.ofChange flowCutSpec)

/-- ITS FALSE NEIGHBOUR: 'it returns false'. Refute it at one input. -/
def flowCutWrong : ChangeSpec := { name := "flowCut", fn := fun _ => fun
  | [d1, d2, d3] => { results := [.lit (.bool false)], args := [d1, d2, d3] }
  | _ => none }
def FlowCutWrongFalsely : Prop := flowCutRow.holds Tryz.pinned (OpenSpec.ofChange flowCutWrong)

/-- 'waystonelaw11.FlowDiffers': WHATEVER THE INPUT: true; the input reads as it did. -/
def flowDiffersSpec : ChangeSpec := { name := "flowDiffers", fn := fun _ => fun
  | [d1, d2, d3] => { results := [.lit (.bool true)], args := [d1, d2, d3] }
  | _ => none }
def flowDiffersRow : OpenClaim := { program := "ytpboabpapgimoaagreat", sum := "f2dc66fb091bf7ba33a826084d5a83cb495e08382af46e83c1afe0710e072fa5", func := "waystone/waystonelaw11.FlowDiffers", spec := "flowDiffers", unfollowed := true, recurses := true, plainKeys := false, apart := false }
def FlowDiffersSaid : Prop := flowDiffersRow.holds Tryz.pinned (OpenSpec.ofChange flowDiffersSpec)

/-- ITS FALSE NEIGHBOUR: 'it returns false'. Refute it at one input. -/
def flowDiffersWrong : ChangeSpec := { name := "flowDiffers", fn := fun _ => fun
  | [d1, d2, d3] => { results := [.lit (.bool false)], args := [d1, d2, d3] }
  | _ => none }
def FlowDiffersWrongFalsely : Prop := flowDiffersRow.holds Tryz.pinned (OpenSpec.ofChange flowDiffersWrong)

/-- 'waystonelaw11.FlowFares': WHATEVER THE INPUT: true; the input reads as it did. -/
def flowFaresSpec : ChangeSpec := { name := "flowFares", fn := fun _ => fun
  | [d1, d2, d3] => { results := [.lit (.bool true)], args := [d1, d2, d3] }
  | _ => none }
def flowFaresRow : OpenClaim := { program := "ytpboabpapgimoaagreat", sum := "f2dc66fb091bf7ba33a826084d5a83cb495e08382af46e83c1afe0710e072fa5", func := "waystone/waystonelaw11.FlowFares", spec := "flowFares", unfollowed := true, recurses := true, plainKeys := false, apart := false }
def FlowFaresSaid : Prop := flowFaresRow.holds Tryz.pinned (OpenSpec.ofChange flowFaresSpec)

/-- ITS FALSE NEIGHBOUR: 'it returns false'. Refute it at one input. -/
def flowFaresWrong : ChangeSpec := { name := "flowFares", fn := fun _ => fun
  | [d1, d2, d3] => { results := [.lit (.bool false)], args := [d1, d2, d3] }
  | _ => none }
def FlowFaresWrongFalsely : Prop := flowFaresRow.holds Tryz.pinned (OpenSpec.ofChange flowFaresWrong)

/- THE SECOND FORM. 'bulk': how many values and letters a reading holds, each counted each time it is reached (what is shared counts as often as it is met; a slice's spare places count too). A statement '..UptoSaid' is the law's where the arguments, and the package variables that the reading takes, are together of bulk at most 1048576: NARROWER than '..Said'. Prove '..Said' where nothing that the law and all that it calls make is longer than what came in: it says more and counts as full. Else prove '..UptoSaid'. A law counts once. -/
mutual
def uptoBulk {H : Type} : DataW H → Nat
  | .lit (.string bytes) => bytes.length + 1
  | .lit _ => 1
  | .nil => 1
  | .ptr d => uptoBulk d + 1
  | .slice elems spare => uptoBulkAll elems + uptoBulkAll spare + 1
  | .agg parts => uptoBulkAll parts + 1
  | .iface _ d => uptoBulk d + 1
  | .map entries => uptoBulkEntries entries + 1
  | .held _ => 1
def uptoBulkAll {H : Type} : List (DataW H) → Nat
  | [] => 0
  | d :: r => uptoBulk d + uptoBulkAll r
def uptoBulkEntries {H : Type} : List (Lit × DataW H) → Nat
  | [] => 0
  | x :: r => uptoBulkEntry x + uptoBulkEntries r
def uptoBulkEntry {H : Type} : Lit × DataW H → Nat
  | (.string bytes, d) => bytes.length + uptoBulk d + 1
  | (_, d) => uptoBulk d + 1
 end
def uptoSmall : (H : Type) → List (DataW H) → Bool := fun _ ds => decide (uptoBulkAll ds ≤ 1048576)
def OpenSpec.upto (s : _root_.Go.ChangeSpec) : _root_.Go.OpenSpec := { _root_.Go.OpenSpec.ofChange s with cond := some uptoSmall }

/-- 'waystonelaw11.FlowTells', WHERE WHAT IT READS IS OF BULK AT MOST 1048576: true; the input reads as it did. -/
def flowTellsUptoRow : OpenClaim := { program := "ytpboabpapgimoaagreat", sum := "f2dc66fb091bf7ba33a826084d5a83cb495e08382af46e83c1afe0710e072fa5", func := "waystone/waystonelaw11.FlowTells", spec := "flowTells", unfollowed := true, recurses := true, plainKeys := false, apart := false, narrowed := true }
def FlowTellsUptoSaid : Prop := flowTellsUptoRow.holds Tryz.pinned (OpenSpec.upto flowTellsSpec)

/-- 'waystonelaw11.FlowWhole', WHERE WHAT IT READS IS OF BULK AT MOST 1048576: true; the input reads as it did. -/
def flowWholeUptoRow : OpenClaim := { program := "ytpboabpapgimoaagreat", sum := "f2dc66fb091bf7ba33a826084d5a83cb495e08382af46e83c1afe0710e072fa5", func := "waystone/waystonelaw11.FlowWhole", spec := "flowWhole", unfollowed := true, recurses := true, plainKeys := false, apart := false, narrowed := true }
def FlowWholeUptoSaid : Prop := flowWholeUptoRow.holds Tryz.pinned (OpenSpec.upto flowWholeSpec)

/-- 'waystonelaw11.FlowCut', WHERE WHAT IT READS IS OF BULK AT MOST 1048576: true; the input reads as it did. -/
def flowCutUptoRow : OpenClaim := { program := "ytpboabpapgimoaagreat", sum := "f2dc66fb091bf7ba33a826084d5a83cb495e08382af46e83c1afe0710e072fa5", func := "waystone/waystonelaw11.FlowCut", spec := "flowCut", unfollowed := true, recurses := true, plainKeys := false, apart := false, narrowed := true }
def FlowCutUptoSaid : Prop := flowCutUptoRow.holds Tryz.pinned (OpenSpec.upto flowCutSpec)

/-- 'waystonelaw11.FlowDiffers', WHERE WHAT IT READS IS OF BULK AT MOST 1048576: true; the input reads as it did. -/
def flowDiffersUptoRow : OpenClaim := { program := "ytpboabpapgimoaagreat", sum := "f2dc66fb091bf7ba33a826084d5a83cb495e08382af46e83c1afe0710e072fa5", func := "waystone/waystonelaw11.FlowDiffers", spec := "flowDiffers", unfollowed := true, recurses := true, plainKeys := false, apart := false, narrowed := true }
def FlowDiffersUptoSaid : Prop := flowDiffersUptoRow.holds Tryz.pinned (OpenSpec.upto flowDiffersSpec)

/-- 'waystonelaw11.FlowFares', WHERE WHAT IT READS IS OF BULK AT MOST 1048576: true; the input reads as it did. -/
def flowFaresUptoRow : OpenClaim := { program := "ytpboabpapgimoaagreat", sum := "f2dc66fb091bf7ba33a826084d5a83cb495e08382af46e83c1afe0710e072fa5", func := "waystone/waystonelaw11.FlowFares", spec := "flowFares", unfollowed := true, recurses := true, plainKeys := false, apart := false, narrowed := true }
def FlowFaresUptoSaid : Prop := flowFaresUptoRow.holds Tryz.pinned (OpenSpec.upto flowFaresSpec)

end Rows
end Go.Proofs.YtpboabpapgimoaaGreat
