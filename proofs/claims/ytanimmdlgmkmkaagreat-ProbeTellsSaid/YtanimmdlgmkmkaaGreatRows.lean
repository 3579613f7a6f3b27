/-
  No cell of these rows narrows 'for every input' (looked for: loops, veiled, ifaces, maps, wideKeys, modest, calm, conditions, laid).
  DERIVED. THE GIVEN ROWS OF THIS SEAT. 10 by the template 'for every input the law returns true; each argument reads behind the call as it read before'; 0 by the template 'total and deterministic' (their statements: YtanimmdlgmkmkaaGreatTotals.lean).
  GIVEN WITH THE SEED: the statements are not yours to turn. If you find one false, say at which input.
  Laid BY PROGRAM, IN A SANDBOX (cutbox-rows.mjs): the forced cells as the released guide's own fill.sh prints them over the translation c871312f76e7f6f9… (all of the seat's roots in one cut). By AI agents, Wed Nov 11 2026. No macro, syntax, notation, axiom, sorry.
-/
import Derived.Test.YtanimmdlgmkmkaaGreatChecked
import GoSem.Claim
import GoSem.ClaimJoined
import GoSem.ClaimMapViews
import Derived.JoinedTies
import Derived.KernelRfl
namespace Go.Proofs.YtanimmdlgmkmkaaGreat
/- THE CELL 'sum', in the pinned program and in every row, IS THE sha256 OF THE DUMP (.gsa) THAT YtanimmdlgmkmkaaGreatProg.lean LOADS. Nothing in Lean hashes anything: it is a label: what it is worth is what the hold of that sum in a sandbox is worth. -/
noncomputable def Tryz.pinned : Pinned := { name := "ytanimmdlgmkmkaagreat", sum := "c871312f76e7f6f9b1142a348bb5da74d547888ae4cedccc481a8d1965efeb8f", checked := Tryz.checked }
namespace Rows
def none {H : Type} : Left H := { results := [], args := [] }

/-- 'waystonelaw12.QueryTells': WHATEVER THE INPUT: true; the input reads as it did. -/
def queryTellsSpec : ChangeSpec := { name := "queryTells", fn := fun _ => fun
  | [d1, d2] => { results := [.lit (.bool true)], args := [d1, d2] }
  | _ => none }
def queryTellsRow : OpenClaim := { program := "ytanimmdlgmkmkaagreat", sum := "c871312f76e7f6f9b1142a348bb5da74d547888ae4cedccc481a8d1965efeb8f", func := "waystone/waystonelaw12.QueryTells", spec := "queryTells", unfollowed := true, recurses := true, plainKeys := false, apart := false }
def QueryTellsSaid : Prop := queryTellsRow.holds Tryz.pinned (OpenSpec.ofChange queryTellsSpec)

/-- ITS FALSE NEIGHBOUR: 'it returns false'. Refute it at one input. -/
def queryTellsWrong : ChangeSpec := { name := "queryTells", fn := fun _ => fun
  | [d1, d2] => { results := [.lit (.bool false)], args := [d1, d2] }
  | _ => none }
def QueryTellsWrongFalsely : Prop := queryTellsRow.holds Tryz.pinned (OpenSpec.ofChange queryTellsWrong)

/-- 'waystonelaw10.LabelTells': WHATEVER THE INPUT: true; the input reads as it did. -/
def labelTellsSpec : ChangeSpec := { name := "labelTells", fn := fun _ => fun
  | [d1, d2] => { results := [.lit (.bool true)], args := [d1, d2] }
  | _ => none }
def labelTellsRow : OpenClaim := { program := "ytanimmdlgmkmkaagreat", sum := "c871312f76e7f6f9b1142a348bb5da74d547888ae4cedccc481a8d1965efeb8f", func := "waystone/waystonelaw10.LabelTells", spec := "labelTells", unfollowed := true, recurses := true, plainKeys := false, apart := false }
def LabelTellsSaid : Prop := labelTellsRow.holds Tryz.pinned (OpenSpec.ofChange labelTellsSpec)

/-- ITS FALSE NEIGHBOUR: 'it returns false'. Refute it at one input. -/
def labelTellsWrong : ChangeSpec := { name := "labelTells", fn := fun _ => fun
  | [d1, d2] => { results := [.lit (.bool false)], args := [d1, d2] }
  | _ => none }
def LabelTellsWrongFalsely : Prop := labelTellsRow.holds Tryz.pinned (OpenSpec.ofChange labelTellsWrong)

/-- 'waystonelaw13.ProbeTells': WHATEVER THE INPUT: true; the input reads as it did. -/
def probeTellsSpec : ChangeSpec := { name := "probeTells", fn := fun _ => fun
  | [d1, d2, d3] => { results := [.lit (.bool true)], args := [d1, d2, d3] }
  | _ => none }
def probeTellsRow : OpenClaim := { program := "ytanimmdlgmkmkaagreat", sum := "c871312f76e7f6f9b1142a348bb5da74d547888ae4cedccc481a8d1965efeb8f", func := "waystone/waystonelaw13.ProbeTells", spec := "probeTells", unfollowed := true, recurses := true, plainKeys := false, apart := false }
def ProbeTellsSaid : Prop := probeTellsRow.holds Tryz.pinned (OpenSpec.ofChange probeTellsSpec)

/-- ITS FALSE NEIGHBOUR: 'it returns false'. Refute it at one input. -/
def probeTellsWrong : ChangeSpec := { name := "probeTells", fn := fun _ => fun
  | [d1, d2, d3] => { results := [.lit (.bool false)], args := [d1, d2, d3] }
  | _ => none }
def ProbeTellsWrongFalsely : Prop := probeTellsRow.holds Tryz.pinned (OpenSpec.ofChange probeTellsWrong)

/-- 'waystonelaw10.LabelEdits': WHATEVER THE INPUT: true; the input reads as it did. -/
def labelEditsSpec : ChangeSpec := { name := "labelEdits", fn := fun _ => fun
  | [d1, d2] => { results := [.lit (.bool true)], args := [d1, d2] }
  | _ => none }
def labelEditsRow : OpenClaim := { program := "ytanimmdlgmkmkaagreat", sum := "c871312f76e7f6f9b1142a348bb5da74d547888ae4cedccc481a8d1965efeb8f", func := "waystone/waystonelaw10.LabelEdits", spec := "labelEdits", inPlace := ["slices.overlaps[waystone/api.Rule]"], unfollowed := true, recurses := true, plainKeys := false, apart := false }
def LabelEditsSaid : Prop := labelEditsRow.holds Tryz.pinned (OpenSpec.ofChange labelEditsSpec)

/-- ITS FALSE NEIGHBOUR: 'it returns false'. Refute it at one input. -/
def labelEditsWrong : ChangeSpec := { name := "labelEdits", fn := fun _ => fun
  | [d1, d2] => { results := [.lit (.bool false)], args := [d1, d2] }
  | _ => none }
def LabelEditsWrongFalsely : Prop := labelEditsRow.holds Tryz.pinned (OpenSpec.ofChange labelEditsWrong)

/-- 'waystonelaw10.LabelBack': WHATEVER THE INPUT: true; the input reads as it did. -/
def labelBackSpec : ChangeSpec := { name := "labelBack", fn := fun _ => fun
  | [d1, d2, d3] => { results := [.lit (.bool true)], args := [d1, d2, d3] }
  | _ => none }
def labelBackRow : OpenClaim := { program := "ytanimmdlgmkmkaagreat", sum := "c871312f76e7f6f9b1142a348bb5da74d547888ae4cedccc481a8d1965efeb8f", func := "waystone/waystonelaw10.LabelBack", spec := "labelBack", inPlace := ["slices.overlaps[waystone/api.Rule]"], unfollowed := true, recurses := true, plainKeys := false, apart := false }
def LabelBackSaid : Prop := labelBackRow.holds Tryz.pinned (OpenSpec.ofChange labelBackSpec)

/-- ITS FALSE NEIGHBOUR: 'it returns false'. Refute it at one input. -/
def labelBackWrong : ChangeSpec := { name := "labelBack", fn := fun _ => fun
  | [d1, d2, d3] => { results := [.lit (.bool false)], args := [d1, d2, d3] }
  | _ => none }
def LabelBackWrongFalsely : Prop := labelBackRow.holds Tryz.pinned (OpenSpec.ofChange labelBackWrong)

/-- 'waystonelaw11.FlowTells': WHATEVER THE INPUT: true; the input reads as it did. -/
def flowTellsSpec : ChangeSpec := { name := "flowTells", fn := fun _ => fun
  | [d1, d2, d3] => { results := [.lit (.bool true)], args := [d1, d2, d3] }
  | _ => none }
def flowTellsRow : OpenClaim := { program := "ytanimmdlgmkmkaagreat", sum := "c871312f76e7f6f9b1142a348bb5da74d547888ae4cedccc481a8d1965efeb8f", func := "waystone/waystonelaw11.FlowTells", spec := "flowTells", unfollowed := true, recurses := true, plainKeys := false, apart := false }
def FlowTellsSaid : Prop := flowTellsRow.holds Tryz.pinned (OpenSpec.ofChange flowTellsSpec)

/-- ITS FALSE NEIGHBOUR: 'it returns false'. Refute it at one input. -/
def flowTellsWrong : ChangeSpec := { name := "flowTells", fn := fun _ => fun
  | [d1, d2, d3] => { results := [.lit (.bool false)], args := [d1, d2, d3] }
  | _ => none }
def FlowTellsWrongFalsely : Prop := flowTellsRow.holds Tryz.pinned (OpenSpec.ofChange flowTellsWrong)

/-- 'waystonelaw11.FlowWhole': WHATEVER THE INPUT: true; the input reads as it did. -/
def flowWholeSpec : ChangeSpec := { name := "flowWhole", fn := fun _ => fun
  | [d1, d2, d3] => { results := [.lit (.bool true)], args := [d1, d2, d3] }
  | _ => none }
def flowWholeRow : OpenClaim := { program := "ytanimmdlgmkmkaagreat", sum := "c871312f76e7f6f9b1142a348bb5da74d547888ae4cedccc481a8d1965efeb8f", func := "waystone/waystonelaw11.FlowWhole", spec := "flowWhole", unfollowed := true, recurses := true, plainKeys := false, apart := false }
def FlowWholeSaid : Prop := flowWholeRow.holds Tryz.pinned (OpenSpec.ofChange flowWholeSpec)

/-- ITS FALSE NEIGHBOUR: 'it returns false'. Refute it at one input. -/
def flowWholeWrong : ChangeSpec := { name := "flowWhole", fn := fun _ => fun
  | [d1, d2, d3] => { results := [.lit (.bool false)], args := [d1, d2, d3] }
  | _ => none }
def FlowWholeWrongFalsely : Prop := flowWholeRow.holds Tryz.pinned (OpenSpec.ofChange flowWholeWrong)

/-- 'waystonelaw11.FlowCut': WHATEVER THE INPUT: true; the input reads as it did. -/
def flowCutSpec : ChangeSpec := { name := "flowCut", fn := fun _ => fun
  | [d1, d2, d3] => { results := [.lit (.bool true)], args := [d1, d2, d3] }
  | _ => none }
def flowCutRow : OpenClaim := { program := "ytanimmdlgmkmkaagreat", sum := "c871312f76e7f6f9b1142a348bb5da74d547888ae4cedccc481a8d1965efeb8f", func := "waystone/waystonelaw11.FlowCut", spec := "flowCut", unfollowed := true, recurses := true, plainKeys := false, apart := false }
def FlowCutSaid : Prop := flowCutRow.holds Tryz.pinned (OpenSpec.ofChange flowCutSpec)

/-- ITS FALSE NEIGHBOUR: 'it returns false'. Refute it at one input. -/
def flowCutWrong : ChangeSpec := { name := "flowCut", fn := fun _ => fun
  | [d1, d2, d3] => { results := [.lit (.bool false)], args := [d1, d2, d3] }
  | _ => none }
def FlowCutWrongFalsely : Prop := flowCutRow.holds Tryz.pinned (OpenSpec.ofChange flowCutWrong)

/-- 'waystonelaw11.FlowDiffers': WHATEVER THE INPUT: true; the input reads as it did. -/
def flowDiffersSpec : ChangeSpec := { name := "flowDiffers", fn := fun _ => fun
  | [d1, d2, d3] => { results := [.lit (.bool true)], args := [d1, d2, d3] }
  | _ => none }
def flowDiffersRow : OpenClaim := { program := "ytanimmdlgmkmkaagreat", sum := "c871312f76e7f6f9b1142a348bb5da74d547888ae4cedccc481a8d1965efeb8f", func := "waystone/waystonelaw11.FlowDiffers", spec := "flowDiffers", unfollowed := true, recurses := true, plainKeys := false, apart := false }
def FlowDiffersSaid : Prop := flowDiffersRow.holds Tryz.pinned (OpenSpec.ofChange flowDiffersSpec)

/-- ITS FALSE NEIGHBOUR: 'it returns false'. Refute it at one input. -/
def flowDiffersWrong : ChangeSpec := { name := "flowDiffers", fn := fun _ => fun
  | [d1, d2, d3] => { results := [.lit (.bool false)], args := [d1, d2, d3] }
  | _ => none }
def FlowDiffersWrongFalsely : Prop := flowDiffersRow.holds Tryz.pinned (OpenSpec.ofChange flowDiffersWrong)

/-- 'waystonelaw11.FlowFares': WHATEVER THE INPUT: true; the input reads as it did. -/
def flowFaresSpec : ChangeSpec := { name := "flowFares", fn := fun _ => fun
  | [d1, d2, d3] => { results := [.lit (.bool true)], args := [d1, d2, d3] }
  | _ => none }
def flowFaresRow : OpenClaim := { program := "ytanimmdlgmkmkaagreat", sum := "c871312f76e7f6f9b1142a348bb5da74d547888ae4cedccc481a8d1965efeb8f", func := "waystone/waystonelaw11.FlowFares", spec := "flowFares", unfollowed := true, recurses := true, plainKeys := false, apart := false }
def FlowFaresSaid : Prop := flowFaresRow.holds Tryz.pinned (OpenSpec.ofChange flowFaresSpec)

/-- ITS FALSE NEIGHBOUR: 'it returns false'. Refute it at one input. -/
def flowFaresWrong : ChangeSpec := { name := "flowFares", fn := fun _ => fun
  | [d1, d2, d3] => { results := [.lit (.bool false)], args := [d1, d2, d3] }
  | _ => none }
def FlowFaresWrongFalsely : Prop := flowFaresRow.holds Tryz.pinned (OpenSpec.ofChange flowFaresWrong)

/- THE SECOND FORM. 'bulk': how many values and letters a reading holds, each counted each time it is reached (what is shared counts as often as it is met; a slice's spare places count too). A statement '..UptoSaid' is the law's where the arguments, and the package variables that the reading takes, are together of bulk at most 1048576: NARROWER than '..Said'. Prove '..Said' where nothing that the law and all that it calls make is longer than what came in: it says more and counts as full. Else prove '..UptoSaid'. A law counts once. -/
mutual
def uptoBulk {H : Type} : DataW H → Nat
  | .lit (.string bytes) => bytes.length + 1
  | .lit _ => 1
  | .nil => 1
  | .ptr d => uptoBulk d + 1
  | .slice elems spare => uptoBulkAll elems + uptoBulkAll spare + 1
  | .agg parts => uptoBulkAll parts + 1
  | .iface _ d => uptoBulk d + 1
  | .map entries => uptoBulkEntries entries + 1
  | .held _ => 1
def uptoBulkAll {H : Type} : List (DataW H) → Nat
  | [] => 0
  | d :: r => uptoBulk d + uptoBulkAll r
def uptoBulkEntries {H : Type} : List (Lit × DataW H) → Nat
  | [] => 0
  | x :: r => uptoBulkEntry x + uptoBulkEntries r
def uptoBulkEntry {H : Type} : Lit × DataW H → Nat
  | (.string bytes, d) => bytes.length + uptoBulk d + 1
  | (_, d) => uptoBulk d + 1
 end
def uptoSmall : (H : Type) → List (DataW H) → Bool := fun _ ds => decide (uptoBulkAll ds ≤ 1048576)
def OpenSpec.upto (s : _root_.Go.ChangeSpec) : _root_.Go.OpenSpec := { _root_.Go.OpenSpec.ofChange s with cond := some uptoSmall }

/-- 'waystonelaw12.QueryTells', WHERE WHAT IT READS IS OF BULK AT MOST 1048576: true; the input reads as it did. -/
def queryTellsUptoRow : OpenClaim := { program := "ytanimmdlgmkmkaagreat", sum := "c871312f76e7f6f9b1142a348bb5da74d547888ae4cedccc481a8d1965efeb8f", func := "waystone/waystonelaw12.QueryTells", spec := "queryTells", unfollowed := true, recurses := true, plainKeys := false, apart := false, narrowed := true }
def QueryTellsUptoSaid : Prop := queryTellsUptoRow.holds Tryz.pinned (OpenSpec.upto queryTellsSpec)

/-- 'waystonelaw10.LabelTells', WHERE WHAT IT READS IS OF BULK AT MOST 1048576: true; the input reads as it did. -/
def labelTellsUptoRow : OpenClaim := { program := "ytanimmdlgmkmkaagreat", sum := "c871312f76e7f6f9b1142a348bb5da74d547888ae4cedccc481a8d1965efeb8f", func := "waystone/waystonelaw10.LabelTells", spec := "labelTells", unfollowed := true, recurses := true, plainKeys := false, apart := false, narrowed := true }
def LabelTellsUptoSaid : Prop := labelTellsUptoRow.holds Tryz.pinned (OpenSpec.upto labelTellsSpec)

/-- 'waystonelaw13.ProbeTells', WHERE WHAT IT READS IS OF BULK AT MOST 1048576: true; the input reads as it did. -/
def probeTellsUptoRow : OpenClaim := { program := "ytanimmdlgmkmkaagreat", sum := "c871312f76e7f6f9b1142a348bb5da74d547888ae4cedccc481a8d1965efeb8f", func := "waystone/waystonelaw13.ProbeTells", spec := "probeTells", unfollowed := true, recurses := true, plainKeys := false, apart := false, narrowed := true }
def ProbeTellsUptoSaid : Prop := probeTellsUptoRow.holds Tryz.pinned (OpenSpec.upto probeTellsSpec)

/-- 'waystonelaw10.LabelEdits', WHERE WHAT IT READS IS OF BULK AT MOST 1048576: true; the input reads as it did. -/
def labelEditsUptoRow : OpenClaim := { program := "ytanimmdlgmkmkaagreat", sum := "c871312f76e7f6f9b1142a348bb5da74d547888ae4cedccc481a8d1965efeb8f", func := "waystone/waystonelaw10.LabelEdits", spec := "labelEdits", inPlace := ["slices.overlaps[waystone/api.Rule]"], unfollowed := true, recurses := true, plainKeys := false, apart := false, narrowed := true }
def LabelEditsUptoSaid : Prop := labelEditsUptoRow.holds Tryz.pinned (OpenSpec.upto labelEditsSpec)

/-- 'waystonelaw10.LabelBack', WHERE WHAT IT READS IS OF BULK AT MOST 1048576: true; the input reads as it did. -/
def labelBackUptoRow : OpenClaim := { program := "ytanimmdlgmkmkaagreat", sum := "c871312f76e7f6f9b1142a348bb5da74d547888ae4cedccc481a8d1965efeb8f", func := "waystone/waystonelaw10.LabelBack", spec := "labelBack", inPlace := ["slices.overlaps[waystone/api.Rule]"], unfollowed := true, recurses := true, plainKeys := false, apart := false, narrowed := true }
def LabelBackUptoSaid : Prop := labelBackUptoRow.holds Tryz.pinned (OpenSpec.upto labelBackSpec)

/-- 'waystonelaw11.FlowTells', WHERE WHAT IT READS IS OF BULK AT MOST 1048576: true; the input reads as it did. -/
def flowTellsUptoRow : OpenClaim := { program := "ytanimmdlgmkmkaagreat", sum := "c871312f76e7f6f9b1142a348bb5da74d547888ae4cedccc481a8d1965efeb8f", func := "waystone/waystonelaw11.FlowTells", spec := "flowTells", unfollowed := true, recurses := true, plainKeys := false, apart := false, narrowed := true }
def FlowTellsUptoSaid : Prop := flowTellsUptoRow.holds Tryz.pinned (OpenSpec.upto flowTellsSpec)

/-- 'waystonelaw11.FlowWhole', WHERE WHAT IT READS IS OF BULK AT MOST 1048576: true; the input reads as it did. -/
def flowWholeUptoRow : OpenClaim := { program := "ytanimmdlgmkmkaagreat", sum := "c871312f76e7f6f9b1142a348bb5da74d547888ae4cedccc481a8d1965efeb8f", func := "waystone/waystonelaw11.FlowWhole", spec := "flowWhole", unfollowed := true, recurses := true, plainKeys := false, apart := false, narrowed := true }
def FlowWholeUptoSaid : Prop := flowWholeUptoRow.holds Tryz.pinned (OpenSpec.upto flowWholeSpec)

/-- 'waystonelaw11.FlowCut', WHERE WHAT IT READS IS OF BULK AT MOST 1048576: true; the input reads as it did. -/
def flowCutUptoRow : OpenClaim := { program := "ytanimmdlgmkmkaagreat", sum := "c871312f76e7f6f9b1142a348bb5da74d547888ae4cedccc481a8d1965efeb8f", func := "waystone/waystonelaw11.FlowCut", spec := "flowCut", unfollowed := true, recurses := true, plainKeys := false, apart := false, narrowed := true }
def FlowCutUptoSaid : Prop := flowCutUptoRow.holds Tryz.pinned (OpenSpec.upto flowCutSpec)

/-- 'waystonelaw11.FlowDiffers', WHERE WHAT IT READS IS OF BULK AT MOST 1048576: true; the input reads as it did. -/
def flowDiffersUptoRow : OpenClaim := { program := "ytanimmdlgmkmkaagreat", sum := "c871312f76e7f6f9b1142a348bb5da74d547888ae4cedccc481a8d1965efeb8f", func := "waystone/waystonelaw11.FlowDiffers", spec := "flowDiffers", unfollowed := true, recurses := true, plainKeys := false, apart := false, narrowed := true }
def FlowDiffersUptoSaid : Prop := flowDiffersUptoRow.holds Tryz.pinned (OpenSpec.upto flowDiffersSpec)

/-- 'waystonelaw11.FlowFares', WHERE WHAT IT READS IS OF BULK AT MOST 1048576: true; the input reads as it did. -/
def flowFaresUptoRow : OpenClaim := { program := "ytanimmdlgmkmkaagreat", sum := "c871312f76e7f6f9b1142a348bb5da74d547888ae4cedccc481a8d1965efeb8f", func := "waystone/waystonelaw11.FlowFares", spec := "flowFares", unfollowed := true, recurses := true, plainKeys := false, apart := false, narrowed := true }
def FlowFaresUptoSaid : Prop := flowFaresUptoRow.holds Tryz.pinned (OpenSpec.upto flowFaresSpec)

end Rows
end Go.Proofs.YtanimmdlgmkmkaaGreat
