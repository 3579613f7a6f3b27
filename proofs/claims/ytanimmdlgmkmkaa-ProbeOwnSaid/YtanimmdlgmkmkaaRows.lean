/-
  No cell of these rows narrows 'for every input' (looked for: loops, veiled, ifaces, maps, wideKeys, modest, calm, conditions, laid).
  DERIVED. THE GIVEN ROWS OF THIS SEAT. 8 by the template 'for every input the law returns true; each argument reads behind the call as it read before'; 0 by the template 'total and deterministic' (their statements: YtanimmdlgmkmkaaTotals.lean).
  GIVEN WITH THE SEED: the statements are not yours to turn. If you find one false, say at which input.
  Laid BY PROGRAM, IN A SANDBOX (cutbox-rows.mjs): the forced cells as the released guide's own fill.sh prints them over the translation 78963708be829bba… (all of the seat's roots in one cut). By AI agents, Wed Nov 11 2026. No macro, syntax, notation, axiom, sorry.
-/
import Derived.Test.YtanimmdlgmkmkaaChecked
import GoSem.Claim
import GoSem.ClaimJoined
import GoSem.ClaimMapViews
import Derived.JoinedTies
import Derived.KernelRfl
namespace Go.Proofs.Ytanimmdlgmkmkaa
/- THE CELL 'sum', in the pinned program and in every row, IS THE sha256 OF THE DUMP (.gsa) THAT YtanimmdlgmkmkaaProg.lean LOADS. Nothing in Lean hashes anything: it is a label: what it is worth is what the hold of that sum in a sandbox is worth. -/
noncomputable def Try.pinned : Pinned := { name := "ytanimmdlgmkmkaa", sum := "78963708be829bbae1afa2db12c5dd202b4987dad4745fd75f7f14ca12012f1b", checked := Try.checked }
namespace Rows
def none {H : Type} : Left H := { results := [], args := [] }

/-- 'waystonelaw12.QuerySelf': WHATEVER THE INPUT: true; the input reads as it did. -/
def querySelfSpec : ChangeSpec := { name := "querySelf", fn := fun _ => fun
  | [d1, d2, d3] => { results := [.lit (.bool true)], args := [d1, d2, d3] }
  | _ => none }
def querySelfRow : OpenClaim := { program := "ytanimmdlgmkmkaa", sum := "78963708be829bbae1afa2db12c5dd202b4987dad4745fd75f7f14ca12012f1b", func := "waystone/waystonelaw12.QuerySelf", spec := "querySelf", unfollowed := true, recurses := true, plainKeys := false, apart := false }
def QuerySelfSaid : Prop := querySelfRow.holds Try.pinned (OpenSpec.ofChange querySelfSpec)

/-- ITS FALSE NEIGHBOUR: 'it returns false'. Refute it at one input. -/
def querySelfWrong : ChangeSpec := { name := "querySelf", fn := fun _ => fun
  | [d1, d2, d3] => { results := [.lit (.bool false)], args := [d1, d2, d3] }
  | _ => none }
def QuerySelfWrongFalsely : Prop := querySelfRow.holds Try.pinned (OpenSpec.ofChange querySelfWrong)

/-- 'waystonelaw12.QueryPart': WHATEVER THE INPUT: true; the input reads as it did. -/
def queryPartSpec : ChangeSpec := { name := "queryPart", fn := fun _ => fun
  | [d1, d2, d3] => { results := [.lit (.bool true)], args := [d1, d2, d3] }
  | _ => none }
def queryPartRow : OpenClaim := { program := "ytanimmdlgmkmkaa", sum := "78963708be829bbae1afa2db12c5dd202b4987dad4745fd75f7f14ca12012f1b", func := "waystone/waystonelaw12.QueryPart", spec := "queryPart", unfollowed := true, recurses := true, plainKeys := false, apart := false }
def QueryPartSaid : Prop := queryPartRow.holds Try.pinned (OpenSpec.ofChange queryPartSpec)

/-- ITS FALSE NEIGHBOUR: 'it returns false'. Refute it at one input. -/
def queryPartWrong : ChangeSpec := { name := "queryPart", fn := fun _ => fun
  | [d1, d2, d3] => { results := [.lit (.bool false)], args := [d1, d2, d3] }
  | _ => none }
def QueryPartWrongFalsely : Prop := queryPartRow.holds Try.pinned (OpenSpec.ofChange queryPartWrong)

/-- 'waystonelaw12.QueryBroken': WHATEVER THE INPUT: true; the input reads as it did. -/
def queryBrokenSpec : ChangeSpec := { name := "queryBroken", fn := fun _ => fun
  | [d1, d2, d3] => { results := [.lit (.bool true)], args := [d1, d2, d3] }
  | _ => none }
def queryBrokenRow : OpenClaim := { program := "ytanimmdlgmkmkaa", sum := "78963708be829bbae1afa2db12c5dd202b4987dad4745fd75f7f14ca12012f1b", func := "waystone/waystonelaw12.QueryBroken", spec := "queryBroken", unfollowed := true, recurses := true, plainKeys := false, apart := false }
def QueryBrokenSaid : Prop := queryBrokenRow.holds Try.pinned (OpenSpec.ofChange queryBrokenSpec)

/-- ITS FALSE NEIGHBOUR: 'it returns false'. Refute it at one input. -/
def queryBrokenWrong : ChangeSpec := { name := "queryBroken", fn := fun _ => fun
  | [d1, d2, d3] => { results := [.lit (.bool false)], args := [d1, d2, d3] }
  | _ => none }
def QueryBrokenWrongFalsely : Prop := queryBrokenRow.holds Try.pinned (OpenSpec.ofChange queryBrokenWrong)

/-- 'waystonelaw10.LabelFares': WHATEVER THE INPUT: true; the input reads as it did. -/
def labelFaresSpec : ChangeSpec := { name := "labelFares", fn := fun _ => fun
  | [d1, d2, d3] => { results := [.lit (.bool true)], args := [d1, d2, d3] }
  | _ => none }
def labelFaresRow : OpenClaim := { program := "ytanimmdlgmkmkaa", sum := "78963708be829bbae1afa2db12c5dd202b4987dad4745fd75f7f14ca12012f1b", func := "waystone/waystonelaw10.LabelFares", spec := "labelFares", unfollowed := true, recurses := true, plainKeys := false, apart := false }
def LabelFaresSaid : Prop := labelFaresRow.holds Try.pinned (OpenSpec.ofChange labelFaresSpec)

/-- ITS FALSE NEIGHBOUR: 'it returns false'. Refute it at one input. -/
def labelFaresWrong : ChangeSpec := { name := "labelFares", fn := fun _ => fun
  | [d1, d2, d3] => { results := [.lit (.bool false)], args := [d1, d2, d3] }
  | _ => none }
def LabelFaresWrongFalsely : Prop := labelFaresRow.holds Try.pinned (OpenSpec.ofChange labelFaresWrong)

/-- 'waystonelaw13.ProbeNil': WHATEVER THE INPUT: true; the input reads as it did. -/
def probeNilSpec : ChangeSpec := { name := "probeNil", fn := fun _ => fun
  | [d] => { results := [.lit (.bool true)], args := [d] }
  | _ => none }
def probeNilRow : OpenClaim := { program := "ytanimmdlgmkmkaa", sum := "78963708be829bbae1afa2db12c5dd202b4987dad4745fd75f7f14ca12012f1b", func := "waystone/waystonelaw13.ProbeNil", spec := "probeNil", unfollowed := true, recurses := true, plainKeys := false, apart := false }
def ProbeNilSaid : Prop := probeNilRow.holds Try.pinned (OpenSpec.ofChange probeNilSpec)

/-- ITS FALSE NEIGHBOUR: 'it returns false'. Refute it at one input. -/
def probeNilWrong : ChangeSpec := { name := "probeNil", fn := fun _ => fun
  | [d] => { results := [.lit (.bool false)], args := [d] }
  | _ => none }
def ProbeNilWrongFalsely : Prop := probeNilRow.holds Try.pinned (OpenSpec.ofChange probeNilWrong)

/-- 'waystonelaw13.ProbeOwn': WHATEVER THE INPUT: true; the input reads as it did. -/
def probeOwnSpec : ChangeSpec := { name := "probeOwn", fn := fun _ => fun
  | [d1, d2, d3] => { results := [.lit (.bool true)], args := [d1, d2, d3] }
  | _ => none }
def probeOwnRow : OpenClaim := { program := "ytanimmdlgmkmkaa", sum := "78963708be829bbae1afa2db12c5dd202b4987dad4745fd75f7f14ca12012f1b", func := "waystone/waystonelaw13.ProbeOwn", spec := "probeOwn", unfollowed := true, recurses := true, plainKeys := false, apart := false }
def ProbeOwnSaid : Prop := probeOwnRow.holds Try.pinned (OpenSpec.ofChange probeOwnSpec)

/-- ITS FALSE NEIGHBOUR: 'it returns false'. Refute it at one input. -/
def probeOwnWrong : ChangeSpec := { name := "probeOwn", fn := fun _ => fun
  | [d1, d2, d3] => { results := [.lit (.bool false)], args := [d1, d2, d3] }
  | _ => none }
def ProbeOwnWrongFalsely : Prop := probeOwnRow.holds Try.pinned (OpenSpec.ofChange probeOwnWrong)

/-- 'waystonelaw13.ProbeCut': WHATEVER THE INPUT: true; the input reads as it did. -/
def probeCutSpec : ChangeSpec := { name := "probeCut", fn := fun _ => fun
  | [d1, d2, d3] => { results := [.lit (.bool true)], args := [d1, d2, d3] }
  | _ => none }
def probeCutRow : OpenClaim := { program := "ytanimmdlgmkmkaa", sum := "78963708be829bbae1afa2db12c5dd202b4987dad4745fd75f7f14ca12012f1b", func := "waystone/waystonelaw13.ProbeCut", spec := "probeCut", unfollowed := true, recurses := true, plainKeys := false, apart := false }
def ProbeCutSaid : Prop := probeCutRow.holds Try.pinned (OpenSpec.ofChange probeCutSpec)

/-- ITS FALSE NEIGHBOUR: 'it returns false'. Refute it at one input. -/
def probeCutWrong : ChangeSpec := { name := "probeCut", fn := fun _ => fun
  | [d1, d2, d3] => { results := [.lit (.bool false)], args := [d1, d2, d3] }
  | _ => none }
def ProbeCutWrongFalsely : Prop := probeCutRow.holds Try.pinned (OpenSpec.ofChange probeCutWrong)

/-- 'waystonelaw10.LabelNil': WHATEVER THE INPUT: true; the input reads as it did. -/
def labelNilSpec : ChangeSpec := { name := "labelNil", fn := fun _ => fun
  | [d] => { results := [.lit (.bool true)], args := [d] }
  | _ => none }
def labelNilRow : OpenClaim := { program := "ytanimmdlgmkmkaa", sum := "78963708be829bbae1afa2db12c5dd202b4987dad4745fd75f7f14ca12012f1b", func := "waystone/waystonelaw10.LabelNil", spec := "labelNil", inPlace := ["slices.overlaps[waystone/api.Rule]"], unfollowed := true, recurses := true, plainKeys := false, apart := false }
def LabelNilSaid : Prop := labelNilRow.holds Try.pinned (OpenSpec.ofChange labelNilSpec)

/-- ITS FALSE NEIGHBOUR: 'it returns false'. Refute it at one input. -/
def labelNilWrong : ChangeSpec := { name := "labelNil", fn := fun _ => fun
  | [d] => { results := [.lit (.bool false)], args := [d] }
  | _ => none }
def LabelNilWrongFalsely : Prop := labelNilRow.holds Try.pinned (OpenSpec.ofChange labelNilWrong)

/- THE SECOND FORM. 'bulk': how many values and letters a reading holds, each counted each time it is reached (what is shared counts as often as it is met; a slice's spare places count too). A statement '..UptoSaid' is the law's where the arguments, and the package variables that the reading takes, are together of bulk at most 1048576: NARROWER than '..Said'. Prove '..Said' where nothing that the law and all that it calls make is longer than what came in: it says more and counts as full. Else prove '..UptoSaid'. A law counts once. -/
mutual
def uptoBulk {H : Type} : DataW H → Nat
  | .lit (.string bytes) => bytes.length + 1
  | .lit _ => 1
  | .nil => 1
  | .ptr d => uptoBulk d + 1
  | .slice elems spare => uptoBulkAll elems + uptoBulkAll spare + 1
  | .agg parts => uptoBulkAll parts + 1
  | .iface _ d => uptoBulk d + 1
  | .map entries => uptoBulkEntries entries + 1
  | .held _ => 1
def uptoBulkAll {H : Type} : List (DataW H) → Nat
  | [] => 0
  | d :: r => uptoBulk d + uptoBulkAll r
def uptoBulkEntries {H : Type} : List (Lit × DataW H) → Nat
  | [] => 0
  | x :: r => uptoBulkEntry x + uptoBulkEntries r
def uptoBulkEntry {H : Type} : Lit × DataW H → Nat
  | (.string bytes, d) => bytes.length + uptoBulk d + 1
  | (_, d) => uptoBulk d + 1
 end
def uptoSmall : (H : Type) → List (DataW H) → Bool := fun _ ds => decide (uptoBulkAll ds ≤ 1048576)
def OpenSpec.upto (s : _root_.Go.ChangeSpec) : _root_.Go.OpenSpec := { _root_.Go.OpenSpec.ofChange s with cond := some uptoSmall }

/-- 'waystonelaw12.QuerySelf', WHERE WHAT IT READS IS OF BULK AT MOST 1048576: true; the input reads as it did. -/
def querySelfUptoRow : OpenClaim := { program := "ytanimmdlgmkmkaa", sum := "78963708be829bbae1afa2db12c5dd202b4987dad4745fd75f7f14ca12012f1b", func := "waystone/waystonelaw12.QuerySelf", spec := "querySelf", unfollowed := true, recurses := true, plainKeys := false, apart := false, narrowed := true }
def QuerySelfUptoSaid : Prop := querySelfUptoRow.holds Try.pinned (OpenSpec.upto querySelfSpec)

/-- 'waystonelaw12.QueryPart', WHERE WHAT IT READS IS OF BULK AT MOST 1048576: true; the input reads as it did. -/
def queryPartUptoRow : OpenClaim := { program := "ytanimmdlgmkmkaa", sum := "78963708be829bbae1afa2db12c5dd202b4987dad4745fd75f7f14ca12012f1b", func := "waystone/waystonelaw12.QueryPart", spec := "queryPart", unfollowed := true, recurses := true, plainKeys := false, apart := false, narrowed := true }
def QueryPartUptoSaid : Prop := queryPartUptoRow.holds Try.pinned (OpenSpec.upto queryPartSpec)

/-- 'waystonelaw12.QueryBroken', WHERE WHAT IT READS IS OF BULK AT MOST 1048576: true; the input reads as it did. -/
def queryBrokenUptoRow : OpenClaim := { program := "ytanimmdlgmkmkaa", sum := "78963708be829bbae1afa2db12c5dd202b4987dad4745fd75f7f14ca12012f1b", func := "waystone/waystonelaw12.QueryBroken", spec := "queryBroken", unfollowed := true, recurses := true, plainKeys := false, apart := false, narrowed := true }
def QueryBrokenUptoSaid : Prop := queryBrokenUptoRow.holds Try.pinned (OpenSpec.upto queryBrokenSpec)

/-- 'waystonelaw10.LabelFares', WHERE WHAT IT READS IS OF BULK AT MOST 1048576: true; the input reads as it did. -/
def labelFaresUptoRow : OpenClaim := { program := "ytanimmdlgmkmkaa", sum := "78963708be829bbae1afa2db12c5dd202b4987dad4745fd75f7f14ca12012f1b", func := "waystone/waystonelaw10.LabelFares", spec := "labelFares", unfollowed := true, recurses := true, plainKeys := false, apart := false, narrowed := true }
def LabelFaresUptoSaid : Prop := labelFaresUptoRow.holds Try.pinned (OpenSpec.upto labelFaresSpec)

/-- 'waystonelaw13.ProbeNil', WHERE WHAT IT READS IS OF BULK AT MOST 1048576: true; the input reads as it did. -/
def probeNilUptoRow : OpenClaim := { program := "ytanimmdlgmkmkaa", sum := "78963708be829bbae1afa2db12c5dd202b4987dad4745fd75f7f14ca12012f1b", func := "waystone/waystonelaw13.ProbeNil", spec := "probeNil", unfollowed := true, recurses := true, plainKeys := false, apart := false, narrowed := true }
def ProbeNilUptoSaid : Prop := probeNilUptoRow.holds Try.pinned (OpenSpec.upto probeNilSpec)

/-- 'waystonelaw13.ProbeOwn', WHERE WHAT IT READS IS OF BULK AT MOST 1048576: true; the input reads as it did. -/
def probeOwnUptoRow : OpenClaim := { program := "ytanimmdlgmkmkaa", sum := "78963708be829bbae1afa2db12c5dd202b4987dad4745fd75f7f14ca12012f1b", func := "waystone/waystonelaw13.ProbeOwn", spec := "probeOwn", unfollowed := true, recurses := true, plainKeys := false, apart := false, narrowed := true }
def ProbeOwnUptoSaid : Prop := probeOwnUptoRow.holds Try.pinned (OpenSpec.upto probeOwnSpec)

/-- 'waystonelaw13.ProbeCut', WHERE WHAT IT READS IS OF BULK AT MOST 1048576: true; the input reads as it did. -/
def probeCutUptoRow : OpenClaim := { program := "ytanimmdlgmkmkaa", sum := "78963708be829bbae1afa2db12c5dd202b4987dad4745fd75f7f14ca12012f1b", func := "waystone/waystonelaw13.ProbeCut", spec := "probeCut", unfollowed := true, recurses := true, plainKeys := false, apart := false, narrowed := true }
def ProbeCutUptoSaid : Prop := probeCutUptoRow.holds Try.pinned (OpenSpec.upto probeCutSpec)

/-- 'waystonelaw10.LabelNil', WHERE WHAT IT READS IS OF BULK AT MOST 1048576: true; the input reads as it did. -/
def labelNilUptoRow : OpenClaim := { program := "ytanimmdlgmkmkaa", sum := "78963708be829bbae1afa2db12c5dd202b4987dad4745fd75f7f14ca12012f1b", func := "waystone/waystonelaw10.LabelNil", spec := "labelNil", inPlace := ["slices.overlaps[waystone/api.Rule]"], unfollowed := true, recurses := true, plainKeys := false, apart := false, narrowed := true }
def LabelNilUptoSaid : Prop := labelNilUptoRow.holds Try.pinned (OpenSpec.upto labelNilSpec)

end Rows
end Go.Proofs.Ytanimmdlgmkmkaa
