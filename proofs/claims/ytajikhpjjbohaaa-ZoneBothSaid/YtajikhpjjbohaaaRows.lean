/-
  No cell of these rows narrows 'for every input' (looked for: loops, veiled, ifaces, maps, wideKeys, modest, calm, conditions, laid).
  DERIVED. THE GIVEN ROWS OF THIS SEAT. 5 by the template 'for every input the law returns true; each argument reads behind the call as it read before'; 0 by the template 'total and deterministic' (their statements: YtajikhpjjbohaaaTotals.lean).
  GIVEN WITH THE SEED: the statements are not yours to turn. If you find one false, say at which input.
  Laid BY PROGRAM, IN A SANDBOX (cutbox-rows.mjs): the forced cells as the released guide's own fill.sh prints them over the translation 5cfa22d0933889d7… (all of the seat's roots in one cut). By AI agents, Wed Nov 11 2026. No macro, syntax, notation, axiom, sorry.
-/
import Derived.Test.YtajikhpjjbohaaaChecked
import GoSem.Claim
import GoSem.ClaimJoined
import GoSem.ClaimMapViews
import Derived.JoinedTies
import Derived.KernelRfl
namespace Go.Proofs.Ytajikhpjjbohaaa
/- THE CELL 'sum', in the pinned program and in every row, IS THE sha256 OF THE DUMP (.gsa) THAT YtajikhpjjbohaaaProg.lean LOADS. Nothing in Lean hashes anything: it is a label: what it is worth is what the hold of that sum in a sandbox is worth. -/
noncomputable def Try.pinned : Pinned := { name := "ytajikhpjjbohaaa", sum := "5cfa22d0933889d725fddf4be56a570e4632ec63e433ffe4e187e279a606b800", checked := Try.checked }
namespace Rows
def none {H : Type} : Left H := { results := [], args := [] }

/-- 'waystonelaw03.ZoneOf': WHATEVER THE INPUT: true; the input reads as it did. -/
def zoneOfSpec : ChangeSpec := { name := "zoneOf", fn := fun _ => fun
  | [d] => { results := [.lit (.bool true)], args := [d] }
  | _ => none }
def zoneOfRow : OpenClaim := { program := "ytajikhpjjbohaaa", sum := "5cfa22d0933889d725fddf4be56a570e4632ec63e433ffe4e187e279a606b800", func := "waystone/waystonelaw03.ZoneOf", spec := "zoneOf", unfollowed := true, recurses := true, apart := false }
def ZoneOfSaid : Prop := zoneOfRow.holds Try.pinned (OpenSpec.ofChange zoneOfSpec)

/-- ITS FALSE NEIGHBOUR: 'it returns false'. Refute it at one input. -/
def zoneOfWrong : ChangeSpec := { name := "zoneOf", fn := fun _ => fun
  | [d] => { results := [.lit (.bool false)], args := [d] }
  | _ => none }
def ZoneOfWrongFalsely : Prop := zoneOfRow.holds Try.pinned (OpenSpec.ofChange zoneOfWrong)

/-- 'waystonelaw03.ZoneTells': WHATEVER THE INPUT: true; the input reads as it did. -/
def zoneTellsSpec : ChangeSpec := { name := "zoneTells", fn := fun _ => fun
  | [d1, d2] => { results := [.lit (.bool true)], args := [d1, d2] }
  | _ => none }
def zoneTellsRow : OpenClaim := { program := "ytajikhpjjbohaaa", sum := "5cfa22d0933889d725fddf4be56a570e4632ec63e433ffe4e187e279a606b800", func := "waystone/waystonelaw03.ZoneTells", spec := "zoneTells", unfollowed := true, recurses := true, apart := false }
def ZoneTellsSaid : Prop := zoneTellsRow.holds Try.pinned (OpenSpec.ofChange zoneTellsSpec)

/-- ITS FALSE NEIGHBOUR: 'it returns false'. Refute it at one input. -/
def zoneTellsWrong : ChangeSpec := { name := "zoneTells", fn := fun _ => fun
  | [d1, d2] => { results := [.lit (.bool false)], args := [d1, d2] }
  | _ => none }
def ZoneTellsWrongFalsely : Prop := zoneTellsRow.holds Try.pinned (OpenSpec.ofChange zoneTellsWrong)

/-- 'waystonelaw03.ZoneBoth': WHATEVER THE INPUT: true; the input reads as it did. -/
def zoneBothSpec : ChangeSpec := { name := "zoneBoth", fn := fun _ => fun
  | [d1, d2] => { results := [.lit (.bool true)], args := [d1, d2] }
  | _ => none }
def zoneBothRow : OpenClaim := { program := "ytajikhpjjbohaaa", sum := "5cfa22d0933889d725fddf4be56a570e4632ec63e433ffe4e187e279a606b800", func := "waystone/waystonelaw03.ZoneBoth", spec := "zoneBoth", unfollowed := true, recurses := true, apart := false }
def ZoneBothSaid : Prop := zoneBothRow.holds Try.pinned (OpenSpec.ofChange zoneBothSpec)

/-- ITS FALSE NEIGHBOUR: 'it returns false'. Refute it at one input. -/
def zoneBothWrong : ChangeSpec := { name := "zoneBoth", fn := fun _ => fun
  | [d1, d2] => { results := [.lit (.bool false)], args := [d1, d2] }
  | _ => none }
def ZoneBothWrongFalsely : Prop := zoneBothRow.holds Try.pinned (OpenSpec.ofChange zoneBothWrong)

/-- 'waystonelaw03.ZoneHas': WHATEVER THE INPUT: true; the input reads as it did. -/
def zoneHasSpec : ChangeSpec := { name := "zoneHas", fn := fun _ => fun
  | [d1, d2, d3] => { results := [.lit (.bool true)], args := [d1, d2, d3] }
  | _ => none }
def zoneHasRow : OpenClaim := { program := "ytajikhpjjbohaaa", sum := "5cfa22d0933889d725fddf4be56a570e4632ec63e433ffe4e187e279a606b800", func := "waystone/waystonelaw03.ZoneHas", spec := "zoneHas", unfollowed := true, recurses := true, apart := false }
def ZoneHasSaid : Prop := zoneHasRow.holds Try.pinned (OpenSpec.ofChange zoneHasSpec)

/-- ITS FALSE NEIGHBOUR: 'it returns false'. Refute it at one input. -/
def zoneHasWrong : ChangeSpec := { name := "zoneHas", fn := fun _ => fun
  | [d1, d2, d3] => { results := [.lit (.bool false)], args := [d1, d2, d3] }
  | _ => none }
def ZoneHasWrongFalsely : Prop := zoneHasRow.holds Try.pinned (OpenSpec.ofChange zoneHasWrong)

/-- 'waystonelaw03.ZoneLaws': WHATEVER THE INPUT: true; the input reads as it did. -/
def zoneLawsSpec : ChangeSpec := { name := "zoneLaws", fn := fun _ => fun
  | [d1, d2, d3] => { results := [.lit (.bool true)], args := [d1, d2, d3] }
  | _ => none }
def zoneLawsRow : OpenClaim := { program := "ytajikhpjjbohaaa", sum := "5cfa22d0933889d725fddf4be56a570e4632ec63e433ffe4e187e279a606b800", func := "waystone/waystonelaw03.ZoneLaws", spec := "zoneLaws", unfollowed := true, recurses := true, apart := false }
def ZoneLawsSaid : Prop := zoneLawsRow.holds Try.pinned (OpenSpec.ofChange zoneLawsSpec)

/-- ITS FALSE NEIGHBOUR: 'it returns false'. Refute it at one input. -/
def zoneLawsWrong : ChangeSpec := { name := "zoneLaws", fn := fun _ => fun
  | [d1, d2, d3] => { results := [.lit (.bool false)], args := [d1, d2, d3] }
  | _ => none }
def ZoneLawsWrongFalsely : Prop := zoneLawsRow.holds Try.pinned (OpenSpec.ofChange zoneLawsWrong)

/- THE SECOND FORM. 'bulk': how many values and letters a reading holds, each counted each time it is reached (what is shared counts as often as it is met; a slice's spare places count too). A statement '..UptoSaid' is the law's where the arguments, and the package variables that the reading takes, are together of bulk at most 1048576: NARROWER than '..Said'. Prove '..Said' where nothing that the law and all that it calls make is longer than what came in: it says more and counts as full. Else prove '..UptoSaid'. A law counts once. -/
mutual
def uptoBulk {H : Type} : DataW H → Nat
  | .lit (.string bytes) => bytes.length + 1
  | .lit _ => 1
  | .nil => 1
  | .ptr d => uptoBulk d + 1
  | .slice elems spare => uptoBulkAll elems + uptoBulkAll spare + 1
  | .agg parts => uptoBulkAll parts + 1
  | .iface _ d => uptoBulk d + 1
  | .map entries => uptoBulkEntries entries + 1
  | .held _ => 1
def uptoBulkAll {H : Type} : List (DataW H) → Nat
  | [] => 0
  | d :: r => uptoBulk d + uptoBulkAll r
def uptoBulkEntries {H : Type} : List (Lit × DataW H) → Nat
  | [] => 0
  | x :: r => uptoBulkEntry x + uptoBulkEntries r
def uptoBulkEntry {H : Type} : Lit × DataW H → Nat
  | (.string bytes, d) => bytes.length + uptoBulk d + 1
  | (_, d) => uptoBulk d + 1
 end
def uptoSmall : (H : Type) → List (DataW H) → Bool := fun _ ds => decide (uptoBulkAll ds ≤ 1048576)
def OpenSpec.upto (s : _root_.Go.ChangeSpec) : _root_.Go.OpenSpec := { _root_.Go.OpenSpec.ofChange s with cond := some uptoSmall }

/-- 'waystonelaw03.ZoneOf', WHERE WHAT IT READS IS OF BULK AT MOST 1048576: true; the input reads as it did. -/
def zoneOfUptoRow : OpenClaim := { program := "ytajikhpjjbohaaa", sum := "5cfa22d0933889d725fddf4be56a570e4632ec63e433ffe4e187e279a606b800", func := "waystone/waystonelaw03.ZoneOf", spec := "zoneOf", unfollowed := true, recurses := true, apart := false, narrowed := true }
def ZoneOfUptoSaid : Prop := zoneOfUptoRow.holds Try.pinned (OpenSpec.upto zoneOfSpec)

/-- 'waystonelaw03.ZoneTells', WHERE WHAT IT READS IS OF BULK AT MOST 1048576: true; the input reads as it did. -/
def zoneTellsUptoRow : OpenClaim := { program := "ytajikhpjjbohaaa", sum := "5cfa22d0933889d725fddf4be56a570e4632ec63e433ffe4e187e279a606b800", func := "waystone/waystonelaw03.ZoneTells", spec := "zoneTells", unfollowed := true, recurses := true, apart := false, narrowed := true }
def ZoneTellsUptoSaid : Prop := zoneTellsUptoRow.holds Try.pinned (OpenSpec.upto zoneTellsSpec)

/-- 'waystonelaw03.ZoneBoth', WHERE WHAT IT READS IS OF BULK AT MOST 1048576: true; the input reads as it did. -/
def zoneBothUptoRow : OpenClaim := { program := "ytajikhpjjbohaaa", sum := "5cfa22d0933889d725fddf4be56a570e4632ec63e433ffe4e187e279a606b800", func := "waystone/waystonelaw03.ZoneBoth", spec := "zoneBoth", unfollowed := true, recurses := true, apart := false, narrowed := true }
def ZoneBothUptoSaid : Prop := zoneBothUptoRow.holds Try.pinned (OpenSpec.upto zoneBothSpec)

/-- 'waystonelaw03.ZoneHas', WHERE WHAT IT READS IS OF BULK AT MOST 1048576: true; the input reads as it did. -/
def zoneHasUptoRow : OpenClaim := { program := "ytajikhpjjbohaaa", sum := "5cfa22d0933889d725fddf4be56a570e4632ec63e433ffe4e187e279a606b800", func := "waystone/waystonelaw03.ZoneHas", spec := "zoneHas", unfollowed := true, recurses := true, apart := false, narrowed := true }
def ZoneHasUptoSaid : Prop := zoneHasUptoRow.holds Try.pinned (OpenSpec.upto zoneHasSpec)

/-- 'waystonelaw03.ZoneLaws', WHERE WHAT IT READS IS OF BULK AT MOST 1048576: true; the input reads as it did. -/
def zoneLawsUptoRow : OpenClaim := { program := "ytajikhpjjbohaaa", sum := "5cfa22d0933889d725fddf4be56a570e4632ec63e433ffe4e187e279a606b800", func := "waystone/waystonelaw03.ZoneLaws", spec := "zoneLaws", unfollowed := true, recurses := true, apart := false, narrowed := true }
def ZoneLawsUptoSaid : Prop := zoneLawsUptoRow.holds Try.pinned (OpenSpec.upto zoneLawsSpec)

end Rows
end Go.Proofs.Ytajikhpjjbohaaa
