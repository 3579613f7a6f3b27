/-
  DERIVED. GIVEN WITH THE SEED: THE CARDS: each row of YtckabcbfbpejkaaDoorRows.lean that lists a variable, with what it lists TIED to the program's text (the seventh form; the later family's looks); each row that meets fmt, with fmt's text TOLD by the authors' own Lean function (tested against real Go, not proved from fmt's source: count such statements apart). THE CARD IS WHAT COUNTS. Prove the row's statement (the work); the ties are given (YtckabcbfbpejkaaDoorTie.lean); close each card by the builder's one call (the guide's Derived/Test/ToyasCard.lean, 'card_holds'). Laid BY PROGRAM, IN A SANDBOX (cutbox-door.mjs). By AI agents, Wed Nov 11 2026. No macro, syntax, notation, axiom, sorry.
-/
import Derived.Test.YtckabcbfbpejkaaDoorRows
import GoSem.ClaimSeven
namespace Go.Proofs.YtckabcbfbpejkaaDoor
namespace Rows

/-- THE TIED CARD OF 'waystonelaw02.PrefixNested'. -/
def prefixNestedCard : Claim7 := { stood := { row := prefixNestedRow, standIns := [], harness := (true, "b7bfd3f1296cd71c2b916e19cbd6c91930ac18ed402b40caa8ce61de6e1b746f"), looks := true }, kinds := [], alts := [], laidByText := true, laidKinds := [.data, .data, .data, .data, .sentinel, .sentinel, .pinned], laidTests := true, laidLooks := .later }
def PrefixNestedCardSaid : Prop := Claim7.holds Tryd.pinned (.plain (OpenSpec.ofChange prefixNestedSpec)) prefixNestedCard

/-- THE TIED CARD OF 'waystonelaw02.PrefixTexts'. -/
def prefixTextsCard : Claim7 := { stood := { row := prefixTextsRow, standIns := [], harness := (true, "b7bfd3f1296cd71c2b916e19cbd6c91930ac18ed402b40caa8ce61de6e1b746f"), looks := true }, kinds := [], alts := [], laidByText := true, laidKinds := [.data, .data, .data, .data, .sentinel, .sentinel, .pinned], laidTests := true, laidLooks := .later }
def PrefixTextsCardSaid : Prop := Claim7.holds Tryd.pinned (.plain (OpenSpec.ofChange prefixTextsSpec)) prefixTextsCard

/-- THE TIED CARD OF 'waystonelaw02.PrefixTells'. -/
def prefixTellsCard : Claim7 := { stood := { row := prefixTellsRow, standIns := [], harness := (true, "b7bfd3f1296cd71c2b916e19cbd6c91930ac18ed402b40caa8ce61de6e1b746f"), looks := true }, kinds := [], alts := [], laidByText := true, laidKinds := [.data, .data, .data, .data, .sentinel, .sentinel, .pinned], laidTests := true, laidLooks := .later }
def PrefixTellsCardSaid : Prop := Claim7.holds Tryd.pinned (.plain (OpenSpec.ofChange prefixTellsSpec)) prefixTellsCard

/-- THE TIED CARD OF 'waystonelaw02.PrefixSplit'. -/
def prefixSplitCard : Claim7 := { stood := { row := prefixSplitRow, standIns := [], harness := (true, "b7bfd3f1296cd71c2b916e19cbd6c91930ac18ed402b40caa8ce61de6e1b746f"), looks := true }, kinds := [], alts := [], laidByText := true, laidKinds := [.data, .data, .data, .data, .sentinel, .sentinel, .pinned], laidTests := true, laidLooks := .later }
def PrefixSplitCardSaid : Prop := Claim7.holds Tryd.pinned (.plain (OpenSpec.ofChange prefixSplitSpec)) prefixSplitCard

/-- THE TIED CARD OF 'waystonelaw02.PrefixParses'. -/
def prefixParsesCard : Claim7 := { stood := { row := prefixParsesRow, standIns := [], harness := (true, "b7bfd3f1296cd71c2b916e19cbd6c91930ac18ed402b40caa8ce61de6e1b746f"), looks := true }, kinds := [], alts := [], laidByText := true, laidKinds := [.data, .data, .data, .data, .sentinel, .sentinel, .pinned], laidTests := true, laidLooks := .later }
def PrefixParsesCardSaid : Prop := Claim7.holds Tryd.pinned (.plain (OpenSpec.ofChange prefixParsesSpec)) prefixParsesCard

/-- THE TIED CARD OF 'waystonelaw02.PrefixBack'. -/
def prefixBackCard : Claim7 := { stood := { row := prefixBackRow, standIns := [], harness := (true, "b7bfd3f1296cd71c2b916e19cbd6c91930ac18ed402b40caa8ce61de6e1b746f"), looks := true }, kinds := [], alts := [], laidByText := true, laidKinds := [.data, .data, .data, .data, .sentinel, .sentinel, .pinned], laidTests := true, laidLooks := .later }
def PrefixBackCardSaid : Prop := Claim7.holds Tryd.pinned (.plain (OpenSpec.ofChange prefixBackSpec)) prefixBackCard

/-- THE TIED CARD OF 'waystonelaw07.RuleBack'. -/
def ruleBackCard : Claim7 := { stood := { row := ruleBackRow, standIns := [], harness := (true, "b7bfd3f1296cd71c2b916e19cbd6c91930ac18ed402b40caa8ce61de6e1b746f"), looks := true }, kinds := [], alts := [], laidByText := true, laidKinds := [.data, .data, .data, .data, .sentinel, .sentinel, .pinned], laidTests := true, laidLooks := .later }
def RuleBackCardSaid : Prop := Claim7.holds Tryd.pinned (.plain (OpenSpec.ofChange ruleBackSpec)) ruleBackCard

/-- THE TIED CARD OF 'waystonelaw07.RuleApart'. -/
def ruleApartCard : Claim7 := { stood := { row := ruleApartRow, standIns := [], harness := (true, "b7bfd3f1296cd71c2b916e19cbd6c91930ac18ed402b40caa8ce61de6e1b746f"), looks := true }, kinds := [], alts := [], laidByText := true, laidKinds := [.data, .data, .data, .data, .sentinel, .sentinel, .pinned], laidTests := true, laidLooks := .later }
def RuleApartCardSaid : Prop := Claim7.holds Tryd.pinned (.plain (OpenSpec.ofChange ruleApartSpec)) ruleApartCard

/-- THE TIED CARD OF 'waystonelaw07.RuleTells'. -/
def ruleTellsCard : Claim7 := { stood := { row := ruleTellsRow, standIns := [], harness := (true, "b7bfd3f1296cd71c2b916e19cbd6c91930ac18ed402b40caa8ce61de6e1b746f"), looks := true }, kinds := [], alts := [], laidByText := true, laidKinds := [.data, .data, .data, .data, .sentinel, .sentinel, .pinned], laidTests := true, laidLooks := .later }
def RuleTellsCardSaid : Prop := Claim7.holds Tryd.pinned (.plain (OpenSpec.ofChange ruleTellsSpec)) ruleTellsCard

/-- THE TIED CARD OF 'waystonelaw07.RuleFirst'. -/
def ruleFirstCard : Claim7 := { stood := { row := ruleFirstRow, standIns := [], harness := (true, "b7bfd3f1296cd71c2b916e19cbd6c91930ac18ed402b40caa8ce61de6e1b746f"), looks := true }, kinds := [], alts := [], laidByText := true, laidKinds := [.data, .data, .data, .data, .sentinel, .sentinel, .pinned], laidTests := true, laidLooks := .later }
def RuleFirstCardSaid : Prop := Claim7.holds Tryd.pinned (.plain (OpenSpec.ofChange ruleFirstSpec)) ruleFirstCard

/-- THE SECOND FORM's CARD OF 'waystonelaw02.PrefixNested'. -/
def prefixNestedUptoCard : Claim7 := { stood := { row := prefixNestedUptoRow, standIns := [], harness := (true, "b7bfd3f1296cd71c2b916e19cbd6c91930ac18ed402b40caa8ce61de6e1b746f"), looks := true }, kinds := [], alts := [], laidByText := true, laidKinds := [.data, .data, .data, .data, .sentinel, .sentinel, .pinned], laidTests := true, laidLooks := .later }
def PrefixNestedUptoCardSaid : Prop := Claim7.holds Tryd.pinned (.plain (OpenSpec.upto prefixNestedSpec)) prefixNestedUptoCard

/-- THE SECOND FORM's CARD OF 'waystonelaw02.PrefixTexts'. -/
def prefixTextsUptoCard : Claim7 := { stood := { row := prefixTextsUptoRow, standIns := [], harness := (true, "b7bfd3f1296cd71c2b916e19cbd6c91930ac18ed402b40caa8ce61de6e1b746f"), looks := true }, kinds := [], alts := [], laidByText := true, laidKinds := [.data, .data, .data, .data, .sentinel, .sentinel, .pinned], laidTests := true, laidLooks := .later }
def PrefixTextsUptoCardSaid : Prop := Claim7.holds Tryd.pinned (.plain (OpenSpec.upto prefixTextsSpec)) prefixTextsUptoCard

/-- THE SECOND FORM's CARD OF 'waystonelaw02.PrefixTells'. -/
def prefixTellsUptoCard : Claim7 := { stood := { row := prefixTellsUptoRow, standIns := [], harness := (true, "b7bfd3f1296cd71c2b916e19cbd6c91930ac18ed402b40caa8ce61de6e1b746f"), looks := true }, kinds := [], alts := [], laidByText := true, laidKinds := [.data, .data, .data, .data, .sentinel, .sentinel, .pinned], laidTests := true, laidLooks := .later }
def PrefixTellsUptoCardSaid : Prop := Claim7.holds Tryd.pinned (.plain (OpenSpec.upto prefixTellsSpec)) prefixTellsUptoCard

/-- THE SECOND FORM's CARD OF 'waystonelaw02.PrefixSplit'. -/
def prefixSplitUptoCard : Claim7 := { stood := { row := prefixSplitUptoRow, standIns := [], harness := (true, "b7bfd3f1296cd71c2b916e19cbd6c91930ac18ed402b40caa8ce61de6e1b746f"), looks := true }, kinds := [], alts := [], laidByText := true, laidKinds := [.data, .data, .data, .data, .sentinel, .sentinel, .pinned], laidTests := true, laidLooks := .later }
def PrefixSplitUptoCardSaid : Prop := Claim7.holds Tryd.pinned (.plain (OpenSpec.upto prefixSplitSpec)) prefixSplitUptoCard

/-- THE SECOND FORM's CARD OF 'waystonelaw02.PrefixParses'. -/
def prefixParsesUptoCard : Claim7 := { stood := { row := prefixParsesUptoRow, standIns := [], harness := (true, "b7bfd3f1296cd71c2b916e19cbd6c91930ac18ed402b40caa8ce61de6e1b746f"), looks := true }, kinds := [], alts := [], laidByText := true, laidKinds := [.data, .data, .data, .data, .sentinel, .sentinel, .pinned], laidTests := true, laidLooks := .later }
def PrefixParsesUptoCardSaid : Prop := Claim7.holds Tryd.pinned (.plain (OpenSpec.upto prefixParsesSpec)) prefixParsesUptoCard

/-- THE SECOND FORM's CARD OF 'waystonelaw02.PrefixBack'. -/
def prefixBackUptoCard : Claim7 := { stood := { row := prefixBackUptoRow, standIns := [], harness := (true, "b7bfd3f1296cd71c2b916e19cbd6c91930ac18ed402b40caa8ce61de6e1b746f"), looks := true }, kinds := [], alts := [], laidByText := true, laidKinds := [.data, .data, .data, .data, .sentinel, .sentinel, .pinned], laidTests := true, laidLooks := .later }
def PrefixBackUptoCardSaid : Prop := Claim7.holds Tryd.pinned (.plain (OpenSpec.upto prefixBackSpec)) prefixBackUptoCard

/-- THE SECOND FORM's CARD OF 'waystonelaw07.RuleBack'. -/
def ruleBackUptoCard : Claim7 := { stood := { row := ruleBackUptoRow, standIns := [], harness := (true, "b7bfd3f1296cd71c2b916e19cbd6c91930ac18ed402b40caa8ce61de6e1b746f"), looks := true }, kinds := [], alts := [], laidByText := true, laidKinds := [.data, .data, .data, .data, .sentinel, .sentinel, .pinned], laidTests := true, laidLooks := .later }
def RuleBackUptoCardSaid : Prop := Claim7.holds Tryd.pinned (.plain (OpenSpec.upto ruleBackSpec)) ruleBackUptoCard

/-- THE SECOND FORM's CARD OF 'waystonelaw07.RuleApart'. -/
def ruleApartUptoCard : Claim7 := { stood := { row := ruleApartUptoRow, standIns := [], harness := (true, "b7bfd3f1296cd71c2b916e19cbd6c91930ac18ed402b40caa8ce61de6e1b746f"), looks := true }, kinds := [], alts := [], laidByText := true, laidKinds := [.data, .data, .data, .data, .sentinel, .sentinel, .pinned], laidTests := true, laidLooks := .later }
def RuleApartUptoCardSaid : Prop := Claim7.holds Tryd.pinned (.plain (OpenSpec.upto ruleApartSpec)) ruleApartUptoCard

/-- THE SECOND FORM's CARD OF 'waystonelaw07.RuleTells'. -/
def ruleTellsUptoCard : Claim7 := { stood := { row := ruleTellsUptoRow, standIns := [], harness := (true, "b7bfd3f1296cd71c2b916e19cbd6c91930ac18ed402b40caa8ce61de6e1b746f"), looks := true }, kinds := [], alts := [], laidByText := true, laidKinds := [.data, .data, .data, .data, .sentinel, .sentinel, .pinned], laidTests := true, laidLooks := .later }
def RuleTellsUptoCardSaid : Prop := Claim7.holds Tryd.pinned (.plain (OpenSpec.upto ruleTellsSpec)) ruleTellsUptoCard

/-- THE SECOND FORM's CARD OF 'waystonelaw07.RuleFirst'. -/
def ruleFirstUptoCard : Claim7 := { stood := { row := ruleFirstUptoRow, standIns := [], harness := (true, "b7bfd3f1296cd71c2b916e19cbd6c91930ac18ed402b40caa8ce61de6e1b746f"), looks := true }, kinds := [], alts := [], laidByText := true, laidKinds := [.data, .data, .data, .data, .sentinel, .sentinel, .pinned], laidTests := true, laidLooks := .later }
def RuleFirstUptoCardSaid : Prop := Claim7.holds Tryd.pinned (.plain (OpenSpec.upto ruleFirstSpec)) ruleFirstUptoCard
end Rows
end Go.Proofs.YtckabcbfbpejkaaDoor
