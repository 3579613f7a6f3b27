/-
  DERIVED. GIVEN WITH THE SEED: THE CARDS: each row of YtckabcbfbpejkaaGreatDoorRows.lean that lists a variable, with what it lists TIED to the program's text (the seventh form; the later family's looks); each row that meets fmt, with fmt's text TOLD by the authors' own Lean function (tested against real Go, not proved from fmt's source: count such statements apart). THE CARD IS WHAT COUNTS. Prove the row's statement (the work); the ties are given (YtckabcbfbpejkaaGreatDoorTie.lean); close each card by the builder's one call (the guide's Derived/Test/ToyasCard.lean, 'card_holds'). Laid BY PROGRAM, IN A SANDBOX (cutbox-door.mjs). By AI agents, Wed Nov 11 2026. No macro, syntax, notation, axiom, sorry.
-/
import Derived.Test.YtckabcbfbpejkaaGreatDoorRows
import GoSem.ClaimSeven
namespace Go.Proofs.YtckabcbfbpejkaaGreatDoor
namespace Rows

/-- THE TIED CARD OF 'waystonelaw07.RuleTexts'. -/
def ruleTextsCard : Claim7 := { stood := { row := ruleTextsRow, standIns := [], harness := (true, "019d5f2a2ec582ef271fb821ca60879ec6de6fed94b4a84a337ad25f191770e0"), looks := true }, kinds := [], alts := [], laidByText := true, laidKinds := [.data, .data, .data, .data, .sentinel, .sentinel, .pinned], laidTests := true, laidLooks := .later }
def RuleTextsCardSaid : Prop := Claim7.holds Tryz.pinned (.plain (OpenSpec.ofChange ruleTextsSpec)) ruleTextsCard

/-- THE TIED CARD OF 'waystonelaw07.RuleMatches'. -/
def ruleMatchesCard : Claim7 := { stood := { row := ruleMatchesRow, standIns := [], harness := (true, "019d5f2a2ec582ef271fb821ca60879ec6de6fed94b4a84a337ad25f191770e0"), looks := true }, kinds := [], alts := [], laidByText := true, laidKinds := [.data, .data, .data, .data, .sentinel, .sentinel, .pinned], laidTests := true, laidLooks := .later }
def RuleMatchesCardSaid : Prop := Claim7.holds Tryz.pinned (.plain (OpenSpec.ofChange ruleMatchesSpec)) ruleMatchesCard

/-- THE SECOND FORM's CARD OF 'waystonelaw07.RuleTexts'. -/
def ruleTextsUptoCard : Claim7 := { stood := { row := ruleTextsUptoRow, standIns := [], harness := (true, "019d5f2a2ec582ef271fb821ca60879ec6de6fed94b4a84a337ad25f191770e0"), looks := true }, kinds := [], alts := [], laidByText := true, laidKinds := [.data, .data, .data, .data, .sentinel, .sentinel, .pinned], laidTests := true, laidLooks := .later }
def RuleTextsUptoCardSaid : Prop := Claim7.holds Tryz.pinned (.plain (OpenSpec.upto ruleTextsSpec)) ruleTextsUptoCard

/-- THE SECOND FORM's CARD OF 'waystonelaw07.RuleMatches'. -/
def ruleMatchesUptoCard : Claim7 := { stood := { row := ruleMatchesUptoRow, standIns := [], harness := (true, "019d5f2a2ec582ef271fb821ca60879ec6de6fed94b4a84a337ad25f191770e0"), looks := true }, kinds := [], alts := [], laidByText := true, laidKinds := [.data, .data, .data, .data, .sentinel, .sentinel, .pinned], laidTests := true, laidLooks := .later }
def RuleMatchesUptoCardSaid : Prop := Claim7.holds Tryz.pinned (.plain (OpenSpec.upto ruleMatchesSpec)) ruleMatchesUptoCard
end Rows
end Go.Proofs.YtckabcbfbpejkaaGreatDoor
