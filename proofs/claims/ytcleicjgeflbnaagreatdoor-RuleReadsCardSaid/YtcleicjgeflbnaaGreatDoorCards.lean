/-
  DERIVED. GIVEN WITH THE SEED: THE CARDS: each row of YtcleicjgeflbnaaGreatDoorRows.lean that lists a variable, with what it lists TIED to the program's text (the seventh form; the later family's looks); each row that meets fmt, with fmt's text TOLD by the authors' own Lean function (tested against real Go, not proved from fmt's source: count such statements apart). THE CARD IS WHAT COUNTS. Prove the row's statement (the work); the ties are given (YtcleicjgeflbnaaGreatDoorTie.lean); close each card by the builder's one call (the guide's Derived/Test/ToyasCard.lean, 'card_holds'). Laid BY PROGRAM, IN A SANDBOX (cutbox-door.mjs). By AI agents, Wed Nov 11 2026. No macro, syntax, notation, axiom, sorry.
-/
import Derived.Test.YtcleicjgeflbnaaGreatDoorRows
import GoSem.ClaimSeven
namespace Go.Proofs.YtcleicjgeflbnaaGreatDoor
namespace Rows

/-- THE TIED CARD OF 'vesperslaw09.RuleReads'. -/
def ruleReadsCard : Claim7 := { stood := { row := ruleReadsRow, standIns := [], harness := (true, "2e8df8df7116968f848db09f5a8503899d373ffaa80402f94c98b8a3247e86b2"), looks := true }, kinds := [], alts := [], laidByText := true, laidKinds := [.data, .data, .data, .data, .sentinel, .sentinel, .listed, .data, .pinned], laidTests := true, laidLooks := .later }
def RuleReadsCardSaid : Prop := Claim7.holds Tryz.pinned (.plain (OpenSpec.ofChange ruleReadsSpec)) ruleReadsCard

/-- THE TIED CARD OF 'vesperslaw09.RuleParts'. -/
def rulePartsCard : Claim7 := { stood := { row := rulePartsRow, standIns := [], harness := (true, "2e8df8df7116968f848db09f5a8503899d373ffaa80402f94c98b8a3247e86b2"), looks := true }, kinds := [], alts := [], laidByText := true, laidKinds := [.data, .data, .data, .data, .sentinel, .sentinel, .listed, .data, .pinned], laidTests := true, laidLooks := .later }
def RulePartsCardSaid : Prop := Claim7.holds Tryz.pinned (.plain (OpenSpec.ofChange rulePartsSpec)) rulePartsCard

/-- THE TIED CARD OF 'vesperslaw09.RuleTexts'. -/
def ruleTextsCard : Claim7 := { stood := { row := ruleTextsRow, standIns := [], harness := (true, "2e8df8df7116968f848db09f5a8503899d373ffaa80402f94c98b8a3247e86b2"), looks := true }, kinds := [], alts := [], laidByText := true, laidKinds := [.data, .data, .data, .data, .sentinel, .sentinel, .listed, .data, .pinned], laidTests := true, laidLooks := .later }
def RuleTextsCardSaid : Prop := Claim7.holds Tryz.pinned (.plain (OpenSpec.ofChange ruleTextsSpec)) ruleTextsCard

/-- THE TIED CARD OF 'vesperslaw09.RuleAlike'. -/
def ruleAlikeCard : Claim7 := { stood := { row := ruleAlikeRow, standIns := [], harness := (true, "2e8df8df7116968f848db09f5a8503899d373ffaa80402f94c98b8a3247e86b2"), looks := true }, kinds := [], alts := [], laidByText := true, laidKinds := [.data, .data, .data, .data, .sentinel, .sentinel, .listed, .data, .pinned], laidTests := true, laidLooks := .later }
def RuleAlikeCardSaid : Prop := Claim7.holds Tryz.pinned (.plain (OpenSpec.ofChange ruleAlikeSpec)) ruleAlikeCard

/-- THE SECOND FORM's CARD OF 'vesperslaw09.RuleReads'. -/
def ruleReadsUptoCard : Claim7 := { stood := { row := ruleReadsUptoRow, standIns := [], harness := (true, "2e8df8df7116968f848db09f5a8503899d373ffaa80402f94c98b8a3247e86b2"), looks := true }, kinds := [], alts := [], laidByText := true, laidKinds := [.data, .data, .data, .data, .sentinel, .sentinel, .listed, .data, .pinned], laidTests := true, laidLooks := .later }
def RuleReadsUptoCardSaid : Prop := Claim7.holds Tryz.pinned (.plain (OpenSpec.upto ruleReadsSpec)) ruleReadsUptoCard

/-- THE SECOND FORM's CARD OF 'vesperslaw09.RuleParts'. -/
def rulePartsUptoCard : Claim7 := { stood := { row := rulePartsUptoRow, standIns := [], harness := (true, "2e8df8df7116968f848db09f5a8503899d373ffaa80402f94c98b8a3247e86b2"), looks := true }, kinds := [], alts := [], laidByText := true, laidKinds := [.data, .data, .data, .data, .sentinel, .sentinel, .listed, .data, .pinned], laidTests := true, laidLooks := .later }
def RulePartsUptoCardSaid : Prop := Claim7.holds Tryz.pinned (.plain (OpenSpec.upto rulePartsSpec)) rulePartsUptoCard

/-- THE SECOND FORM's CARD OF 'vesperslaw09.RuleTexts'. -/
def ruleTextsUptoCard : Claim7 := { stood := { row := ruleTextsUptoRow, standIns := [], harness := (true, "2e8df8df7116968f848db09f5a8503899d373ffaa80402f94c98b8a3247e86b2"), looks := true }, kinds := [], alts := [], laidByText := true, laidKinds := [.data, .data, .data, .data, .sentinel, .sentinel, .listed, .data, .pinned], laidTests := true, laidLooks := .later }
def RuleTextsUptoCardSaid : Prop := Claim7.holds Tryz.pinned (.plain (OpenSpec.upto ruleTextsSpec)) ruleTextsUptoCard

/-- THE SECOND FORM's CARD OF 'vesperslaw09.RuleAlike'. -/
def ruleAlikeUptoCard : Claim7 := { stood := { row := ruleAlikeUptoRow, standIns := [], harness := (true, "2e8df8df7116968f848db09f5a8503899d373ffaa80402f94c98b8a3247e86b2"), looks := true }, kinds := [], alts := [], laidByText := true, laidKinds := [.data, .data, .data, .data, .sentinel, .sentinel, .listed, .data, .pinned], laidTests := true, laidLooks := .later }
def RuleAlikeUptoCardSaid : Prop := Claim7.holds Tryz.pinned (.plain (OpenSpec.upto ruleAlikeSpec)) ruleAlikeUptoCard
end Rows
end Go.Proofs.YtcleicjgeflbnaaGreatDoor
