/-
  DERIVED. GIVEN WITH THE SEED: THE CARDS: each row of YtopkcgdfebkbaaaGreatDoorRows.lean that lists a variable, with what it lists TIED to the program's text (the seventh form; the later family's looks); each row that meets fmt, with fmt's text TOLD by the authors' own Lean function (tested against real Go, not proved from fmt's source: count such statements apart). THE CARD IS WHAT COUNTS. Prove the row's statement (the work); the ties are given (YtopkcgdfebkbaaaGreatDoorTie.lean); close each card by the builder's one call (the guide's Derived/Test/ToyasCard.lean, 'card_holds'). Laid BY PROGRAM, IN A SANDBOX (cutbox-door.mjs). By AI agents, Wed Nov 11 2026. No macro, syntax, notation, axiom, sorry.
-/
import Derived.Test.YtopkcgdfebkbaaaGreatDoorRows
import GoSem.ClaimSeven
namespace Go.Proofs.YtopkcgdfebkbaaaGreatDoor
namespace Rows

/-- THE TIED CARD OF 'cooperagelaw11.VarsExpand'. -/
def varsExpandCard : Claim7 := { stood := { row := varsExpandRow, standIns := [], harness := (true, "73da5e6ca0adf724c85a1c6c4a9226a199002993e1bd5757556fde8e0d70f660"), looks := true }, kinds := [], alts := [], laidByText := true, laidKinds := [.data, .data, .data, .data, .sentinel, .sentinel, .pinned], laidTests := true, laidLooks := .later }
def VarsExpandCardSaid : Prop := Claim7.holds Tryz.pinned (.plain (OpenSpec.ofChange varsExpandSpec)) varsExpandCard

/-- THE TIED CARD OF 'cooperagelaw11.VarsAssign'. -/
def varsAssignCard : Claim7 := { stood := { row := varsAssignRow, standIns := [], harness := (true, "73da5e6ca0adf724c85a1c6c4a9226a199002993e1bd5757556fde8e0d70f660"), looks := true }, kinds := [], alts := [], laidByText := true, laidKinds := [.data, .data, .data, .data, .sentinel, .sentinel, .pinned], laidTests := true, laidLooks := .later }
def VarsAssignCardSaid : Prop := Claim7.holds Tryz.pinned (.plain (OpenSpec.ofChange varsAssignSpec)) varsAssignCard

/-- THE TIED CARD OF 'cooperagelaw11.VarsSimple'. -/
def varsSimpleCard : Claim7 := { stood := { row := varsSimpleRow, standIns := [], harness := (true, "73da5e6ca0adf724c85a1c6c4a9226a199002993e1bd5757556fde8e0d70f660"), looks := true }, kinds := [], alts := [], laidByText := true, laidKinds := [.data, .data, .data, .data, .sentinel, .sentinel, .pinned], laidTests := true, laidLooks := .later }
def VarsSimpleCardSaid : Prop := Claim7.holds Tryz.pinned (.plain (OpenSpec.ofChange varsSimpleSpec)) varsSimpleCard

/-- THE TIED CARD OF 'cooperagelaw11.VarsAppend'. -/
def varsAppendCard : Claim7 := { stood := { row := varsAppendRow, standIns := [], harness := (true, "73da5e6ca0adf724c85a1c6c4a9226a199002993e1bd5757556fde8e0d70f660"), looks := true }, kinds := [], alts := [], laidByText := true, laidKinds := [.data, .data, .data, .data, .sentinel, .sentinel, .pinned], laidTests := true, laidLooks := .later }
def VarsAppendCardSaid : Prop := Claim7.holds Tryz.pinned (.plain (OpenSpec.ofChange varsAppendSpec)) varsAppendCard

/-- THE TIED CARD OF 'cooperagelaw12.EvalInline'. -/
def evalInlineCard : Claim7 := { stood := { row := evalInlineRow, standIns := [], harness := (true, "73da5e6ca0adf724c85a1c6c4a9226a199002993e1bd5757556fde8e0d70f660"), looks := true }, kinds := [], alts := [], laidByText := true, laidKinds := [.data, .data, .data, .data, .sentinel, .sentinel, .pinned], laidTests := true, laidLooks := .later }
def EvalInlineCardSaid : Prop := Claim7.holds Tryz.pinned (.plain (OpenSpec.ofChange evalInlineSpec)) evalInlineCard

/-- THE TIED CARD OF 'cooperagelaw12.EvalWays'. -/
def evalWaysCard : Claim7 := { stood := { row := evalWaysRow, standIns := [], harness := (true, "73da5e6ca0adf724c85a1c6c4a9226a199002993e1bd5757556fde8e0d70f660"), looks := true }, kinds := [], alts := [], laidByText := true, laidKinds := [.data, .data, .data, .data, .sentinel, .sentinel, .pinned], laidTests := true, laidLooks := .later }
def EvalWaysCardSaid : Prop := Claim7.holds Tryz.pinned (.plain (OpenSpec.ofChange evalWaysSpec)) evalWaysCard

/-- THE TIED CARD OF 'cooperagelaw12.EvalRules'. -/
def evalRulesCard : Claim7 := { stood := { row := evalRulesRow, standIns := [], harness := (true, "73da5e6ca0adf724c85a1c6c4a9226a199002993e1bd5757556fde8e0d70f660"), looks := true }, kinds := [], alts := [], laidByText := true, laidKinds := [.data, .data, .data, .data, .sentinel, .sentinel, .pinned], laidTests := true, laidLooks := .later }
def EvalRulesCardSaid : Prop := Claim7.holds Tryz.pinned (.plain (OpenSpec.ofChange evalRulesSpec)) evalRulesCard

/-- THE TIED CARD OF 'cooperagelaw12.EvalOnly'. -/
def evalOnlyCard : Claim7 := { stood := { row := evalOnlyRow, standIns := [], harness := (true, "73da5e6ca0adf724c85a1c6c4a9226a199002993e1bd5757556fde8e0d70f660"), looks := true }, kinds := [], alts := [], laidByText := true, laidKinds := [.data, .data, .data, .data, .sentinel, .sentinel, .pinned], laidTests := true, laidLooks := .later }
def EvalOnlyCardSaid : Prop := Claim7.holds Tryz.pinned (.plain (OpenSpec.ofChange evalOnlySpec)) evalOnlyCard

/-- THE TIED CARD OF 'cooperagelaw12.EvalPhony'. -/
def evalPhonyCard : Claim7 := { stood := { row := evalPhonyRow, standIns := [], harness := (true, "73da5e6ca0adf724c85a1c6c4a9226a199002993e1bd5757556fde8e0d70f660"), looks := true }, kinds := [], alts := [], laidByText := true, laidKinds := [.data, .data, .data, .data, .sentinel, .sentinel, .pinned], laidTests := true, laidLooks := .later }
def EvalPhonyCardSaid : Prop := Claim7.holds Tryz.pinned (.plain (OpenSpec.ofChange evalPhonySpec)) evalPhonyCard

/-- THE TIED CARD OF 'cooperagelaw13.RuleFinds'. -/
def ruleFindsCard : Claim7 := { stood := { row := ruleFindsRow, standIns := [], harness := (true, "73da5e6ca0adf724c85a1c6c4a9226a199002993e1bd5757556fde8e0d70f660"), looks := true }, kinds := [], alts := [], laidByText := true, laidKinds := [.data, .data, .data, .data, .sentinel, .sentinel, .pinned], laidTests := true, laidLooks := .later }
def RuleFindsCardSaid : Prop := Claim7.holds Tryz.pinned (.plain (OpenSpec.ofChange ruleFindsSpec)) ruleFindsCard

/-- THE TIED CARD OF 'cooperagelaw13.RuleOnce'. -/
def ruleOnceCard : Claim7 := { stood := { row := ruleOnceRow, standIns := [], harness := (true, "73da5e6ca0adf724c85a1c6c4a9226a199002993e1bd5757556fde8e0d70f660"), looks := true }, kinds := [], alts := [], laidByText := true, laidKinds := [.data, .data, .data, .data, .sentinel, .sentinel, .pinned], laidTests := true, laidLooks := .later }
def RuleOnceCardSaid : Prop := Claim7.holds Tryz.pinned (.plain (OpenSpec.ofChange ruleOnceSpec)) ruleOnceCard

/-- THE TIED CARD OF 'cooperagelaw13.RulePatterns'. -/
def rulePatternsCard : Claim7 := { stood := { row := rulePatternsRow, standIns := [], harness := (true, "73da5e6ca0adf724c85a1c6c4a9226a199002993e1bd5757556fde8e0d70f660"), looks := true }, kinds := [], alts := [], laidByText := true, laidKinds := [.data, .data, .data, .data, .sentinel, .sentinel, .pinned], laidTests := true, laidLooks := .later }
def RulePatternsCardSaid : Prop := Claim7.holds Tryz.pinned (.plain (OpenSpec.ofChange rulePatternsSpec)) rulePatternsCard

/-- THE TIED CARD OF 'cooperagelaw13.RuleGathers'. -/
def ruleGathersCard : Claim7 := { stood := { row := ruleGathersRow, standIns := [], harness := (true, "73da5e6ca0adf724c85a1c6c4a9226a199002993e1bd5757556fde8e0d70f660"), looks := true }, kinds := [], alts := [], laidByText := true, laidKinds := [.data, .data, .data, .data, .sentinel, .sentinel, .pinned], laidTests := true, laidLooks := .later }
def RuleGathersCardSaid : Prop := Claim7.holds Tryz.pinned (.plain (OpenSpec.ofChange ruleGathersSpec)) ruleGathersCard

/-- THE TIED CARD OF 'cooperagelaw13.RuleAuto'. -/
def ruleAutoCard : Claim7 := { stood := { row := ruleAutoRow, standIns := [], harness := (true, "73da5e6ca0adf724c85a1c6c4a9226a199002993e1bd5757556fde8e0d70f660"), looks := true }, kinds := [], alts := [], laidByText := true, laidKinds := [.data, .data, .data, .data, .sentinel, .sentinel, .pinned], laidTests := true, laidLooks := .later }
def RuleAutoCardSaid : Prop := Claim7.holds Tryz.pinned (.plain (OpenSpec.ofChange ruleAutoSpec)) ruleAutoCard

/-- THE TIED CARD OF 'cooperagelaw13.RuleSources'. -/
def ruleSourcesCard : Claim7 := { stood := { row := ruleSourcesRow, standIns := [], harness := (true, "73da5e6ca0adf724c85a1c6c4a9226a199002993e1bd5757556fde8e0d70f660"), looks := true }, kinds := [], alts := [], laidByText := true, laidKinds := [.data, .data, .data, .data, .sentinel, .sentinel, .pinned], laidTests := true, laidLooks := .later }
def RuleSourcesCardSaid : Prop := Claim7.holds Tryz.pinned (.plain (OpenSpec.ofChange ruleSourcesSpec)) ruleSourcesCard

/-- THE SECOND FORM's CARD OF 'cooperagelaw11.VarsExpand'. -/
def varsExpandUptoCard : Claim7 := { stood := { row := varsExpandUptoRow, standIns := [], harness := (true, "73da5e6ca0adf724c85a1c6c4a9226a199002993e1bd5757556fde8e0d70f660"), looks := true }, kinds := [], alts := [], laidByText := true, laidKinds := [.data, .data, .data, .data, .sentinel, .sentinel, .pinned], laidTests := true, laidLooks := .later }
def VarsExpandUptoCardSaid : Prop := Claim7.holds Tryz.pinned (.plain (OpenSpec.upto varsExpandSpec)) varsExpandUptoCard

/-- THE SECOND FORM's CARD OF 'cooperagelaw11.VarsAssign'. -/
def varsAssignUptoCard : Claim7 := { stood := { row := varsAssignUptoRow, standIns := [], harness := (true, "73da5e6ca0adf724c85a1c6c4a9226a199002993e1bd5757556fde8e0d70f660"), looks := true }, kinds := [], alts := [], laidByText := true, laidKinds := [.data, .data, .data, .data, .sentinel, .sentinel, .pinned], laidTests := true, laidLooks := .later }
def VarsAssignUptoCardSaid : Prop := Claim7.holds Tryz.pinned (.plain (OpenSpec.upto varsAssignSpec)) varsAssignUptoCard

/-- THE SECOND FORM's CARD OF 'cooperagelaw11.VarsSimple'. -/
def varsSimpleUptoCard : Claim7 := { stood := { row := varsSimpleUptoRow, standIns := [], harness := (true, "73da5e6ca0adf724c85a1c6c4a9226a199002993e1bd5757556fde8e0d70f660"), looks := true }, kinds := [], alts := [], laidByText := true, laidKinds := [.data, .data, .data, .data, .sentinel, .sentinel, .pinned], laidTests := true, laidLooks := .later }
def VarsSimpleUptoCardSaid : Prop := Claim7.holds Tryz.pinned (.plain (OpenSpec.upto varsSimpleSpec)) varsSimpleUptoCard

/-- THE SECOND FORM's CARD OF 'cooperagelaw11.VarsAppend'. -/
def varsAppendUptoCard : Claim7 := { stood := { row := varsAppendUptoRow, standIns := [], harness := (true, "73da5e6ca0adf724c85a1c6c4a9226a199002993e1bd5757556fde8e0d70f660"), looks := true }, kinds := [], alts := [], laidByText := true, laidKinds := [.data, .data, .data, .data, .sentinel, .sentinel, .pinned], laidTests := true, laidLooks := .later }
def VarsAppendUptoCardSaid : Prop := Claim7.holds Tryz.pinned (.plain (OpenSpec.upto varsAppendSpec)) varsAppendUptoCard

/-- THE SECOND FORM's CARD OF 'cooperagelaw12.EvalInline'. -/
def evalInlineUptoCard : Claim7 := { stood := { row := evalInlineUptoRow, standIns := [], harness := (true, "73da5e6ca0adf724c85a1c6c4a9226a199002993e1bd5757556fde8e0d70f660"), looks := true }, kinds := [], alts := [], laidByText := true, laidKinds := [.data, .data, .data, .data, .sentinel, .sentinel, .pinned], laidTests := true, laidLooks := .later }
def EvalInlineUptoCardSaid : Prop := Claim7.holds Tryz.pinned (.plain (OpenSpec.upto evalInlineSpec)) evalInlineUptoCard

/-- THE SECOND FORM's CARD OF 'cooperagelaw12.EvalWays'. -/
def evalWaysUptoCard : Claim7 := { stood := { row := evalWaysUptoRow, standIns := [], harness := (true, "73da5e6ca0adf724c85a1c6c4a9226a199002993e1bd5757556fde8e0d70f660"), looks := true }, kinds := [], alts := [], laidByText := true, laidKinds := [.data, .data, .data, .data, .sentinel, .sentinel, .pinned], laidTests := true, laidLooks := .later }
def EvalWaysUptoCardSaid : Prop := Claim7.holds Tryz.pinned (.plain (OpenSpec.upto evalWaysSpec)) evalWaysUptoCard

/-- THE SECOND FORM's CARD OF 'cooperagelaw12.EvalRules'. -/
def evalRulesUptoCard : Claim7 := { stood := { row := evalRulesUptoRow, standIns := [], harness := (true, "73da5e6ca0adf724c85a1c6c4a9226a199002993e1bd5757556fde8e0d70f660"), looks := true }, kinds := [], alts := [], laidByText := true, laidKinds := [.data, .data, .data, .data, .sentinel, .sentinel, .pinned], laidTests := true, laidLooks := .later }
def EvalRulesUptoCardSaid : Prop := Claim7.holds Tryz.pinned (.plain (OpenSpec.upto evalRulesSpec)) evalRulesUptoCard

/-- THE SECOND FORM's CARD OF 'cooperagelaw12.EvalOnly'. -/
def evalOnlyUptoCard : Claim7 := { stood := { row := evalOnlyUptoRow, standIns := [], harness := (true, "73da5e6ca0adf724c85a1c6c4a9226a199002993e1bd5757556fde8e0d70f660"), looks := true }, kinds := [], alts := [], laidByText := true, laidKinds := [.data, .data, .data, .data, .sentinel, .sentinel, .pinned], laidTests := true, laidLooks := .later }
def EvalOnlyUptoCardSaid : Prop := Claim7.holds Tryz.pinned (.plain (OpenSpec.upto evalOnlySpec)) evalOnlyUptoCard

/-- THE SECOND FORM's CARD OF 'cooperagelaw12.EvalPhony'. -/
def evalPhonyUptoCard : Claim7 := { stood := { row := evalPhonyUptoRow, standIns := [], harness := (true, "73da5e6ca0adf724c85a1c6c4a9226a199002993e1bd5757556fde8e0d70f660"), looks := true }, kinds := [], alts := [], laidByText := true, laidKinds := [.data, .data, .data, .data, .sentinel, .sentinel, .pinned], laidTests := true, laidLooks := .later }
def EvalPhonyUptoCardSaid : Prop := Claim7.holds Tryz.pinned (.plain (OpenSpec.upto evalPhonySpec)) evalPhonyUptoCard

/-- THE SECOND FORM's CARD OF 'cooperagelaw13.RuleFinds'. -/
def ruleFindsUptoCard : Claim7 := { stood := { row := ruleFindsUptoRow, standIns := [], harness := (true, "73da5e6ca0adf724c85a1c6c4a9226a199002993e1bd5757556fde8e0d70f660"), looks := true }, kinds := [], alts := [], laidByText := true, laidKinds := [.data, .data, .data, .data, .sentinel, .sentinel, .pinned], laidTests := true, laidLooks := .later }
def RuleFindsUptoCardSaid : Prop := Claim7.holds Tryz.pinned (.plain (OpenSpec.upto ruleFindsSpec)) ruleFindsUptoCard

/-- THE SECOND FORM's CARD OF 'cooperagelaw13.RuleOnce'. -/
def ruleOnceUptoCard : Claim7 := { stood := { row := ruleOnceUptoRow, standIns := [], harness := (true, "73da5e6ca0adf724c85a1c6c4a9226a199002993e1bd5757556fde8e0d70f660"), looks := true }, kinds := [], alts := [], laidByText := true, laidKinds := [.data, .data, .data, .data, .sentinel, .sentinel, .pinned], laidTests := true, laidLooks := .later }
def RuleOnceUptoCardSaid : Prop := Claim7.holds Tryz.pinned (.plain (OpenSpec.upto ruleOnceSpec)) ruleOnceUptoCard

/-- THE SECOND FORM's CARD OF 'cooperagelaw13.RulePatterns'. -/
def rulePatternsUptoCard : Claim7 := { stood := { row := rulePatternsUptoRow, standIns := [], harness := (true, "73da5e6ca0adf724c85a1c6c4a9226a199002993e1bd5757556fde8e0d70f660"), looks := true }, kinds := [], alts := [], laidByText := true, laidKinds := [.data, .data, .data, .data, .sentinel, .sentinel, .pinned], laidTests := true, laidLooks := .later }
def RulePatternsUptoCardSaid : Prop := Claim7.holds Tryz.pinned (.plain (OpenSpec.upto rulePatternsSpec)) rulePatternsUptoCard

/-- THE SECOND FORM's CARD OF 'cooperagelaw13.RuleGathers'. -/
def ruleGathersUptoCard : Claim7 := { stood := { row := ruleGathersUptoRow, standIns := [], harness := (true, "73da5e6ca0adf724c85a1c6c4a9226a199002993e1bd5757556fde8e0d70f660"), looks := true }, kinds := [], alts := [], laidByText := true, laidKinds := [.data, .data, .data, .data, .sentinel, .sentinel, .pinned], laidTests := true, laidLooks := .later }
def RuleGathersUptoCardSaid : Prop := Claim7.holds Tryz.pinned (.plain (OpenSpec.upto ruleGathersSpec)) ruleGathersUptoCard

/-- THE SECOND FORM's CARD OF 'cooperagelaw13.RuleAuto'. -/
def ruleAutoUptoCard : Claim7 := { stood := { row := ruleAutoUptoRow, standIns := [], harness := (true, "73da5e6ca0adf724c85a1c6c4a9226a199002993e1bd5757556fde8e0d70f660"), looks := true }, kinds := [], alts := [], laidByText := true, laidKinds := [.data, .data, .data, .data, .sentinel, .sentinel, .pinned], laidTests := true, laidLooks := .later }
def RuleAutoUptoCardSaid : Prop := Claim7.holds Tryz.pinned (.plain (OpenSpec.upto ruleAutoSpec)) ruleAutoUptoCard

/-- THE SECOND FORM's CARD OF 'cooperagelaw13.RuleSources'. -/
def ruleSourcesUptoCard : Claim7 := { stood := { row := ruleSourcesUptoRow, standIns := [], harness := (true, "73da5e6ca0adf724c85a1c6c4a9226a199002993e1bd5757556fde8e0d70f660"), looks := true }, kinds := [], alts := [], laidByText := true, laidKinds := [.data, .data, .data, .data, .sentinel, .sentinel, .pinned], laidTests := true, laidLooks := .later }
def RuleSourcesUptoCardSaid : Prop := Claim7.holds Tryz.pinned (.plain (OpenSpec.upto ruleSourcesSpec)) ruleSourcesUptoCard
end Rows
end Go.Proofs.YtopkcgdfebkbaaaGreatDoor
