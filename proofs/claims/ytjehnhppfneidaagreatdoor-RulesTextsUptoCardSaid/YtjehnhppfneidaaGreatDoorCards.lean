/-
  DERIVED. GIVEN WITH THE SEED: THE CARDS: each row of YtjehnhppfneidaaGreatDoorRows.lean that lists a variable, with what it lists TIED to the program's text (the seventh form; the later family's looks); each row that meets fmt, with fmt's text TOLD by the authors' own Lean function (tested against real Go, not proved from fmt's source: count such statements apart). THE CARD IS WHAT COUNTS. Prove the row's statement (the work); the ties are given (YtjehnhppfneidaaGreatDoorTie.lean); close each card by the builder's one call (the guide's Derived/Test/ToyasCard.lean, 'card_holds'). Laid BY PROGRAM, IN A SANDBOX (cutbox-door.mjs). By AI agents, Wed Nov 11 2026. No macro, syntax, notation, axiom, sorry.
-/
import Derived.Test.YtjehnhppfneidaaGreatDoorRows
import GoSem.ClaimSeven
namespace Go.Proofs.YtjehnhppfneidaaGreatDoor
namespace Rows

/-- THE TIED CARD OF 'gumshoelaw05.ScopeResolves'. -/
def scopeResolvesCard : Claim7 := { stood := { row := scopeResolvesRow, standIns := [], harness := (true, "cdafaaea5968544a6077badc0abaabd0d464c7268d1f00cf504b954cf1178226"), looks := true }, kinds := [], alts := [], laidByText := true, laidKinds := [.data, .handle, .listed, .data, .pinned], laidTests := true, laidLooks := .later }
def ScopeResolvesCardSaid : Prop := Claim7.holds Tryz.pinned (.plain (OpenSpec.ofChange scopeResolvesSpec)) scopeResolvesCard

/-- THE TIED CARD OF 'gumshoelaw05.ScopeTexts'. -/
def scopeTextsCard : Claim7 := { stood := { row := scopeTextsRow, standIns := [], harness := (true, "cdafaaea5968544a6077badc0abaabd0d464c7268d1f00cf504b954cf1178226"), looks := true }, kinds := [], alts := [], laidByText := true, laidKinds := [.data, .handle, .listed, .data, .pinned], laidTests := true, laidLooks := .later }
def ScopeTextsCardSaid : Prop := Claim7.holds Tryz.pinned (.plain (OpenSpec.ofChange scopeTextsSpec)) scopeTextsCard

/-- THE TIED CARD OF 'gumshoelaw05.ScopeSame'. -/
def scopeSameCard : Claim7 := { stood := { row := scopeSameRow, standIns := [], harness := (true, "cdafaaea5968544a6077badc0abaabd0d464c7268d1f00cf504b954cf1178226"), looks := true }, kinds := [], alts := [], laidByText := true, laidKinds := [.data, .handle, .listed, .data, .pinned], laidTests := true, laidLooks := .later }
def ScopeSameCardSaid : Prop := Claim7.holds Tryz.pinned (.plain (OpenSpec.ofChange scopeSameSpec)) scopeSameCard

/-- THE TIED CARD OF 'gumshoelaw05.ScopeNames'. -/
def scopeNamesCard : Claim7 := { stood := { row := scopeNamesRow, standIns := [], harness := (true, "cdafaaea5968544a6077badc0abaabd0d464c7268d1f00cf504b954cf1178226"), looks := true }, kinds := [], alts := [], laidByText := true, laidKinds := [.data, .handle, .listed, .data, .pinned], laidTests := true, laidLooks := .later }
def ScopeNamesCardSaid : Prop := Claim7.holds Tryz.pinned (.plain (OpenSpec.ofChange scopeNamesSpec)) scopeNamesCard

/-- THE TIED CARD OF 'gumshoelaw05.ScopeLines'. -/
def scopeLinesCard : Claim7 := { stood := { row := scopeLinesRow, standIns := [], harness := (true, "cdafaaea5968544a6077badc0abaabd0d464c7268d1f00cf504b954cf1178226"), looks := true }, kinds := [], alts := [], laidByText := true, laidKinds := [.data, .handle, .listed, .data, .pinned], laidTests := true, laidLooks := .later }
def ScopeLinesCardSaid : Prop := Claim7.holds Tryz.pinned (.plain (OpenSpec.ofChange scopeLinesSpec)) scopeLinesCard

/-- THE TIED CARD OF 'gumshoelaw05.ScopeRanges'. -/
def scopeRangesCard : Claim7 := { stood := { row := scopeRangesRow, standIns := [], harness := (true, "cdafaaea5968544a6077badc0abaabd0d464c7268d1f00cf504b954cf1178226"), looks := true }, kinds := [], alts := [], laidByText := true, laidKinds := [.data, .handle, .listed, .data, .pinned], laidTests := true, laidLooks := .later }
def ScopeRangesCardSaid : Prop := Claim7.holds Tryz.pinned (.plain (OpenSpec.ofChange scopeRangesSpec)) scopeRangesCard

/-- THE TIED CARD OF 'gumshoelaw05.ScopeMany'. -/
def scopeManyCard : Claim7 := { stood := { row := scopeManyRow, standIns := [], harness := (true, "cdafaaea5968544a6077badc0abaabd0d464c7268d1f00cf504b954cf1178226"), looks := true }, kinds := [], alts := [], laidByText := true, laidKinds := [.data, .handle, .listed, .data, .pinned], laidTests := true, laidLooks := .later }
def ScopeManyCardSaid : Prop := Claim7.holds Tryz.pinned (.plain (OpenSpec.ofChange scopeManySpec)) scopeManyCard

/-- THE TIED CARD OF 'gumshoelaw05.ScopeMarks'. -/
def scopeMarksCard : Claim7 := { stood := { row := scopeMarksRow, standIns := [], harness := (true, "cdafaaea5968544a6077badc0abaabd0d464c7268d1f00cf504b954cf1178226"), looks := true }, kinds := [], alts := [], laidByText := true, laidKinds := [.data, .handle, .listed, .data, .pinned], laidTests := true, laidLooks := .later }
def ScopeMarksCardSaid : Prop := Claim7.holds Tryz.pinned (.plain (OpenSpec.ofChange scopeMarksSpec)) scopeMarksCard

/-- THE TIED CARD OF 'gumshoelaw12.RulesAll'. -/
def rulesAllCard : Claim7 := { stood := { row := rulesAllRow, standIns := [], harness := (true, "cdafaaea5968544a6077badc0abaabd0d464c7268d1f00cf504b954cf1178226"), looks := true }, kinds := [], alts := [], laidByText := true, laidKinds := [.data, .handle, .listed, .data, .pinned], laidTests := true, laidLooks := .later }
def RulesAllCardSaid : Prop := Claim7.holds Tryz.pinned (.plain (OpenSpec.ofChange rulesAllSpec)) rulesAllCard

/-- THE TIED CARD OF 'gumshoelaw12.RulesTexts'. -/
def rulesTextsCard : Claim7 := { stood := { row := rulesTextsRow, standIns := [], harness := (true, "cdafaaea5968544a6077badc0abaabd0d464c7268d1f00cf504b954cf1178226"), looks := true }, kinds := [], alts := [], laidByText := true, laidKinds := [.data, .handle, .listed, .data, .pinned], laidTests := true, laidLooks := .later }
def RulesTextsCardSaid : Prop := Claim7.holds Tryz.pinned (.plain (OpenSpec.ofChange rulesTextsSpec)) rulesTextsCard

/-- THE TIED CARD OF 'gumshoelaw12.RulesNames'. -/
def rulesNamesCard : Claim7 := { stood := { row := rulesNamesRow, standIns := [], harness := (true, "cdafaaea5968544a6077badc0abaabd0d464c7268d1f00cf504b954cf1178226"), looks := true }, kinds := [], alts := [], laidByText := true, laidKinds := [.data, .handle, .listed, .data, .pinned], laidTests := true, laidLooks := .later }
def RulesNamesCardSaid : Prop := Claim7.holds Tryz.pinned (.plain (OpenSpec.ofChange rulesNamesSpec)) rulesNamesCard

/-- THE TIED CARD OF 'gumshoelaw12.RulesMore'. -/
def rulesMoreCard : Claim7 := { stood := { row := rulesMoreRow, standIns := [], harness := (true, "cdafaaea5968544a6077badc0abaabd0d464c7268d1f00cf504b954cf1178226"), looks := true }, kinds := [], alts := [], laidByText := true, laidKinds := [.data, .handle, .listed, .data, .pinned], laidTests := true, laidLooks := .later }
def RulesMoreCardSaid : Prop := Claim7.holds Tryz.pinned (.plain (OpenSpec.ofChange rulesMoreSpec)) rulesMoreCard

/-- THE TIED CARD OF 'gumshoelaw12.RulesKinds'. -/
def rulesKindsCard : Claim7 := { stood := { row := rulesKindsRow, standIns := [], harness := (true, "cdafaaea5968544a6077badc0abaabd0d464c7268d1f00cf504b954cf1178226"), looks := true }, kinds := [], alts := [], laidByText := true, laidKinds := [.data, .handle, .listed, .data, .pinned], laidTests := true, laidLooks := .later }
def RulesKindsCardSaid : Prop := Claim7.holds Tryz.pinned (.plain (OpenSpec.ofChange rulesKindsSpec)) rulesKindsCard

/-- THE TIED CARD OF 'gumshoelaw12.RulesVars'. -/
def rulesVarsCard : Claim7 := { stood := { row := rulesVarsRow, standIns := [], harness := (true, "cdafaaea5968544a6077badc0abaabd0d464c7268d1f00cf504b954cf1178226"), looks := true }, kinds := [], alts := [], laidByText := true, laidKinds := [.data, .handle, .listed, .data, .pinned], laidTests := true, laidLooks := .later }
def RulesVarsCardSaid : Prop := Claim7.holds Tryz.pinned (.plain (OpenSpec.ofChange rulesVarsSpec)) rulesVarsCard

/-- THE TIED CARD OF 'gumshoelaw12.RulesRanges'. -/
def rulesRangesCard : Claim7 := { stood := { row := rulesRangesRow, standIns := [], harness := (true, "cdafaaea5968544a6077badc0abaabd0d464c7268d1f00cf504b954cf1178226"), looks := true }, kinds := [], alts := [], laidByText := true, laidKinds := [.data, .handle, .listed, .data, .pinned], laidTests := true, laidLooks := .later }
def RulesRangesCardSaid : Prop := Claim7.holds Tryz.pinned (.plain (OpenSpec.ofChange rulesRangesSpec)) rulesRangesCard

/-- THE SECOND FORM's CARD OF 'gumshoelaw05.ScopeResolves'. -/
def scopeResolvesUptoCard : Claim7 := { stood := { row := scopeResolvesUptoRow, standIns := [], harness := (true, "cdafaaea5968544a6077badc0abaabd0d464c7268d1f00cf504b954cf1178226"), looks := true }, kinds := [], alts := [], laidByText := true, laidKinds := [.data, .handle, .listed, .data, .pinned], laidTests := true, laidLooks := .later }
def ScopeResolvesUptoCardSaid : Prop := Claim7.holds Tryz.pinned (.plain (OpenSpec.upto scopeResolvesSpec)) scopeResolvesUptoCard

/-- THE SECOND FORM's CARD OF 'gumshoelaw05.ScopeTexts'. -/
def scopeTextsUptoCard : Claim7 := { stood := { row := scopeTextsUptoRow, standIns := [], harness := (true, "cdafaaea5968544a6077badc0abaabd0d464c7268d1f00cf504b954cf1178226"), looks := true }, kinds := [], alts := [], laidByText := true, laidKinds := [.data, .handle, .listed, .data, .pinned], laidTests := true, laidLooks := .later }
def ScopeTextsUptoCardSaid : Prop := Claim7.holds Tryz.pinned (.plain (OpenSpec.upto scopeTextsSpec)) scopeTextsUptoCard

/-- THE SECOND FORM's CARD OF 'gumshoelaw05.ScopeSame'. -/
def scopeSameUptoCard : Claim7 := { stood := { row := scopeSameUptoRow, standIns := [], harness := (true, "cdafaaea5968544a6077badc0abaabd0d464c7268d1f00cf504b954cf1178226"), looks := true }, kinds := [], alts := [], laidByText := true, laidKinds := [.data, .handle, .listed, .data, .pinned], laidTests := true, laidLooks := .later }
def ScopeSameUptoCardSaid : Prop := Claim7.holds Tryz.pinned (.plain (OpenSpec.upto scopeSameSpec)) scopeSameUptoCard

/-- THE SECOND FORM's CARD OF 'gumshoelaw05.ScopeNames'. -/
def scopeNamesUptoCard : Claim7 := { stood := { row := scopeNamesUptoRow, standIns := [], harness := (true, "cdafaaea5968544a6077badc0abaabd0d464c7268d1f00cf504b954cf1178226"), looks := true }, kinds := [], alts := [], laidByText := true, laidKinds := [.data, .handle, .listed, .data, .pinned], laidTests := true, laidLooks := .later }
def ScopeNamesUptoCardSaid : Prop := Claim7.holds Tryz.pinned (.plain (OpenSpec.upto scopeNamesSpec)) scopeNamesUptoCard

/-- THE SECOND FORM's CARD OF 'gumshoelaw05.ScopeLines'. -/
def scopeLinesUptoCard : Claim7 := { stood := { row := scopeLinesUptoRow, standIns := [], harness := (true, "cdafaaea5968544a6077badc0abaabd0d464c7268d1f00cf504b954cf1178226"), looks := true }, kinds := [], alts := [], laidByText := true, laidKinds := [.data, .handle, .listed, .data, .pinned], laidTests := true, laidLooks := .later }
def ScopeLinesUptoCardSaid : Prop := Claim7.holds Tryz.pinned (.plain (OpenSpec.upto scopeLinesSpec)) scopeLinesUptoCard

/-- THE SECOND FORM's CARD OF 'gumshoelaw05.ScopeRanges'. -/
def scopeRangesUptoCard : Claim7 := { stood := { row := scopeRangesUptoRow, standIns := [], harness := (true, "cdafaaea5968544a6077badc0abaabd0d464c7268d1f00cf504b954cf1178226"), looks := true }, kinds := [], alts := [], laidByText := true, laidKinds := [.data, .handle, .listed, .data, .pinned], laidTests := true, laidLooks := .later }
def ScopeRangesUptoCardSaid : Prop := Claim7.holds Tryz.pinned (.plain (OpenSpec.upto scopeRangesSpec)) scopeRangesUptoCard

/-- THE SECOND FORM's CARD OF 'gumshoelaw05.ScopeMany'. -/
def scopeManyUptoCard : Claim7 := { stood := { row := scopeManyUptoRow, standIns := [], harness := (true, "cdafaaea5968544a6077badc0abaabd0d464c7268d1f00cf504b954cf1178226"), looks := true }, kinds := [], alts := [], laidByText := true, laidKinds := [.data, .handle, .listed, .data, .pinned], laidTests := true, laidLooks := .later }
def ScopeManyUptoCardSaid : Prop := Claim7.holds Tryz.pinned (.plain (OpenSpec.upto scopeManySpec)) scopeManyUptoCard

/-- THE SECOND FORM's CARD OF 'gumshoelaw05.ScopeMarks'. -/
def scopeMarksUptoCard : Claim7 := { stood := { row := scopeMarksUptoRow, standIns := [], harness := (true, "cdafaaea5968544a6077badc0abaabd0d464c7268d1f00cf504b954cf1178226"), looks := true }, kinds := [], alts := [], laidByText := true, laidKinds := [.data, .handle, .listed, .data, .pinned], laidTests := true, laidLooks := .later }
def ScopeMarksUptoCardSaid : Prop := Claim7.holds Tryz.pinned (.plain (OpenSpec.upto scopeMarksSpec)) scopeMarksUptoCard

/-- THE SECOND FORM's CARD OF 'gumshoelaw12.RulesAll'. -/
def rulesAllUptoCard : Claim7 := { stood := { row := rulesAllUptoRow, standIns := [], harness := (true, "cdafaaea5968544a6077badc0abaabd0d464c7268d1f00cf504b954cf1178226"), looks := true }, kinds := [], alts := [], laidByText := true, laidKinds := [.data, .handle, .listed, .data, .pinned], laidTests := true, laidLooks := .later }
def RulesAllUptoCardSaid : Prop := Claim7.holds Tryz.pinned (.plain (OpenSpec.upto rulesAllSpec)) rulesAllUptoCard

/-- THE SECOND FORM's CARD OF 'gumshoelaw12.RulesTexts'. -/
def rulesTextsUptoCard : Claim7 := { stood := { row := rulesTextsUptoRow, standIns := [], harness := (true, "cdafaaea5968544a6077badc0abaabd0d464c7268d1f00cf504b954cf1178226"), looks := true }, kinds := [], alts := [], laidByText := true, laidKinds := [.data, .handle, .listed, .data, .pinned], laidTests := true, laidLooks := .later }
def RulesTextsUptoCardSaid : Prop := Claim7.holds Tryz.pinned (.plain (OpenSpec.upto rulesTextsSpec)) rulesTextsUptoCard

/-- THE SECOND FORM's CARD OF 'gumshoelaw12.RulesNames'. -/
def rulesNamesUptoCard : Claim7 := { stood := { row := rulesNamesUptoRow, standIns := [], harness := (true, "cdafaaea5968544a6077badc0abaabd0d464c7268d1f00cf504b954cf1178226"), looks := true }, kinds := [], alts := [], laidByText := true, laidKinds := [.data, .handle, .listed, .data, .pinned], laidTests := true, laidLooks := .later }
def RulesNamesUptoCardSaid : Prop := Claim7.holds Tryz.pinned (.plain (OpenSpec.upto rulesNamesSpec)) rulesNamesUptoCard

/-- THE SECOND FORM's CARD OF 'gumshoelaw12.RulesMore'. -/
def rulesMoreUptoCard : Claim7 := { stood := { row := rulesMoreUptoRow, standIns := [], harness := (true, "cdafaaea5968544a6077badc0abaabd0d464c7268d1f00cf504b954cf1178226"), looks := true }, kinds := [], alts := [], laidByText := true, laidKinds := [.data, .handle, .listed, .data, .pinned], laidTests := true, laidLooks := .later }
def RulesMoreUptoCardSaid : Prop := Claim7.holds Tryz.pinned (.plain (OpenSpec.upto rulesMoreSpec)) rulesMoreUptoCard

/-- THE SECOND FORM's CARD OF 'gumshoelaw12.RulesKinds'. -/
def rulesKindsUptoCard : Claim7 := { stood := { row := rulesKindsUptoRow, standIns := [], harness := (true, "cdafaaea5968544a6077badc0abaabd0d464c7268d1f00cf504b954cf1178226"), looks := true }, kinds := [], alts := [], laidByText := true, laidKinds := [.data, .handle, .listed, .data, .pinned], laidTests := true, laidLooks := .later }
def RulesKindsUptoCardSaid : Prop := Claim7.holds Tryz.pinned (.plain (OpenSpec.upto rulesKindsSpec)) rulesKindsUptoCard

/-- THE SECOND FORM's CARD OF 'gumshoelaw12.RulesVars'. -/
def rulesVarsUptoCard : Claim7 := { stood := { row := rulesVarsUptoRow, standIns := [], harness := (true, "cdafaaea5968544a6077badc0abaabd0d464c7268d1f00cf504b954cf1178226"), looks := true }, kinds := [], alts := [], laidByText := true, laidKinds := [.data, .handle, .listed, .data, .pinned], laidTests := true, laidLooks := .later }
def RulesVarsUptoCardSaid : Prop := Claim7.holds Tryz.pinned (.plain (OpenSpec.upto rulesVarsSpec)) rulesVarsUptoCard

/-- THE SECOND FORM's CARD OF 'gumshoelaw12.RulesRanges'. -/
def rulesRangesUptoCard : Claim7 := { stood := { row := rulesRangesUptoRow, standIns := [], harness := (true, "cdafaaea5968544a6077badc0abaabd0d464c7268d1f00cf504b954cf1178226"), looks := true }, kinds := [], alts := [], laidByText := true, laidKinds := [.data, .handle, .listed, .data, .pinned], laidTests := true, laidLooks := .later }
def RulesRangesUptoCardSaid : Prop := Claim7.holds Tryz.pinned (.plain (OpenSpec.upto rulesRangesSpec)) rulesRangesUptoCard
end Rows
end Go.Proofs.YtjehnhppfneidaaGreatDoor
