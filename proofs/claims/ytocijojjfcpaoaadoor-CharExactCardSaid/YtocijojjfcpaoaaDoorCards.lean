/-
  DERIVED. GIVEN WITH THE SEED: THE CARDS: each row of YtocijojjfcpaoaaDoorRows.lean that lists a variable, with what it lists TIED to the program's text (the seventh form; the later family's looks); each row that meets fmt, with fmt's text TOLD by the authors' own Lean function (tested against real Go, not proved from fmt's source: count such statements apart). THE CARD IS WHAT COUNTS. Prove the row's statement (the work); the ties are given (YtocijojjfcpaoaaDoorTie.lean); close each card by the builder's one call (the guide's Derived/Test/ToyasCard.lean, 'card_holds'). Laid BY PROGRAM, IN A SANDBOX (cutbox-door.mjs). By AI agents, Wed Nov 11 2026. No macro, syntax, notation, axiom, sorry.
-/
import Derived.Test.YtocijojjfcpaoaaDoorRows
import GoSem.ClaimSeven
namespace Go.Proofs.YtocijojjfcpaoaaDoor
namespace Rows

/-- THE TIED CARD OF 'colophonlaw02.WidthOf'. -/
def widthOfCard : Claim7 := { stood := { row := widthOfRow, standIns := [], harness := (true, "6868f80108e2666809e255d344a97149b6d9639f1382b69298ebccef0bc6bca8"), looks := false }, kinds := [], alts := [], laidByText := true, laidKinds := [.data, .data], laidTests := true, laidLooks := .later }
def WidthOfCardSaid : Prop := Claim7.holds Tryd.pinned (.plain (OpenSpec.ofChange widthOfSpec)) widthOfCard

/-- THE TIED CARD OF 'colophonlaw02.WidthTable'. -/
def widthTableCard : Claim7 := { stood := { row := widthTableRow, standIns := [], harness := (true, "6868f80108e2666809e255d344a97149b6d9639f1382b69298ebccef0bc6bca8"), looks := false }, kinds := [], alts := [], laidByText := true, laidKinds := [.data, .data], laidTests := true, laidLooks := .later }
def WidthTableCardSaid : Prop := Claim7.holds Tryd.pinned (.plain (OpenSpec.ofChange widthTableSpec)) widthTableCard

/-- THE TIED CARD OF 'colophonlaw02.WidthTexts'. -/
def widthTextsCard : Claim7 := { stood := { row := widthTextsRow, standIns := [], harness := (true, "6868f80108e2666809e255d344a97149b6d9639f1382b69298ebccef0bc6bca8"), looks := false }, kinds := [], alts := [], laidByText := true, laidKinds := [.data, .data], laidTests := true, laidLooks := .later }
def WidthTextsCardSaid : Prop := Claim7.holds Tryd.pinned (.plain (OpenSpec.ofChange widthTextsSpec)) widthTextsCard

/-- THE TIED CARD OF 'colophonlaw02.WidthCuts'. -/
def widthCutsCard : Claim7 := { stood := { row := widthCutsRow, standIns := [], harness := (true, "6868f80108e2666809e255d344a97149b6d9639f1382b69298ebccef0bc6bca8"), looks := false }, kinds := [], alts := [], laidByText := true, laidKinds := [.data, .data, .data, .pinned], laidTests := true, laidLooks := .later }
def WidthCutsCardSaid : Prop := Claim7.holds Tryd.pinned (.plain (OpenSpec.ofChange widthCutsSpec)) widthCutsCard

/-- THE TIED CARD OF 'colophonlaw01.CharJoined'. -/
def charJoinedCard : Claim7 := { stood := { row := charJoinedRow, standIns := [], harness := (true, "6868f80108e2666809e255d344a97149b6d9639f1382b69298ebccef0bc6bca8"), looks := false }, kinds := [], alts := [], laidByText := true, laidKinds := [.data, .pinned], laidTests := true, laidLooks := .later }
def CharJoinedCardSaid : Prop := Claim7.holds Tryd.pinned (.plain (OpenSpec.ofChange charJoinedSpec)) charJoinedCard

/-- THE TIED CARD OF 'colophonlaw04.ClassKeys'. -/
def classKeysCard : Claim7 := { stood := { row := classKeysRow, standIns := [], harness := (true, "6868f80108e2666809e255d344a97149b6d9639f1382b69298ebccef0bc6bca8"), looks := false }, kinds := [], alts := [], laidByText := true, laidKinds := [.data, .data, .data, .pinned], laidTests := true, laidLooks := .later }
def ClassKeysCardSaid : Prop := Claim7.holds Tryd.pinned (.plain (OpenSpec.ofChange classKeysSpec)) classKeysCard

/-- THE TIED CARD OF 'colophonlaw04.ClassPoint'. -/
def classPointCard : Claim7 := { stood := { row := classPointRow, standIns := [], harness := (true, "6868f80108e2666809e255d344a97149b6d9639f1382b69298ebccef0bc6bca8"), looks := false }, kinds := [], alts := [], laidByText := true, laidKinds := [.data, .data, .data, .pinned], laidTests := true, laidLooks := .later }
def ClassPointCardSaid : Prop := Claim7.holds Tryd.pinned (.plain (OpenSpec.ofChange classPointSpec)) classPointCard

/-- THE TIED CARD OF 'colophonlaw04.ClassTexts'. -/
def classTextsCard : Claim7 := { stood := { row := classTextsRow, standIns := [], harness := (true, "6868f80108e2666809e255d344a97149b6d9639f1382b69298ebccef0bc6bca8"), looks := false }, kinds := [], alts := [], laidByText := true, laidKinds := [.data, .data, .data, .pinned], laidTests := true, laidLooks := .later }
def ClassTextsCardSaid : Prop := Claim7.holds Tryd.pinned (.plain (OpenSpec.ofChange classTextsSpec)) classTextsCard

/-- THE TIED CARD OF 'colophonlaw04.ClassSigns'. -/
def classSignsCard : Claim7 := { stood := { row := classSignsRow, standIns := [], harness := (true, "6868f80108e2666809e255d344a97149b6d9639f1382b69298ebccef0bc6bca8"), looks := false }, kinds := [], alts := [], laidByText := true, laidKinds := [.data, .data, .data, .pinned], laidTests := true, laidLooks := .later }
def ClassSignsCardSaid : Prop := Claim7.holds Tryd.pinned (.plain (OpenSpec.ofChange classSignsSpec)) classSignsCard

/-- THE TIED CARD OF 'colophonlaw01.CharRange'. -/
def charRangeCard : Claim7 := { stood := { row := charRangeRow, standIns := [], harness := (true, "6868f80108e2666809e255d344a97149b6d9639f1382b69298ebccef0bc6bca8"), looks := false }, kinds := [], alts := [], laidByText := true, laidKinds := [.data, .pinned], laidTests := true, laidLooks := .later }
def CharRangeCardSaid : Prop := Claim7.holds Tryd.pinned (.plain (OpenSpec.ofChange charRangeSpec)) charRangeCard

/-- THE TIED CARD OF 'colophonlaw04.ClassTable'. -/
def classTableCard : Claim7 := { stood := { row := classTableRow, standIns := [], harness := (true, "6868f80108e2666809e255d344a97149b6d9639f1382b69298ebccef0bc6bca8"), looks := false }, kinds := [], alts := [], laidByText := true, laidKinds := [.data, .data, .data, .data, .data, .pinned], laidTests := true, laidLooks := .later }
def ClassTableCardSaid : Prop := Claim7.holds Tryd.pinned (.plain (OpenSpec.ofChange classTableSpec)) classTableCard

/-- THE TIED CARD OF 'colophonlaw01.CharBack'. -/
def charBackCard : Claim7 := { stood := { row := charBackRow, standIns := [], harness := (true, "6868f80108e2666809e255d344a97149b6d9639f1382b69298ebccef0bc6bca8"), looks := false }, kinds := [], alts := [], laidByText := true, laidKinds := [.data, .pinned], laidTests := true, laidLooks := .later }
def CharBackCardSaid : Prop := Claim7.holds Tryd.pinned (.plain (OpenSpec.ofChange charBackSpec)) charBackCard

/-- THE TIED CARD OF 'colophonlaw04.ClassNames'. -/
def classNamesCard : Claim7 := { stood := { row := classNamesRow, standIns := [], harness := (true, "6868f80108e2666809e255d344a97149b6d9639f1382b69298ebccef0bc6bca8"), looks := false }, kinds := [], alts := [], laidByText := true, laidKinds := [.data, .data, .data, .data, .data, .pinned], laidTests := true, laidLooks := .later }
def ClassNamesCardSaid : Prop := Claim7.holds Tryd.pinned (.plain (OpenSpec.ofChange classNamesSpec)) classNamesCard

/-- THE TIED CARD OF 'colophonlaw01.CharSteps'. -/
def charStepsCard : Claim7 := { stood := { row := charStepsRow, standIns := [], harness := (true, "6868f80108e2666809e255d344a97149b6d9639f1382b69298ebccef0bc6bca8"), looks := false }, kinds := [], alts := [], laidByText := true, laidKinds := [.data, .pinned], laidTests := true, laidLooks := .later }
def CharStepsCardSaid : Prop := Claim7.holds Tryd.pinned (.plain (OpenSpec.ofChange charStepsSpec)) charStepsCard

/-- THE TIED CARD OF 'colophonlaw01.CharExact'. -/
def charExactCard : Claim7 := { stood := { row := charExactRow, standIns := [], harness := (true, "6868f80108e2666809e255d344a97149b6d9639f1382b69298ebccef0bc6bca8"), looks := false }, kinds := [], alts := [], laidByText := true, laidKinds := [.data, .pinned], laidTests := true, laidLooks := .later }
def CharExactCardSaid : Prop := Claim7.holds Tryd.pinned (.plain (OpenSpec.ofChange charExactSpec)) charExactCard

/-- THE SECOND FORM's CARD OF 'colophonlaw02.WidthOf'. -/
def widthOfUptoCard : Claim7 := { stood := { row := widthOfUptoRow, standIns := [], harness := (true, "6868f80108e2666809e255d344a97149b6d9639f1382b69298ebccef0bc6bca8"), looks := false }, kinds := [], alts := [], laidByText := true, laidKinds := [.data, .data], laidTests := true, laidLooks := .later }
def WidthOfUptoCardSaid : Prop := Claim7.holds Tryd.pinned (.plain (OpenSpec.upto widthOfSpec)) widthOfUptoCard

/-- THE SECOND FORM's CARD OF 'colophonlaw02.WidthTable'. -/
def widthTableUptoCard : Claim7 := { stood := { row := widthTableUptoRow, standIns := [], harness := (true, "6868f80108e2666809e255d344a97149b6d9639f1382b69298ebccef0bc6bca8"), looks := false }, kinds := [], alts := [], laidByText := true, laidKinds := [.data, .data], laidTests := true, laidLooks := .later }
def WidthTableUptoCardSaid : Prop := Claim7.holds Tryd.pinned (.plain (OpenSpec.upto widthTableSpec)) widthTableUptoCard

/-- THE SECOND FORM's CARD OF 'colophonlaw02.WidthTexts'. -/
def widthTextsUptoCard : Claim7 := { stood := { row := widthTextsUptoRow, standIns := [], harness := (true, "6868f80108e2666809e255d344a97149b6d9639f1382b69298ebccef0bc6bca8"), looks := false }, kinds := [], alts := [], laidByText := true, laidKinds := [.data, .data], laidTests := true, laidLooks := .later }
def WidthTextsUptoCardSaid : Prop := Claim7.holds Tryd.pinned (.plain (OpenSpec.upto widthTextsSpec)) widthTextsUptoCard

/-- THE SECOND FORM's CARD OF 'colophonlaw02.WidthCuts'. -/
def widthCutsUptoCard : Claim7 := { stood := { row := widthCutsUptoRow, standIns := [], harness := (true, "6868f80108e2666809e255d344a97149b6d9639f1382b69298ebccef0bc6bca8"), looks := false }, kinds := [], alts := [], laidByText := true, laidKinds := [.data, .data, .data, .pinned], laidTests := true, laidLooks := .later }
def WidthCutsUptoCardSaid : Prop := Claim7.holds Tryd.pinned (.plain (OpenSpec.upto widthCutsSpec)) widthCutsUptoCard

/-- THE SECOND FORM's CARD OF 'colophonlaw01.CharJoined'. -/
def charJoinedUptoCard : Claim7 := { stood := { row := charJoinedUptoRow, standIns := [], harness := (true, "6868f80108e2666809e255d344a97149b6d9639f1382b69298ebccef0bc6bca8"), looks := false }, kinds := [], alts := [], laidByText := true, laidKinds := [.data, .pinned], laidTests := true, laidLooks := .later }
def CharJoinedUptoCardSaid : Prop := Claim7.holds Tryd.pinned (.plain (OpenSpec.upto charJoinedSpec)) charJoinedUptoCard

/-- THE SECOND FORM's CARD OF 'colophonlaw04.ClassKeys'. -/
def classKeysUptoCard : Claim7 := { stood := { row := classKeysUptoRow, standIns := [], harness := (true, "6868f80108e2666809e255d344a97149b6d9639f1382b69298ebccef0bc6bca8"), looks := false }, kinds := [], alts := [], laidByText := true, laidKinds := [.data, .data, .data, .pinned], laidTests := true, laidLooks := .later }
def ClassKeysUptoCardSaid : Prop := Claim7.holds Tryd.pinned (.plain (OpenSpec.upto classKeysSpec)) classKeysUptoCard

/-- THE SECOND FORM's CARD OF 'colophonlaw04.ClassPoint'. -/
def classPointUptoCard : Claim7 := { stood := { row := classPointUptoRow, standIns := [], harness := (true, "6868f80108e2666809e255d344a97149b6d9639f1382b69298ebccef0bc6bca8"), looks := false }, kinds := [], alts := [], laidByText := true, laidKinds := [.data, .data, .data, .pinned], laidTests := true, laidLooks := .later }
def ClassPointUptoCardSaid : Prop := Claim7.holds Tryd.pinned (.plain (OpenSpec.upto classPointSpec)) classPointUptoCard

/-- THE SECOND FORM's CARD OF 'colophonlaw04.ClassTexts'. -/
def classTextsUptoCard : Claim7 := { stood := { row := classTextsUptoRow, standIns := [], harness := (true, "6868f80108e2666809e255d344a97149b6d9639f1382b69298ebccef0bc6bca8"), looks := false }, kinds := [], alts := [], laidByText := true, laidKinds := [.data, .data, .data, .pinned], laidTests := true, laidLooks := .later }
def ClassTextsUptoCardSaid : Prop := Claim7.holds Tryd.pinned (.plain (OpenSpec.upto classTextsSpec)) classTextsUptoCard

/-- THE SECOND FORM's CARD OF 'colophonlaw04.ClassSigns'. -/
def classSignsUptoCard : Claim7 := { stood := { row := classSignsUptoRow, standIns := [], harness := (true, "6868f80108e2666809e255d344a97149b6d9639f1382b69298ebccef0bc6bca8"), looks := false }, kinds := [], alts := [], laidByText := true, laidKinds := [.data, .data, .data, .pinned], laidTests := true, laidLooks := .later }
def ClassSignsUptoCardSaid : Prop := Claim7.holds Tryd.pinned (.plain (OpenSpec.upto classSignsSpec)) classSignsUptoCard

/-- THE SECOND FORM's CARD OF 'colophonlaw01.CharRange'. -/
def charRangeUptoCard : Claim7 := { stood := { row := charRangeUptoRow, standIns := [], harness := (true, "6868f80108e2666809e255d344a97149b6d9639f1382b69298ebccef0bc6bca8"), looks := false }, kinds := [], alts := [], laidByText := true, laidKinds := [.data, .pinned], laidTests := true, laidLooks := .later }
def CharRangeUptoCardSaid : Prop := Claim7.holds Tryd.pinned (.plain (OpenSpec.upto charRangeSpec)) charRangeUptoCard

/-- THE SECOND FORM's CARD OF 'colophonlaw04.ClassTable'. -/
def classTableUptoCard : Claim7 := { stood := { row := classTableUptoRow, standIns := [], harness := (true, "6868f80108e2666809e255d344a97149b6d9639f1382b69298ebccef0bc6bca8"), looks := false }, kinds := [], alts := [], laidByText := true, laidKinds := [.data, .data, .data, .data, .data, .pinned], laidTests := true, laidLooks := .later }
def ClassTableUptoCardSaid : Prop := Claim7.holds Tryd.pinned (.plain (OpenSpec.upto classTableSpec)) classTableUptoCard

/-- THE SECOND FORM's CARD OF 'colophonlaw01.CharBack'. -/
def charBackUptoCard : Claim7 := { stood := { row := charBackUptoRow, standIns := [], harness := (true, "6868f80108e2666809e255d344a97149b6d9639f1382b69298ebccef0bc6bca8"), looks := false }, kinds := [], alts := [], laidByText := true, laidKinds := [.data, .pinned], laidTests := true, laidLooks := .later }
def CharBackUptoCardSaid : Prop := Claim7.holds Tryd.pinned (.plain (OpenSpec.upto charBackSpec)) charBackUptoCard

/-- THE SECOND FORM's CARD OF 'colophonlaw04.ClassNames'. -/
def classNamesUptoCard : Claim7 := { stood := { row := classNamesUptoRow, standIns := [], harness := (true, "6868f80108e2666809e255d344a97149b6d9639f1382b69298ebccef0bc6bca8"), looks := false }, kinds := [], alts := [], laidByText := true, laidKinds := [.data, .data, .data, .data, .data, .pinned], laidTests := true, laidLooks := .later }
def ClassNamesUptoCardSaid : Prop := Claim7.holds Tryd.pinned (.plain (OpenSpec.upto classNamesSpec)) classNamesUptoCard

/-- THE SECOND FORM's CARD OF 'colophonlaw01.CharSteps'. -/
def charStepsUptoCard : Claim7 := { stood := { row := charStepsUptoRow, standIns := [], harness := (true, "6868f80108e2666809e255d344a97149b6d9639f1382b69298ebccef0bc6bca8"), looks := false }, kinds := [], alts := [], laidByText := true, laidKinds := [.data, .pinned], laidTests := true, laidLooks := .later }
def CharStepsUptoCardSaid : Prop := Claim7.holds Tryd.pinned (.plain (OpenSpec.upto charStepsSpec)) charStepsUptoCard

/-- THE SECOND FORM's CARD OF 'colophonlaw01.CharExact'. -/
def charExactUptoCard : Claim7 := { stood := { row := charExactUptoRow, standIns := [], harness := (true, "6868f80108e2666809e255d344a97149b6d9639f1382b69298ebccef0bc6bca8"), looks := false }, kinds := [], alts := [], laidByText := true, laidKinds := [.data, .pinned], laidTests := true, laidLooks := .later }
def CharExactUptoCardSaid : Prop := Claim7.holds Tryd.pinned (.plain (OpenSpec.upto charExactSpec)) charExactUptoCard
end Rows
end Go.Proofs.YtocijojjfcpaoaaDoor
