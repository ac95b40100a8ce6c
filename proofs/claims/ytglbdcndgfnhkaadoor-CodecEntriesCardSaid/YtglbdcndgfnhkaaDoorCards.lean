/-
  DERIVED. GIVEN WITH THE SEED: THE CARDS: each row of YtglbdcndgfnhkaaDoorRows.lean that lists a variable, with what it lists TIED to the program's text (the seventh form; the later family's looks); each row that meets fmt, with fmt's text TOLD by the authors' own Lean function (tested against real Go, not proved from fmt's source: count such statements apart). THE CARD IS WHAT COUNTS. Prove the row's statement (the work); the ties are given (YtglbdcndgfnhkaaDoorTie.lean); close each card by the builder's one call (the guide's Derived/Test/ToyasCard.lean, 'card_holds'). Laid BY PROGRAM, IN A SANDBOX (cutbox-door.mjs). By AI agents, Wed Nov 11 2026. No macro, syntax, notation, axiom, sorry.
-/
import Derived.Test.YtglbdcndgfnhkaaDoorRows
import GoSem.ClaimSeven
namespace Go.Proofs.YtglbdcndgfnhkaaDoor
namespace Rows

/-- THE TIED CARD OF 'mailcoachlaw21.CodecEntries'. -/
def codecEntriesCard : Claim7 := { stood := { row := codecEntriesRow, standIns := [], harness := (true, "f5b11b23337738d64fda81e050e239e73fc88bb2d7ec77e50549d87a71381f84"), looks := true }, kinds := [], alts := [], laidByText := true, laidKinds := [.data, .pinned], laidTests := true, laidLooks := .later }
def CodecEntriesCardSaid : Prop := Claim7.holds Tryd.pinned (.plain (OpenSpec.ofChange codecEntriesSpec)) codecEntriesCard

/-- THE TIED CARD OF 'mailcoachlaw21.CodecBack'. -/
def codecBackCard : Claim7 := { stood := { row := codecBackRow, standIns := [], harness := (true, "f5b11b23337738d64fda81e050e239e73fc88bb2d7ec77e50549d87a71381f84"), looks := true }, kinds := [], alts := [], laidByText := true, laidKinds := [.data, .pinned], laidTests := true, laidLooks := .later }
def CodecBackCardSaid : Prop := Claim7.holds Tryd.pinned (.plain (OpenSpec.ofChange codecBackSpec)) codecBackCard

/-- THE TIED CARD OF 'mailcoachlaw21.CodecOne'. -/
def codecOneCard : Claim7 := { stood := { row := codecOneRow, standIns := [], harness := (true, "f5b11b23337738d64fda81e050e239e73fc88bb2d7ec77e50549d87a71381f84"), looks := true }, kinds := [], alts := [], laidByText := true, laidKinds := [.data, .pinned], laidTests := true, laidLooks := .later }
def CodecOneCardSaid : Prop := Claim7.holds Tryd.pinned (.plain (OpenSpec.ofChange codecOneSpec)) codecOneCard

/-- THE TIED CARD OF 'mailcoachlaw21.CodecCut'. -/
def codecCutCard : Claim7 := { stood := { row := codecCutRow, standIns := [], harness := (true, "f5b11b23337738d64fda81e050e239e73fc88bb2d7ec77e50549d87a71381f84"), looks := true }, kinds := [], alts := [], laidByText := true, laidKinds := [.data, .pinned], laidTests := true, laidLooks := .later }
def CodecCutCardSaid : Prop := Claim7.holds Tryd.pinned (.plain (OpenSpec.ofChange codecCutSpec)) codecCutCard

/-- THE SECOND FORM's CARD OF 'mailcoachlaw21.CodecEntries'. -/
def codecEntriesUptoCard : Claim7 := { stood := { row := codecEntriesUptoRow, standIns := [], harness := (true, "f5b11b23337738d64fda81e050e239e73fc88bb2d7ec77e50549d87a71381f84"), looks := true }, kinds := [], alts := [], laidByText := true, laidKinds := [.data, .pinned], laidTests := true, laidLooks := .later }
def CodecEntriesUptoCardSaid : Prop := Claim7.holds Tryd.pinned (.plain (OpenSpec.upto codecEntriesSpec)) codecEntriesUptoCard

/-- THE SECOND FORM's CARD OF 'mailcoachlaw21.CodecBack'. -/
def codecBackUptoCard : Claim7 := { stood := { row := codecBackUptoRow, standIns := [], harness := (true, "f5b11b23337738d64fda81e050e239e73fc88bb2d7ec77e50549d87a71381f84"), looks := true }, kinds := [], alts := [], laidByText := true, laidKinds := [.data, .pinned], laidTests := true, laidLooks := .later }
def CodecBackUptoCardSaid : Prop := Claim7.holds Tryd.pinned (.plain (OpenSpec.upto codecBackSpec)) codecBackUptoCard

/-- THE SECOND FORM's CARD OF 'mailcoachlaw21.CodecOne'. -/
def codecOneUptoCard : Claim7 := { stood := { row := codecOneUptoRow, standIns := [], harness := (true, "f5b11b23337738d64fda81e050e239e73fc88bb2d7ec77e50549d87a71381f84"), looks := true }, kinds := [], alts := [], laidByText := true, laidKinds := [.data, .pinned], laidTests := true, laidLooks := .later }
def CodecOneUptoCardSaid : Prop := Claim7.holds Tryd.pinned (.plain (OpenSpec.upto codecOneSpec)) codecOneUptoCard

/-- THE SECOND FORM's CARD OF 'mailcoachlaw21.CodecCut'. -/
def codecCutUptoCard : Claim7 := { stood := { row := codecCutUptoRow, standIns := [], harness := (true, "f5b11b23337738d64fda81e050e239e73fc88bb2d7ec77e50549d87a71381f84"), looks := true }, kinds := [], alts := [], laidByText := true, laidKinds := [.data, .pinned], laidTests := true, laidLooks := .later }
def CodecCutUptoCardSaid : Prop := Claim7.holds Tryd.pinned (.plain (OpenSpec.upto codecCutSpec)) codecCutUptoCard
end Rows
end Go.Proofs.YtglbdcndgfnhkaaDoor
