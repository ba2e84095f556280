/-
  DERIVED. GIVEN WITH THE SEED: THE CARDS: each row of YtafndbmjohhhpaaDoorRows.lean that lists a variable, with what it lists TIED to the program's text (the seventh form; the later family's looks); each row that meets fmt, with fmt's text TOLD by the authors' own Lean function (tested against real Go, not proved from fmt's source: count such statements apart). THE CARD IS WHAT COUNTS. Prove the row's statement (the work); the ties are given (YtafndbmjohhhpaaDoorTie.lean); close each card by the builder's one call (the guide's Derived/Test/ToyasCard.lean, 'card_holds'). Laid BY PROGRAM, IN A SANDBOX (cutbox-door.mjs). By AI agents, Wed Nov 11 2026. No macro, syntax, notation, axiom, sorry.
-/
import Derived.Test.YtafndbmjohhhpaaDoorRows
import GoSem.ClaimSeven
namespace Go.Proofs.YtafndbmjohhhpaaDoor
namespace Rows

/-- THE TIED CARD OF 'dreytop.WholeTokens'. -/
def wholeTokensCard : Claim7 := { stood := { row := wholeTokensRow, standIns := [], harness := (true, "d8fe0da081dc35702a061c9f61ec8ff379275d73ee4a17d79cce6ca915a4448a"), looks := false }, kinds := [], alts := [], laidByText := true, laidKinds := [.data, .pinned], laidTests := true, laidLooks := .later }
def WholeTokensCardSaid : Prop := Claim7.holds Tryd.pinned (.plain (OpenSpec.ofChange wholeTokensSpec)) wholeTokensCard

/-- THE TIED CARD OF 'dreylaw08.LexScans'. -/
def lexScansCard : Claim7 := { stood := { row := lexScansRow, standIns := [], harness := (true, "d8fe0da081dc35702a061c9f61ec8ff379275d73ee4a17d79cce6ca915a4448a"), looks := false }, kinds := [], alts := [], laidByText := true, laidKinds := [.data, .pinned], laidTests := true, laidLooks := .later }
def LexScansCardSaid : Prop := Claim7.holds Tryd.pinned (.plain (OpenSpec.ofChange lexScansSpec)) lexScansCard

/-- THE TIED CARD OF 'dreylaw08.LexWhole'. -/
def lexWholeCard : Claim7 := { stood := { row := lexWholeRow, standIns := [], harness := (true, "d8fe0da081dc35702a061c9f61ec8ff379275d73ee4a17d79cce6ca915a4448a"), looks := false }, kinds := [], alts := [], laidByText := true, laidKinds := [.data, .pinned], laidTests := true, laidLooks := .later }
def LexWholeCardSaid : Prop := Claim7.holds Tryd.pinned (.plain (OpenSpec.ofChange lexWholeSpec)) lexWholeCard

/-- THE TIED CARD OF 'dreylaw08.LexWords'. -/
def lexWordsCard : Claim7 := { stood := { row := lexWordsRow, standIns := [], harness := (true, "d8fe0da081dc35702a061c9f61ec8ff379275d73ee4a17d79cce6ca915a4448a"), looks := false }, kinds := [], alts := [], laidByText := true, laidKinds := [.data, .pinned], laidTests := true, laidLooks := .later }
def LexWordsCardSaid : Prop := Claim7.holds Tryd.pinned (.plain (OpenSpec.ofChange lexWordsSpec)) lexWordsCard

/-- THE TIED CARD OF 'dreylaw08.LexBack'. -/
def lexBackCard : Claim7 := { stood := { row := lexBackRow, standIns := [], harness := (true, "d8fe0da081dc35702a061c9f61ec8ff379275d73ee4a17d79cce6ca915a4448a"), looks := false }, kinds := [], alts := [], laidByText := true, laidKinds := [.data, .pinned], laidTests := true, laidLooks := .later }
def LexBackCardSaid : Prop := Claim7.holds Tryd.pinned (.plain (OpenSpec.ofChange lexBackSpec)) lexBackCard

/-- THE TIED CARD OF 'dreylaw08.LexPairs'. -/
def lexPairsCard : Claim7 := { stood := { row := lexPairsRow, standIns := [], harness := (true, "d8fe0da081dc35702a061c9f61ec8ff379275d73ee4a17d79cce6ca915a4448a"), looks := false }, kinds := [], alts := [], laidByText := true, laidKinds := [.data, .pinned], laidTests := true, laidLooks := .later }
def LexPairsCardSaid : Prop := Claim7.holds Tryd.pinned (.plain (OpenSpec.ofChange lexPairsSpec)) lexPairsCard

/-- THE TIED CARD OF 'dreylaw08.LexGreat'. -/
def lexGreatCard : Claim7 := { stood := { row := lexGreatRow, standIns := [], harness := (true, "d8fe0da081dc35702a061c9f61ec8ff379275d73ee4a17d79cce6ca915a4448a"), looks := false }, kinds := [], alts := [], laidByText := true, laidKinds := [.data, .pinned], laidTests := true, laidLooks := .later }
def LexGreatCardSaid : Prop := Claim7.holds Tryd.pinned (.plain (OpenSpec.ofChange lexGreatSpec)) lexGreatCard

/-- THE SECOND FORM's CARD OF 'dreytop.WholeTokens'. -/
def wholeTokensUptoCard : Claim7 := { stood := { row := wholeTokensUptoRow, standIns := [], harness := (true, "d8fe0da081dc35702a061c9f61ec8ff379275d73ee4a17d79cce6ca915a4448a"), looks := false }, kinds := [], alts := [], laidByText := true, laidKinds := [.data, .pinned], laidTests := true, laidLooks := .later }
def WholeTokensUptoCardSaid : Prop := Claim7.holds Tryd.pinned (.plain (OpenSpec.upto wholeTokensSpec)) wholeTokensUptoCard

/-- THE SECOND FORM's CARD OF 'dreylaw08.LexScans'. -/
def lexScansUptoCard : Claim7 := { stood := { row := lexScansUptoRow, standIns := [], harness := (true, "d8fe0da081dc35702a061c9f61ec8ff379275d73ee4a17d79cce6ca915a4448a"), looks := false }, kinds := [], alts := [], laidByText := true, laidKinds := [.data, .pinned], laidTests := true, laidLooks := .later }
def LexScansUptoCardSaid : Prop := Claim7.holds Tryd.pinned (.plain (OpenSpec.upto lexScansSpec)) lexScansUptoCard

/-- THE SECOND FORM's CARD OF 'dreylaw08.LexWhole'. -/
def lexWholeUptoCard : Claim7 := { stood := { row := lexWholeUptoRow, standIns := [], harness := (true, "d8fe0da081dc35702a061c9f61ec8ff379275d73ee4a17d79cce6ca915a4448a"), looks := false }, kinds := [], alts := [], laidByText := true, laidKinds := [.data, .pinned], laidTests := true, laidLooks := .later }
def LexWholeUptoCardSaid : Prop := Claim7.holds Tryd.pinned (.plain (OpenSpec.upto lexWholeSpec)) lexWholeUptoCard

/-- THE SECOND FORM's CARD OF 'dreylaw08.LexWords'. -/
def lexWordsUptoCard : Claim7 := { stood := { row := lexWordsUptoRow, standIns := [], harness := (true, "d8fe0da081dc35702a061c9f61ec8ff379275d73ee4a17d79cce6ca915a4448a"), looks := false }, kinds := [], alts := [], laidByText := true, laidKinds := [.data, .pinned], laidTests := true, laidLooks := .later }
def LexWordsUptoCardSaid : Prop := Claim7.holds Tryd.pinned (.plain (OpenSpec.upto lexWordsSpec)) lexWordsUptoCard

/-- THE SECOND FORM's CARD OF 'dreylaw08.LexBack'. -/
def lexBackUptoCard : Claim7 := { stood := { row := lexBackUptoRow, standIns := [], harness := (true, "d8fe0da081dc35702a061c9f61ec8ff379275d73ee4a17d79cce6ca915a4448a"), looks := false }, kinds := [], alts := [], laidByText := true, laidKinds := [.data, .pinned], laidTests := true, laidLooks := .later }
def LexBackUptoCardSaid : Prop := Claim7.holds Tryd.pinned (.plain (OpenSpec.upto lexBackSpec)) lexBackUptoCard

/-- THE SECOND FORM's CARD OF 'dreylaw08.LexPairs'. -/
def lexPairsUptoCard : Claim7 := { stood := { row := lexPairsUptoRow, standIns := [], harness := (true, "d8fe0da081dc35702a061c9f61ec8ff379275d73ee4a17d79cce6ca915a4448a"), looks := false }, kinds := [], alts := [], laidByText := true, laidKinds := [.data, .pinned], laidTests := true, laidLooks := .later }
def LexPairsUptoCardSaid : Prop := Claim7.holds Tryd.pinned (.plain (OpenSpec.upto lexPairsSpec)) lexPairsUptoCard

/-- THE SECOND FORM's CARD OF 'dreylaw08.LexGreat'. -/
def lexGreatUptoCard : Claim7 := { stood := { row := lexGreatUptoRow, standIns := [], harness := (true, "d8fe0da081dc35702a061c9f61ec8ff379275d73ee4a17d79cce6ca915a4448a"), looks := false }, kinds := [], alts := [], laidByText := true, laidKinds := [.data, .pinned], laidTests := true, laidLooks := .later }
def LexGreatUptoCardSaid : Prop := Claim7.holds Tryd.pinned (.plain (OpenSpec.upto lexGreatSpec)) lexGreatUptoCard
end Rows
end Go.Proofs.YtafndbmjohhhpaaDoor
