/-
  DERIVED. GIVEN WITH THE SEED: THE CARDS: each row of YtapkfblkghoknaaDoorRows.lean that lists a variable, with what it lists TIED to the program's text (the seventh form; the later family's looks); each row that meets fmt, with fmt's text TOLD by the authors' own Lean function (tested against real Go, not proved from fmt's source: count such statements apart). THE CARD IS WHAT COUNTS. Prove the row's statement (the work); the ties are given (YtapkfblkghoknaaDoorTie.lean); close each card by the builder's one call (the guide's Derived/Test/ToyasCard.lean, 'card_holds'). Laid BY PROGRAM, IN A SANDBOX (cutbox-door.mjs). By AI agents, Wed Nov 11 2026. No macro, syntax, notation, axiom, sorry.
-/
import Derived.Test.YtapkfblkghoknaaDoorRows
import GoSem.ClaimSeven
namespace Go.Proofs.YtapkfblkghoknaaDoor
namespace Rows

/-- THE TIED CARD OF 'backsteplaw02.LexerTokens'. -/
def lexerTokensCard : Claim7 := { stood := { row := lexerTokensRow, standIns := [], harness := (true, "5ce807328eda2e59c2445bc29fce5002b78b92bd540883f9873a18a907001f45"), looks := false }, kinds := [], alts := [], laidByText := true, laidKinds := [.listed, .data], laidTests := true, laidLooks := .later }
def LexerTokensCardSaid : Prop := Claim7.holds Tryd.pinned (.plain (OpenSpec.ofChange lexerTokensSpec)) lexerTokensCard

/-- THE TIED CARD OF 'backsteplaw02.LexerAlone'. -/
def lexerAloneCard : Claim7 := { stood := { row := lexerAloneRow, standIns := [], harness := (true, "5ce807328eda2e59c2445bc29fce5002b78b92bd540883f9873a18a907001f45"), looks := false }, kinds := [], alts := [], laidByText := true, laidKinds := [.listed, .data], laidTests := true, laidLooks := .later }
def LexerAloneCardSaid : Prop := Claim7.holds Tryd.pinned (.plain (OpenSpec.ofChange lexerAloneSpec)) lexerAloneCard

/-- THE TIED CARD OF 'backsteplaw02.LexerLongest'. -/
def lexerLongestCard : Claim7 := { stood := { row := lexerLongestRow, standIns := [], harness := (true, "5ce807328eda2e59c2445bc29fce5002b78b92bd540883f9873a18a907001f45"), looks := false }, kinds := [], alts := [], laidByText := true, laidKinds := [.listed, .data], laidTests := true, laidLooks := .later }
def LexerLongestCardSaid : Prop := Claim7.holds Tryd.pinned (.plain (OpenSpec.ofChange lexerLongestSpec)) lexerLongestCard

/-- THE TIED CARD OF 'backsteplaw02.LexerFull'. -/
def lexerFullCard : Claim7 := { stood := { row := lexerFullRow, standIns := [], harness := (true, "5ce807328eda2e59c2445bc29fce5002b78b92bd540883f9873a18a907001f45"), looks := false }, kinds := [], alts := [], laidByText := true, laidKinds := [.listed, .data], laidTests := true, laidLooks := .later }
def LexerFullCardSaid : Prop := Claim7.holds Tryd.pinned (.plain (OpenSpec.ofChange lexerFullSpec)) lexerFullCard

/-- THE TIED CARD OF 'backsteplaw02.LexerLines'. -/
def lexerLinesCard : Claim7 := { stood := { row := lexerLinesRow, standIns := [], harness := (true, "5ce807328eda2e59c2445bc29fce5002b78b92bd540883f9873a18a907001f45"), looks := false }, kinds := [], alts := [], laidByText := true, laidKinds := [.listed, .data], laidTests := true, laidLooks := .later }
def LexerLinesCardSaid : Prop := Claim7.holds Tryd.pinned (.plain (OpenSpec.ofChange lexerLinesSpec)) lexerLinesCard

/-- THE TIED CARD OF 'backsteplaw02.LexerNames'. -/
def lexerNamesCard : Claim7 := { stood := { row := lexerNamesRow, standIns := [], harness := (true, "5ce807328eda2e59c2445bc29fce5002b78b92bd540883f9873a18a907001f45"), looks := false }, kinds := [], alts := [], laidByText := true, laidKinds := [.listed, .data], laidTests := true, laidLooks := .later }
def LexerNamesCardSaid : Prop := Claim7.holds Tryd.pinned (.plain (OpenSpec.ofChange lexerNamesSpec)) lexerNamesCard

/-- THE TIED CARD OF 'backsteplaw02.LexerLossless'. -/
def lexerLosslessCard : Claim7 := { stood := { row := lexerLosslessRow, standIns := [], harness := (true, "5ce807328eda2e59c2445bc29fce5002b78b92bd540883f9873a18a907001f45"), looks := false }, kinds := [], alts := [], laidByText := true, laidKinds := [.listed, .data], laidTests := true, laidLooks := .later }
def LexerLosslessCardSaid : Prop := Claim7.holds Tryd.pinned (.plain (OpenSpec.ofChange lexerLosslessSpec)) lexerLosslessCard

/-- THE TIED CARD OF 'backsteplaw02.LexerError'. -/
def lexerErrorCard : Claim7 := { stood := { row := lexerErrorRow, standIns := [], harness := (true, "5ce807328eda2e59c2445bc29fce5002b78b92bd540883f9873a18a907001f45"), looks := false }, kinds := [], alts := [], laidByText := true, laidKinds := [.listed, .data], laidTests := true, laidLooks := .later }
def LexerErrorCardSaid : Prop := Claim7.holds Tryd.pinned (.plain (OpenSpec.ofChange lexerErrorSpec)) lexerErrorCard

/-- THE TIED CARD OF 'backsteplaw02.LexerSolid'. -/
def lexerSolidCard : Claim7 := { stood := { row := lexerSolidRow, standIns := [], harness := (true, "5ce807328eda2e59c2445bc29fce5002b78b92bd540883f9873a18a907001f45"), looks := false }, kinds := [], alts := [], laidByText := true, laidKinds := [.listed, .data], laidTests := true, laidLooks := .later }
def LexerSolidCardSaid : Prop := Claim7.holds Tryd.pinned (.plain (OpenSpec.ofChange lexerSolidSpec)) lexerSolidCard

/-- THE SECOND FORM's CARD OF 'backsteplaw02.LexerTokens'. -/
def lexerTokensUptoCard : Claim7 := { stood := { row := lexerTokensUptoRow, standIns := [], harness := (true, "5ce807328eda2e59c2445bc29fce5002b78b92bd540883f9873a18a907001f45"), looks := false }, kinds := [], alts := [], laidByText := true, laidKinds := [.listed, .data], laidTests := true, laidLooks := .later }
def LexerTokensUptoCardSaid : Prop := Claim7.holds Tryd.pinned (.plain (OpenSpec.upto lexerTokensSpec)) lexerTokensUptoCard

/-- THE SECOND FORM's CARD OF 'backsteplaw02.LexerAlone'. -/
def lexerAloneUptoCard : Claim7 := { stood := { row := lexerAloneUptoRow, standIns := [], harness := (true, "5ce807328eda2e59c2445bc29fce5002b78b92bd540883f9873a18a907001f45"), looks := false }, kinds := [], alts := [], laidByText := true, laidKinds := [.listed, .data], laidTests := true, laidLooks := .later }
def LexerAloneUptoCardSaid : Prop := Claim7.holds Tryd.pinned (.plain (OpenSpec.upto lexerAloneSpec)) lexerAloneUptoCard

/-- THE SECOND FORM's CARD OF 'backsteplaw02.LexerLongest'. -/
def lexerLongestUptoCard : Claim7 := { stood := { row := lexerLongestUptoRow, standIns := [], harness := (true, "5ce807328eda2e59c2445bc29fce5002b78b92bd540883f9873a18a907001f45"), looks := false }, kinds := [], alts := [], laidByText := true, laidKinds := [.listed, .data], laidTests := true, laidLooks := .later }
def LexerLongestUptoCardSaid : Prop := Claim7.holds Tryd.pinned (.plain (OpenSpec.upto lexerLongestSpec)) lexerLongestUptoCard

/-- THE SECOND FORM's CARD OF 'backsteplaw02.LexerFull'. -/
def lexerFullUptoCard : Claim7 := { stood := { row := lexerFullUptoRow, standIns := [], harness := (true, "5ce807328eda2e59c2445bc29fce5002b78b92bd540883f9873a18a907001f45"), looks := false }, kinds := [], alts := [], laidByText := true, laidKinds := [.listed, .data], laidTests := true, laidLooks := .later }
def LexerFullUptoCardSaid : Prop := Claim7.holds Tryd.pinned (.plain (OpenSpec.upto lexerFullSpec)) lexerFullUptoCard

/-- THE SECOND FORM's CARD OF 'backsteplaw02.LexerLines'. -/
def lexerLinesUptoCard : Claim7 := { stood := { row := lexerLinesUptoRow, standIns := [], harness := (true, "5ce807328eda2e59c2445bc29fce5002b78b92bd540883f9873a18a907001f45"), looks := false }, kinds := [], alts := [], laidByText := true, laidKinds := [.listed, .data], laidTests := true, laidLooks := .later }
def LexerLinesUptoCardSaid : Prop := Claim7.holds Tryd.pinned (.plain (OpenSpec.upto lexerLinesSpec)) lexerLinesUptoCard

/-- THE SECOND FORM's CARD OF 'backsteplaw02.LexerNames'. -/
def lexerNamesUptoCard : Claim7 := { stood := { row := lexerNamesUptoRow, standIns := [], harness := (true, "5ce807328eda2e59c2445bc29fce5002b78b92bd540883f9873a18a907001f45"), looks := false }, kinds := [], alts := [], laidByText := true, laidKinds := [.listed, .data], laidTests := true, laidLooks := .later }
def LexerNamesUptoCardSaid : Prop := Claim7.holds Tryd.pinned (.plain (OpenSpec.upto lexerNamesSpec)) lexerNamesUptoCard

/-- THE SECOND FORM's CARD OF 'backsteplaw02.LexerLossless'. -/
def lexerLosslessUptoCard : Claim7 := { stood := { row := lexerLosslessUptoRow, standIns := [], harness := (true, "5ce807328eda2e59c2445bc29fce5002b78b92bd540883f9873a18a907001f45"), looks := false }, kinds := [], alts := [], laidByText := true, laidKinds := [.listed, .data], laidTests := true, laidLooks := .later }
def LexerLosslessUptoCardSaid : Prop := Claim7.holds Tryd.pinned (.plain (OpenSpec.upto lexerLosslessSpec)) lexerLosslessUptoCard

/-- THE SECOND FORM's CARD OF 'backsteplaw02.LexerError'. -/
def lexerErrorUptoCard : Claim7 := { stood := { row := lexerErrorUptoRow, standIns := [], harness := (true, "5ce807328eda2e59c2445bc29fce5002b78b92bd540883f9873a18a907001f45"), looks := false }, kinds := [], alts := [], laidByText := true, laidKinds := [.listed, .data], laidTests := true, laidLooks := .later }
def LexerErrorUptoCardSaid : Prop := Claim7.holds Tryd.pinned (.plain (OpenSpec.upto lexerErrorSpec)) lexerErrorUptoCard

/-- THE SECOND FORM's CARD OF 'backsteplaw02.LexerSolid'. -/
def lexerSolidUptoCard : Claim7 := { stood := { row := lexerSolidUptoRow, standIns := [], harness := (true, "5ce807328eda2e59c2445bc29fce5002b78b92bd540883f9873a18a907001f45"), looks := false }, kinds := [], alts := [], laidByText := true, laidKinds := [.listed, .data], laidTests := true, laidLooks := .later }
def LexerSolidUptoCardSaid : Prop := Claim7.holds Tryd.pinned (.plain (OpenSpec.upto lexerSolidSpec)) lexerSolidUptoCard
end Rows
end Go.Proofs.YtapkfblkghoknaaDoor
