/-
  DERIVED. GIVEN WITH THE SEED: THE CARDS: each row of YtfoijdahgkngpaaDoorRows.lean that lists a variable, with what it lists TIED to the program's text (the seventh form; the later family's looks); each row that meets fmt, with fmt's text TOLD by the authors' own Lean function (tested against real Go, not proved from fmt's source: count such statements apart). THE CARD IS WHAT COUNTS. Prove the row's statement (the work); the ties are given (YtfoijdahgkngpaaDoorTie.lean); close each card by the builder's one call (the guide's Derived/Test/ToyasCard.lean, 'card_holds'). Laid BY PROGRAM, IN A SANDBOX (cutbox-door.mjs). By AI agents, Wed Nov 11 2026. No macro, syntax, notation, axiom, sorry.
-/
import Derived.Test.YtfoijdahgkngpaaDoorRows
import GoSem.ClaimSeven
namespace Go.Proofs.YtfoijdahgkngpaaDoor
namespace Rows

/-- THE TIED CARD OF 'verbatimlaw17.LexerTells'. -/
def lexerTellsCard : Claim7 := { stood := { row := lexerTellsRow, standIns := [], harness := (true, "355dae14e51335a2be6b57bb983d6ee743965cc7c7b06d6fae671729b2f3d0b4"), looks := true }, kinds := [], alts := [], laidByText := true, laidKinds := [.data, .data, .data, .data, .sentinel, .sentinel, .pinned], laidTests := true, laidLooks := .later }
def LexerTellsCardSaid : Prop := Claim7.holds Tryd.pinned (.plain (OpenSpec.ofChange lexerTellsSpec)) lexerTellsCard

/-- THE TIED CARD OF 'verbatimlaw17.LexerQuotes'. -/
def lexerQuotesCard : Claim7 := { stood := { row := lexerQuotesRow, standIns := [], harness := (true, "355dae14e51335a2be6b57bb983d6ee743965cc7c7b06d6fae671729b2f3d0b4"), looks := true }, kinds := [], alts := [], laidByText := true, laidKinds := [.data, .data, .data, .data, .sentinel, .sentinel, .pinned], laidTests := true, laidLooks := .later }
def LexerQuotesCardSaid : Prop := Claim7.holds Tryd.pinned (.plain (OpenSpec.ofChange lexerQuotesSpec)) lexerQuotesCard

/-- THE TIED CARD OF 'verbatimlaw17.LexerOrder'. -/
def lexerOrderCard : Claim7 := { stood := { row := lexerOrderRow, standIns := [], harness := (true, "355dae14e51335a2be6b57bb983d6ee743965cc7c7b06d6fae671729b2f3d0b4"), looks := true }, kinds := [], alts := [], laidByText := true, laidKinds := [.data, .data, .data, .data, .sentinel, .sentinel, .pinned], laidTests := true, laidLooks := .later }
def LexerOrderCardSaid : Prop := Claim7.holds Tryd.pinned (.plain (OpenSpec.ofChange lexerOrderSpec)) lexerOrderCard

/-- THE TIED CARD OF 'verbatimlaw17.LexerBlanks'. -/
def lexerBlanksCard : Claim7 := { stood := { row := lexerBlanksRow, standIns := [], harness := (true, "355dae14e51335a2be6b57bb983d6ee743965cc7c7b06d6fae671729b2f3d0b4"), looks := true }, kinds := [], alts := [], laidByText := true, laidKinds := [.data, .data, .data, .data, .sentinel, .sentinel, .pinned], laidTests := true, laidLooks := .later }
def LexerBlanksCardSaid : Prop := Claim7.holds Tryd.pinned (.plain (OpenSpec.ofChange lexerBlanksSpec)) lexerBlanksCard

/-- THE TIED CARD OF 'verbatimlaw17.LexerBad'. -/
def lexerBadCard : Claim7 := { stood := { row := lexerBadRow, standIns := [], harness := (true, "355dae14e51335a2be6b57bb983d6ee743965cc7c7b06d6fae671729b2f3d0b4"), looks := true }, kinds := [], alts := [], laidByText := true, laidKinds := [.data, .data, .data, .data, .sentinel, .sentinel, .pinned], laidTests := true, laidLooks := .later }
def LexerBadCardSaid : Prop := Claim7.holds Tryd.pinned (.plain (OpenSpec.ofChange lexerBadSpec)) lexerBadCard

/-- THE TIED CARD OF 'verbatimlaw17.LexerWords'. -/
def lexerWordsCard : Claim7 := { stood := { row := lexerWordsRow, standIns := [], harness := (true, "355dae14e51335a2be6b57bb983d6ee743965cc7c7b06d6fae671729b2f3d0b4"), looks := true }, kinds := [], alts := [], laidByText := true, laidKinds := [.data, .data, .data, .data, .sentinel, .sentinel, .pinned], laidTests := true, laidLooks := .later }
def LexerWordsCardSaid : Prop := Claim7.holds Tryd.pinned (.plain (OpenSpec.ofChange lexerWordsSpec)) lexerWordsCard

/-- THE SECOND FORM's CARD OF 'verbatimlaw17.LexerTells'. -/
def lexerTellsUptoCard : Claim7 := { stood := { row := lexerTellsUptoRow, standIns := [], harness := (true, "355dae14e51335a2be6b57bb983d6ee743965cc7c7b06d6fae671729b2f3d0b4"), looks := true }, kinds := [], alts := [], laidByText := true, laidKinds := [.data, .data, .data, .data, .sentinel, .sentinel, .pinned], laidTests := true, laidLooks := .later }
def LexerTellsUptoCardSaid : Prop := Claim7.holds Tryd.pinned (.plain (OpenSpec.upto lexerTellsSpec)) lexerTellsUptoCard

/-- THE SECOND FORM's CARD OF 'verbatimlaw17.LexerQuotes'. -/
def lexerQuotesUptoCard : Claim7 := { stood := { row := lexerQuotesUptoRow, standIns := [], harness := (true, "355dae14e51335a2be6b57bb983d6ee743965cc7c7b06d6fae671729b2f3d0b4"), looks := true }, kinds := [], alts := [], laidByText := true, laidKinds := [.data, .data, .data, .data, .sentinel, .sentinel, .pinned], laidTests := true, laidLooks := .later }
def LexerQuotesUptoCardSaid : Prop := Claim7.holds Tryd.pinned (.plain (OpenSpec.upto lexerQuotesSpec)) lexerQuotesUptoCard

/-- THE SECOND FORM's CARD OF 'verbatimlaw17.LexerOrder'. -/
def lexerOrderUptoCard : Claim7 := { stood := { row := lexerOrderUptoRow, standIns := [], harness := (true, "355dae14e51335a2be6b57bb983d6ee743965cc7c7b06d6fae671729b2f3d0b4"), looks := true }, kinds := [], alts := [], laidByText := true, laidKinds := [.data, .data, .data, .data, .sentinel, .sentinel, .pinned], laidTests := true, laidLooks := .later }
def LexerOrderUptoCardSaid : Prop := Claim7.holds Tryd.pinned (.plain (OpenSpec.upto lexerOrderSpec)) lexerOrderUptoCard

/-- THE SECOND FORM's CARD OF 'verbatimlaw17.LexerBlanks'. -/
def lexerBlanksUptoCard : Claim7 := { stood := { row := lexerBlanksUptoRow, standIns := [], harness := (true, "355dae14e51335a2be6b57bb983d6ee743965cc7c7b06d6fae671729b2f3d0b4"), looks := true }, kinds := [], alts := [], laidByText := true, laidKinds := [.data, .data, .data, .data, .sentinel, .sentinel, .pinned], laidTests := true, laidLooks := .later }
def LexerBlanksUptoCardSaid : Prop := Claim7.holds Tryd.pinned (.plain (OpenSpec.upto lexerBlanksSpec)) lexerBlanksUptoCard

/-- THE SECOND FORM's CARD OF 'verbatimlaw17.LexerBad'. -/
def lexerBadUptoCard : Claim7 := { stood := { row := lexerBadUptoRow, standIns := [], harness := (true, "355dae14e51335a2be6b57bb983d6ee743965cc7c7b06d6fae671729b2f3d0b4"), looks := true }, kinds := [], alts := [], laidByText := true, laidKinds := [.data, .data, .data, .data, .sentinel, .sentinel, .pinned], laidTests := true, laidLooks := .later }
def LexerBadUptoCardSaid : Prop := Claim7.holds Tryd.pinned (.plain (OpenSpec.upto lexerBadSpec)) lexerBadUptoCard

/-- THE SECOND FORM's CARD OF 'verbatimlaw17.LexerWords'. -/
def lexerWordsUptoCard : Claim7 := { stood := { row := lexerWordsUptoRow, standIns := [], harness := (true, "355dae14e51335a2be6b57bb983d6ee743965cc7c7b06d6fae671729b2f3d0b4"), looks := true }, kinds := [], alts := [], laidByText := true, laidKinds := [.data, .data, .data, .data, .sentinel, .sentinel, .pinned], laidTests := true, laidLooks := .later }
def LexerWordsUptoCardSaid : Prop := Claim7.holds Tryd.pinned (.plain (OpenSpec.upto lexerWordsSpec)) lexerWordsUptoCard
end Rows
end Go.Proofs.YtfoijdahgkngpaaDoor
