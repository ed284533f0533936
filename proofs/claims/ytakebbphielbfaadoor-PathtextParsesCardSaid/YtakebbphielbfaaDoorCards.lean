/-
  DERIVED. GIVEN WITH THE SEED: THE CARDS: each row of YtakebbphielbfaaDoorRows.lean that lists a variable, with what it lists TIED to the program's text (the seventh form; the later family's looks); each row that meets fmt, with fmt's text TOLD by the authors' own Lean function (tested against real Go, not proved from fmt's source: count such statements apart). THE CARD IS WHAT COUNTS. Prove the row's statement (the work); the ties are given (YtakebbphielbfaaDoorTie.lean); close each card by the builder's one call (the guide's Derived/Test/ToyasCard.lean, 'card_holds'). Laid BY PROGRAM, IN A SANDBOX (cutbox-door.mjs). By AI agents, Wed Nov 11 2026. No macro, syntax, notation, axiom, sorry.
-/
import Derived.Test.YtakebbphielbfaaDoorRows
import GoSem.ClaimSeven
namespace Go.Proofs.YtakebbphielbfaaDoor
namespace Rows

/-- THE TIED CARD OF 'limnerlaw15.PathtextWords'. -/
def pathtextWordsCard : Claim7 := { stood := { row := pathtextWordsRow, standIns := [], harness := (true, "442e14b171d3a09a744b4764a12ee64206b5b8ba48aded70232ef32eaaad10df"), looks := true }, kinds := [], alts := [], laidByText := true, laidKinds := [.data, .data, .data, .data, .sentinel, .sentinel, .data, .pinned, .pinned], laidTests := true, laidLooks := .later }
def PathtextWordsCardSaid : Prop := Claim7.holds Tryd.pinned (.plain (OpenSpec.ofChange pathtextWordsSpec)) pathtextWordsCard

/-- THE TIED CARD OF 'limnerlaw15.PathtextSmall'. -/
def pathtextSmallCard : Claim7 := { stood := { row := pathtextSmallRow, standIns := [], harness := (true, "442e14b171d3a09a744b4764a12ee64206b5b8ba48aded70232ef32eaaad10df"), looks := true }, kinds := [], alts := [], laidByText := true, laidKinds := [.data, .data, .data, .data, .sentinel, .sentinel, .data, .pinned, .pinned], laidTests := true, laidLooks := .later }
def PathtextSmallCardSaid : Prop := Claim7.holds Tryd.pinned (.plain (OpenSpec.ofChange pathtextSmallSpec)) pathtextSmallCard

/-- THE TIED CARD OF 'limnerlaw15.PathtextParses'. -/
def pathtextParsesCard : Claim7 := { stood := { row := pathtextParsesRow, standIns := [], harness := (true, "442e14b171d3a09a744b4764a12ee64206b5b8ba48aded70232ef32eaaad10df"), looks := true }, kinds := [], alts := [], laidByText := true, laidKinds := [.data, .data, .data, .data, .sentinel, .sentinel, .data, .pinned, .pinned], laidTests := true, laidLooks := .later }
def PathtextParsesCardSaid : Prop := Claim7.holds Tryd.pinned (.plain (OpenSpec.ofChange pathtextParsesSpec)) pathtextParsesCard

/-- THE SECOND FORM's CARD OF 'limnerlaw15.PathtextWords'. -/
def pathtextWordsUptoCard : Claim7 := { stood := { row := pathtextWordsUptoRow, standIns := [], harness := (true, "442e14b171d3a09a744b4764a12ee64206b5b8ba48aded70232ef32eaaad10df"), looks := true }, kinds := [], alts := [], laidByText := true, laidKinds := [.data, .data, .data, .data, .sentinel, .sentinel, .data, .pinned, .pinned], laidTests := true, laidLooks := .later }
def PathtextWordsUptoCardSaid : Prop := Claim7.holds Tryd.pinned (.plain (OpenSpec.upto pathtextWordsSpec)) pathtextWordsUptoCard

/-- THE SECOND FORM's CARD OF 'limnerlaw15.PathtextSmall'. -/
def pathtextSmallUptoCard : Claim7 := { stood := { row := pathtextSmallUptoRow, standIns := [], harness := (true, "442e14b171d3a09a744b4764a12ee64206b5b8ba48aded70232ef32eaaad10df"), looks := true }, kinds := [], alts := [], laidByText := true, laidKinds := [.data, .data, .data, .data, .sentinel, .sentinel, .data, .pinned, .pinned], laidTests := true, laidLooks := .later }
def PathtextSmallUptoCardSaid : Prop := Claim7.holds Tryd.pinned (.plain (OpenSpec.upto pathtextSmallSpec)) pathtextSmallUptoCard

/-- THE SECOND FORM's CARD OF 'limnerlaw15.PathtextParses'. -/
def pathtextParsesUptoCard : Claim7 := { stood := { row := pathtextParsesUptoRow, standIns := [], harness := (true, "442e14b171d3a09a744b4764a12ee64206b5b8ba48aded70232ef32eaaad10df"), looks := true }, kinds := [], alts := [], laidByText := true, laidKinds := [.data, .data, .data, .data, .sentinel, .sentinel, .data, .pinned, .pinned], laidTests := true, laidLooks := .later }
def PathtextParsesUptoCardSaid : Prop := Claim7.holds Tryd.pinned (.plain (OpenSpec.upto pathtextParsesSpec)) pathtextParsesUptoCard
end Rows
end Go.Proofs.YtakebbphielbfaaDoor
