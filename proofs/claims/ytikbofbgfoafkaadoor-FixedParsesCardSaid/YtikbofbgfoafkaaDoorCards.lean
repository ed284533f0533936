/-
  DERIVED. GIVEN WITH THE SEED: THE CARDS: each row of YtikbofbgfoafkaaDoorRows.lean that lists a variable, with what it lists TIED to the program's text (the seventh form; the later family's looks); each row that meets fmt, with fmt's text TOLD by the authors' own Lean function (tested against real Go, not proved from fmt's source: count such statements apart). THE CARD IS WHAT COUNTS. Prove the row's statement (the work); the ties are given (YtikbofbgfoafkaaDoorTie.lean); close each card by the builder's one call (the guide's Derived/Test/ToyasCard.lean, 'card_holds'). Laid BY PROGRAM, IN A SANDBOX (cutbox-door.mjs). By AI agents, Wed Nov 11 2026. No macro, syntax, notation, axiom, sorry.
-/
import Derived.Test.YtikbofbgfoafkaaDoorRows
import GoSem.ClaimSeven
namespace Go.Proofs.YtikbofbgfoafkaaDoor
namespace Rows

/-- THE TIED CARD OF 'limnerlaw01.FixedRounds'. -/
def fixedRoundsCard : Claim7 := { stood := { row := fixedRoundsRow, standIns := [], harness := (true, "eafbfce1d1352c47ab252cfbfbfb7669701188509455a3456c3f5672d1db1b85"), looks := true }, kinds := [], alts := [], laidByText := true, laidKinds := [.data, .data, .data], laidTests := true, laidLooks := .later }
def FixedRoundsCardSaid : Prop := Claim7.holds Tryd.pinned (.plain (OpenSpec.ofChange fixedRoundsSpec)) fixedRoundsCard

/-- THE TIED CARD OF 'limnerlaw01.FixedSums'. -/
def fixedSumsCard : Claim7 := { stood := { row := fixedSumsRow, standIns := [], harness := (true, "eafbfce1d1352c47ab252cfbfbfb7669701188509455a3456c3f5672d1db1b85"), looks := true }, kinds := [], alts := [], laidByText := true, laidKinds := [.data, .data, .data], laidTests := true, laidLooks := .later }
def FixedSumsCardSaid : Prop := Claim7.holds Tryd.pinned (.plain (OpenSpec.ofChange fixedSumsSpec)) fixedSumsCard

/-- THE TIED CARD OF 'limnerlaw01.FixedProducts'. -/
def fixedProductsCard : Claim7 := { stood := { row := fixedProductsRow, standIns := [], harness := (true, "eafbfce1d1352c47ab252cfbfbfb7669701188509455a3456c3f5672d1db1b85"), looks := true }, kinds := [], alts := [], laidByText := true, laidKinds := [.data, .data, .data], laidTests := true, laidLooks := .later }
def FixedProductsCardSaid : Prop := Claim7.holds Tryd.pinned (.plain (OpenSpec.ofChange fixedProductsSpec)) fixedProductsCard

/-- THE TIED CARD OF 'limnerlaw01.FixedBack'. -/
def fixedBackCard : Claim7 := { stood := { row := fixedBackRow, standIns := [], harness := (true, "eafbfce1d1352c47ab252cfbfbfb7669701188509455a3456c3f5672d1db1b85"), looks := true }, kinds := [], alts := [], laidByText := true, laidKinds := [.data, .data, .data], laidTests := true, laidLooks := .later }
def FixedBackCardSaid : Prop := Claim7.holds Tryd.pinned (.plain (OpenSpec.ofChange fixedBackSpec)) fixedBackCard

/-- THE TIED CARD OF 'limnerlaw01.FixedTexts'. -/
def fixedTextsCard : Claim7 := { stood := { row := fixedTextsRow, standIns := [], harness := (true, "eafbfce1d1352c47ab252cfbfbfb7669701188509455a3456c3f5672d1db1b85"), looks := true }, kinds := [], alts := [], laidByText := true, laidKinds := [.data, .data, .data, .sentinel, .sentinel], laidTests := true, laidLooks := .later }
def FixedTextsCardSaid : Prop := Claim7.holds Tryd.pinned (.plain (OpenSpec.ofChange fixedTextsSpec)) fixedTextsCard

/-- THE TIED CARD OF 'limnerlaw01.FixedParses'. -/
def fixedParsesCard : Claim7 := { stood := { row := fixedParsesRow, standIns := [], harness := (true, "eafbfce1d1352c47ab252cfbfbfb7669701188509455a3456c3f5672d1db1b85"), looks := true }, kinds := [], alts := [], laidByText := true, laidKinds := [.data, .data, .data, .sentinel, .sentinel], laidTests := true, laidLooks := .later }
def FixedParsesCardSaid : Prop := Claim7.holds Tryd.pinned (.plain (OpenSpec.ofChange fixedParsesSpec)) fixedParsesCard

/-- THE SECOND FORM's CARD OF 'limnerlaw01.FixedRounds'. -/
def fixedRoundsUptoCard : Claim7 := { stood := { row := fixedRoundsUptoRow, standIns := [], harness := (true, "eafbfce1d1352c47ab252cfbfbfb7669701188509455a3456c3f5672d1db1b85"), looks := true }, kinds := [], alts := [], laidByText := true, laidKinds := [.data, .data, .data], laidTests := true, laidLooks := .later }
def FixedRoundsUptoCardSaid : Prop := Claim7.holds Tryd.pinned (.plain (OpenSpec.upto fixedRoundsSpec)) fixedRoundsUptoCard

/-- THE SECOND FORM's CARD OF 'limnerlaw01.FixedSums'. -/
def fixedSumsUptoCard : Claim7 := { stood := { row := fixedSumsUptoRow, standIns := [], harness := (true, "eafbfce1d1352c47ab252cfbfbfb7669701188509455a3456c3f5672d1db1b85"), looks := true }, kinds := [], alts := [], laidByText := true, laidKinds := [.data, .data, .data], laidTests := true, laidLooks := .later }
def FixedSumsUptoCardSaid : Prop := Claim7.holds Tryd.pinned (.plain (OpenSpec.upto fixedSumsSpec)) fixedSumsUptoCard

/-- THE SECOND FORM's CARD OF 'limnerlaw01.FixedProducts'. -/
def fixedProductsUptoCard : Claim7 := { stood := { row := fixedProductsUptoRow, standIns := [], harness := (true, "eafbfce1d1352c47ab252cfbfbfb7669701188509455a3456c3f5672d1db1b85"), looks := true }, kinds := [], alts := [], laidByText := true, laidKinds := [.data, .data, .data], laidTests := true, laidLooks := .later }
def FixedProductsUptoCardSaid : Prop := Claim7.holds Tryd.pinned (.plain (OpenSpec.upto fixedProductsSpec)) fixedProductsUptoCard

/-- THE SECOND FORM's CARD OF 'limnerlaw01.FixedBack'. -/
def fixedBackUptoCard : Claim7 := { stood := { row := fixedBackUptoRow, standIns := [], harness := (true, "eafbfce1d1352c47ab252cfbfbfb7669701188509455a3456c3f5672d1db1b85"), looks := true }, kinds := [], alts := [], laidByText := true, laidKinds := [.data, .data, .data], laidTests := true, laidLooks := .later }
def FixedBackUptoCardSaid : Prop := Claim7.holds Tryd.pinned (.plain (OpenSpec.upto fixedBackSpec)) fixedBackUptoCard

/-- THE SECOND FORM's CARD OF 'limnerlaw01.FixedTexts'. -/
def fixedTextsUptoCard : Claim7 := { stood := { row := fixedTextsUptoRow, standIns := [], harness := (true, "eafbfce1d1352c47ab252cfbfbfb7669701188509455a3456c3f5672d1db1b85"), looks := true }, kinds := [], alts := [], laidByText := true, laidKinds := [.data, .data, .data, .sentinel, .sentinel], laidTests := true, laidLooks := .later }
def FixedTextsUptoCardSaid : Prop := Claim7.holds Tryd.pinned (.plain (OpenSpec.upto fixedTextsSpec)) fixedTextsUptoCard

/-- THE SECOND FORM's CARD OF 'limnerlaw01.FixedParses'. -/
def fixedParsesUptoCard : Claim7 := { stood := { row := fixedParsesUptoRow, standIns := [], harness := (true, "eafbfce1d1352c47ab252cfbfbfb7669701188509455a3456c3f5672d1db1b85"), looks := true }, kinds := [], alts := [], laidByText := true, laidKinds := [.data, .data, .data, .sentinel, .sentinel], laidTests := true, laidLooks := .later }
def FixedParsesUptoCardSaid : Prop := Claim7.holds Tryd.pinned (.plain (OpenSpec.upto fixedParsesSpec)) fixedParsesUptoCard
end Rows
end Go.Proofs.YtikbofbgfoafkaaDoor
