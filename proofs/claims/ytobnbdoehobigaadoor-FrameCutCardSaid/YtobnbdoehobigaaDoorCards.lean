/-
  DERIVED. GIVEN WITH THE SEED: THE CARDS: each row of YtobnbdoehobigaaDoorRows.lean that lists a variable, with what it lists TIED to the program's text (the seventh form; the later family's looks); each row that meets fmt, with fmt's text TOLD by the authors' own Lean function (tested against real Go, not proved from fmt's source: count such statements apart). THE CARD IS WHAT COUNTS. Prove the row's statement (the work); the ties are given (YtobnbdoehobigaaDoorTie.lean); close each card by the builder's one call (the guide's Derived/Test/ToyasCard.lean, 'card_holds'). Laid BY PROGRAM, IN A SANDBOX (cutbox-door.mjs). By AI agents, Wed Nov 11 2026. No macro, syntax, notation, axiom, sorry.
-/
import Derived.Test.YtobnbdoehobigaaDoorRows
import GoSem.ClaimSeven
namespace Go.Proofs.YtobnbdoehobigaaDoor
namespace Rows

/-- THE TIED CARD OF 'limnerlaw13.FrameSums'. -/
def frameSumsCard : Claim7 := { stood := { row := frameSumsRow, standIns := [], harness := (true, "4004f5acd792f1f11331e5de8fab427bc4af969a557b99b24c7a1eee3688c954"), looks := false }, kinds := [], alts := [], laidByText := true, laidKinds := [.data], laidTests := true, laidLooks := .later }
def FrameSumsCardSaid : Prop := Claim7.holds Tryd.pinned (.plain (OpenSpec.ofChange frameSumsSpec)) frameSumsCard

/-- THE TIED CARD OF 'limnerlaw13.FrameNumbers'. -/
def frameNumbersCard : Claim7 := { stood := { row := frameNumbersRow, standIns := [], harness := (true, "4004f5acd792f1f11331e5de8fab427bc4af969a557b99b24c7a1eee3688c954"), looks := false }, kinds := [], alts := [], laidByText := true, laidKinds := [.data], laidTests := true, laidLooks := .later }
def FrameNumbersCardSaid : Prop := Claim7.holds Tryd.pinned (.plain (OpenSpec.ofChange frameNumbersSpec)) frameNumbersCard

/-- THE TIED CARD OF 'limnerlaw13.FrameReads'. -/
def frameReadsCard : Claim7 := { stood := { row := frameReadsRow, standIns := [], harness := (true, "4004f5acd792f1f11331e5de8fab427bc4af969a557b99b24c7a1eee3688c954"), looks := false }, kinds := [], alts := [], laidByText := true, laidKinds := [.data], laidTests := true, laidLooks := .later }
def FrameReadsCardSaid : Prop := Claim7.holds Tryd.pinned (.plain (OpenSpec.ofChange frameReadsSpec)) frameReadsCard

/-- THE TIED CARD OF 'limnerlaw13.FrameFrames'. -/
def frameFramesCard : Claim7 := { stood := { row := frameFramesRow, standIns := [], harness := (true, "4004f5acd792f1f11331e5de8fab427bc4af969a557b99b24c7a1eee3688c954"), looks := false }, kinds := [], alts := [], laidByText := true, laidKinds := [.data], laidTests := true, laidLooks := .later }
def FrameFramesCardSaid : Prop := Claim7.holds Tryd.pinned (.plain (OpenSpec.ofChange frameFramesSpec)) frameFramesCard

/-- THE TIED CARD OF 'limnerlaw13.FrameScans'. -/
def frameScansCard : Claim7 := { stood := { row := frameScansRow, standIns := [], harness := (true, "4004f5acd792f1f11331e5de8fab427bc4af969a557b99b24c7a1eee3688c954"), looks := false }, kinds := [], alts := [], laidByText := true, laidKinds := [.data], laidTests := true, laidLooks := .later }
def FrameScansCardSaid : Prop := Claim7.holds Tryd.pinned (.plain (OpenSpec.ofChange frameScansSpec)) frameScansCard

/-- THE TIED CARD OF 'limnerlaw13.FrameCut'. -/
def frameCutCard : Claim7 := { stood := { row := frameCutRow, standIns := [], harness := (true, "4004f5acd792f1f11331e5de8fab427bc4af969a557b99b24c7a1eee3688c954"), looks := false }, kinds := [], alts := [], laidByText := true, laidKinds := [.data], laidTests := true, laidLooks := .later }
def FrameCutCardSaid : Prop := Claim7.holds Tryd.pinned (.plain (OpenSpec.ofChange frameCutSpec)) frameCutCard

/-- THE SECOND FORM's CARD OF 'limnerlaw13.FrameSums'. -/
def frameSumsUptoCard : Claim7 := { stood := { row := frameSumsUptoRow, standIns := [], harness := (true, "4004f5acd792f1f11331e5de8fab427bc4af969a557b99b24c7a1eee3688c954"), looks := false }, kinds := [], alts := [], laidByText := true, laidKinds := [.data], laidTests := true, laidLooks := .later }
def FrameSumsUptoCardSaid : Prop := Claim7.holds Tryd.pinned (.plain (OpenSpec.upto frameSumsSpec)) frameSumsUptoCard

/-- THE SECOND FORM's CARD OF 'limnerlaw13.FrameNumbers'. -/
def frameNumbersUptoCard : Claim7 := { stood := { row := frameNumbersUptoRow, standIns := [], harness := (true, "4004f5acd792f1f11331e5de8fab427bc4af969a557b99b24c7a1eee3688c954"), looks := false }, kinds := [], alts := [], laidByText := true, laidKinds := [.data], laidTests := true, laidLooks := .later }
def FrameNumbersUptoCardSaid : Prop := Claim7.holds Tryd.pinned (.plain (OpenSpec.upto frameNumbersSpec)) frameNumbersUptoCard

/-- THE SECOND FORM's CARD OF 'limnerlaw13.FrameReads'. -/
def frameReadsUptoCard : Claim7 := { stood := { row := frameReadsUptoRow, standIns := [], harness := (true, "4004f5acd792f1f11331e5de8fab427bc4af969a557b99b24c7a1eee3688c954"), looks := false }, kinds := [], alts := [], laidByText := true, laidKinds := [.data], laidTests := true, laidLooks := .later }
def FrameReadsUptoCardSaid : Prop := Claim7.holds Tryd.pinned (.plain (OpenSpec.upto frameReadsSpec)) frameReadsUptoCard

/-- THE SECOND FORM's CARD OF 'limnerlaw13.FrameFrames'. -/
def frameFramesUptoCard : Claim7 := { stood := { row := frameFramesUptoRow, standIns := [], harness := (true, "4004f5acd792f1f11331e5de8fab427bc4af969a557b99b24c7a1eee3688c954"), looks := false }, kinds := [], alts := [], laidByText := true, laidKinds := [.data], laidTests := true, laidLooks := .later }
def FrameFramesUptoCardSaid : Prop := Claim7.holds Tryd.pinned (.plain (OpenSpec.upto frameFramesSpec)) frameFramesUptoCard

/-- THE SECOND FORM's CARD OF 'limnerlaw13.FrameScans'. -/
def frameScansUptoCard : Claim7 := { stood := { row := frameScansUptoRow, standIns := [], harness := (true, "4004f5acd792f1f11331e5de8fab427bc4af969a557b99b24c7a1eee3688c954"), looks := false }, kinds := [], alts := [], laidByText := true, laidKinds := [.data], laidTests := true, laidLooks := .later }
def FrameScansUptoCardSaid : Prop := Claim7.holds Tryd.pinned (.plain (OpenSpec.upto frameScansSpec)) frameScansUptoCard

/-- THE SECOND FORM's CARD OF 'limnerlaw13.FrameCut'. -/
def frameCutUptoCard : Claim7 := { stood := { row := frameCutUptoRow, standIns := [], harness := (true, "4004f5acd792f1f11331e5de8fab427bc4af969a557b99b24c7a1eee3688c954"), looks := false }, kinds := [], alts := [], laidByText := true, laidKinds := [.data], laidTests := true, laidLooks := .later }
def FrameCutUptoCardSaid : Prop := Claim7.holds Tryd.pinned (.plain (OpenSpec.upto frameCutSpec)) frameCutUptoCard
end Rows
end Go.Proofs.YtobnbdoehobigaaDoor
