/-
  NARROWER THAN 'FOR EVERY INPUT', by the rows' own cells (each row's printed sentence says how): FrameSums: laid · FrameNumbers: laid · FrameReads: laid · FrameFrames: laid · FrameScans: laid · FrameCut: laid.
  DERIVED. THE GIVEN ROWS OF THIS SEAT. 6 by the template 'for every input the law returns true; each argument reads behind the call as it read before'; 0 by the template 'total and deterministic' (their statements: YtobnbdoehobigaaDoorTotals.lean).
  GIVEN WITH THE SEED: the statements are not yours to turn. If you find one false, say at which input.
  Laid BY PROGRAM, IN A SANDBOX (cutbox-rows.mjs): the forced cells as the released guide's own fill.sh prints them over the translation 65832e2fcf786801… (all of the seat's roots in one cut). By AI agents, Wed Nov 11 2026. No macro, syntax, notation, axiom, sorry.
-/
import Derived.Test.YtobnbdoehobigaaDoorChecked
import GoSem.Claim
import GoSem.ClaimJoined
import GoSem.ClaimMapViews
import Derived.JoinedTies
import Derived.KernelRfl
namespace Go.Proofs.YtobnbdoehobigaaDoor
/- THE CELL 'sum', in the pinned program and in every row, IS THE sha256 OF THE DUMP (.gsa) THAT YtobnbdoehobigaaDoorProg.lean LOADS. Nothing in Lean hashes anything: it is a label: what it is worth is what the hold of that sum in a sandbox is worth. -/
noncomputable def Tryd.pinned : Pinned := { name := "ytobnbdoehobigaadoor", sum := "65832e2fcf78680144328a545438558b18ea2b46435979531231ae7a9f2a700a", checked := Tryd.checked }
namespace Rows
def none {H : Type} : Left H := { results := [], args := [] }

/- WHAT THE LISTED PACKAGE-LEVEL VARIABLES READ AS WHEN THE CALL BEGINS. Each datum BY PROGRAM (the guide's laid-datum.mjs) off the statement by which the dump's own 'gosem.cut.vars' lays the variable. In a bare row this is a premise. The card (YtobnbdoehobigaaDoorCards.lean) ties it to the program's text. -/
def laid_limner_frame_half {H : Type} : DataW H := .agg [.lit (.int .u32 0), .lit (.int .u32 498536548), .lit (.int .u32 997073096), .lit (.int .u32 651767980), .lit (.int .u32 1994146192), .lit (.int .u32 1802195444), .lit (.int .u32 1303535960), .lit (.int .u32 1342533948), .lit (.int .u32 3988292384), .lit (.int .u32 4027552580), .lit (.int .u32 3604390888), .lit (.int .u32 3412177804), .lit (.int .u32 2607071920), .lit (.int .u32 2262029012), .lit (.int .u32 2685067896), .lit (.int .u32 3183342108)]

/-- 'limnerlaw13.FrameSums': WHATEVER THE INPUT: true; the input reads as it did. -/
def frameSumsSpec : ChangeSpec := { name := "frameSums", fn := fun _ => fun
  | [d] => { results := [.lit (.bool true)], args := [d] }
  | _ => none }
def frameSumsRow : OpenClaim := { program := "ytobnbdoehobigaadoor", sum := "65832e2fcf78680144328a545438558b18ea2b46435979531231ae7a9f2a700a", func := "limner/limnerlaw13.FrameSums", spec := "frameSums", named := ["limner/frame.half"], apart := false, laid := [("limner/frame.half", laid_limner_frame_half)] }
def FrameSumsSaid : Prop := frameSumsRow.holds Tryd.pinned (OpenSpec.ofChange frameSumsSpec)

/-- ITS FALSE NEIGHBOUR: 'it returns false'. Refute it at one input. -/
def frameSumsWrong : ChangeSpec := { name := "frameSums", fn := fun _ => fun
  | [d] => { results := [.lit (.bool false)], args := [d] }
  | _ => none }
def FrameSumsWrongFalsely : Prop := frameSumsRow.holds Tryd.pinned (OpenSpec.ofChange frameSumsWrong)

/-- 'limnerlaw13.FrameNumbers': WHATEVER THE INPUT: true; the input reads as it did. -/
def frameNumbersSpec : ChangeSpec := { name := "frameNumbers", fn := fun _ => fun
  | [d1, d2] => { results := [.lit (.bool true)], args := [d1, d2] }
  | _ => none }
def frameNumbersRow : OpenClaim := { program := "ytobnbdoehobigaadoor", sum := "65832e2fcf78680144328a545438558b18ea2b46435979531231ae7a9f2a700a", func := "limner/limnerlaw13.FrameNumbers", spec := "frameNumbers", named := ["limner/frame.half"], apart := false, laid := [("limner/frame.half", laid_limner_frame_half)] }
def FrameNumbersSaid : Prop := frameNumbersRow.holds Tryd.pinned (OpenSpec.ofChange frameNumbersSpec)

/-- ITS FALSE NEIGHBOUR: 'it returns false'. Refute it at one input. -/
def frameNumbersWrong : ChangeSpec := { name := "frameNumbers", fn := fun _ => fun
  | [d1, d2] => { results := [.lit (.bool false)], args := [d1, d2] }
  | _ => none }
def FrameNumbersWrongFalsely : Prop := frameNumbersRow.holds Tryd.pinned (OpenSpec.ofChange frameNumbersWrong)

/-- 'limnerlaw13.FrameReads': WHATEVER THE INPUT: true; the input reads as it did. -/
def frameReadsSpec : ChangeSpec := { name := "frameReads", fn := fun _ => fun
  | [d1, d2, d3] => { results := [.lit (.bool true)], args := [d1, d2, d3] }
  | _ => none }
def frameReadsRow : OpenClaim := { program := "ytobnbdoehobigaadoor", sum := "65832e2fcf78680144328a545438558b18ea2b46435979531231ae7a9f2a700a", func := "limner/limnerlaw13.FrameReads", spec := "frameReads", named := ["limner/frame.half"], apart := false, laid := [("limner/frame.half", laid_limner_frame_half)] }
def FrameReadsSaid : Prop := frameReadsRow.holds Tryd.pinned (OpenSpec.ofChange frameReadsSpec)

/-- ITS FALSE NEIGHBOUR: 'it returns false'. Refute it at one input. -/
def frameReadsWrong : ChangeSpec := { name := "frameReads", fn := fun _ => fun
  | [d1, d2, d3] => { results := [.lit (.bool false)], args := [d1, d2, d3] }
  | _ => none }
def FrameReadsWrongFalsely : Prop := frameReadsRow.holds Tryd.pinned (OpenSpec.ofChange frameReadsWrong)

/-- 'limnerlaw13.FrameFrames': WHATEVER THE INPUT: true; the input reads as it did. -/
def frameFramesSpec : ChangeSpec := { name := "frameFrames", fn := fun _ => fun
  | [d] => { results := [.lit (.bool true)], args := [d] }
  | _ => none }
def frameFramesRow : OpenClaim := { program := "ytobnbdoehobigaadoor", sum := "65832e2fcf78680144328a545438558b18ea2b46435979531231ae7a9f2a700a", func := "limner/limnerlaw13.FrameFrames", spec := "frameFrames", unfollowed := true, recurses := true, named := ["limner/frame.half"], apart := false, laid := [("limner/frame.half", laid_limner_frame_half)] }
def FrameFramesSaid : Prop := frameFramesRow.holds Tryd.pinned (OpenSpec.ofChange frameFramesSpec)

/-- ITS FALSE NEIGHBOUR: 'it returns false'. Refute it at one input. -/
def frameFramesWrong : ChangeSpec := { name := "frameFrames", fn := fun _ => fun
  | [d] => { results := [.lit (.bool false)], args := [d] }
  | _ => none }
def FrameFramesWrongFalsely : Prop := frameFramesRow.holds Tryd.pinned (OpenSpec.ofChange frameFramesWrong)

/-- 'limnerlaw13.FrameScans': WHATEVER THE INPUT: true; the input reads as it did. -/
def frameScansSpec : ChangeSpec := { name := "frameScans", fn := fun _ => fun
  | [d1, d2] => { results := [.lit (.bool true)], args := [d1, d2] }
  | _ => none }
def frameScansRow : OpenClaim := { program := "ytobnbdoehobigaadoor", sum := "65832e2fcf78680144328a545438558b18ea2b46435979531231ae7a9f2a700a", func := "limner/limnerlaw13.FrameScans", spec := "frameScans", unfollowed := true, recurses := true, named := ["limner/frame.half"], apart := false, laid := [("limner/frame.half", laid_limner_frame_half)] }
def FrameScansSaid : Prop := frameScansRow.holds Tryd.pinned (OpenSpec.ofChange frameScansSpec)

/-- ITS FALSE NEIGHBOUR: 'it returns false'. Refute it at one input. -/
def frameScansWrong : ChangeSpec := { name := "frameScans", fn := fun _ => fun
  | [d1, d2] => { results := [.lit (.bool false)], args := [d1, d2] }
  | _ => none }
def FrameScansWrongFalsely : Prop := frameScansRow.holds Tryd.pinned (OpenSpec.ofChange frameScansWrong)

/-- 'limnerlaw13.FrameCut': WHATEVER THE INPUT: true; the input reads as it did. -/
def frameCutSpec : ChangeSpec := { name := "frameCut", fn := fun _ => fun
  | [d1, d2] => { results := [.lit (.bool true)], args := [d1, d2] }
  | _ => none }
def frameCutRow : OpenClaim := { program := "ytobnbdoehobigaadoor", sum := "65832e2fcf78680144328a545438558b18ea2b46435979531231ae7a9f2a700a", func := "limner/limnerlaw13.FrameCut", spec := "frameCut", unfollowed := true, recurses := true, named := ["limner/frame.half"], apart := false, laid := [("limner/frame.half", laid_limner_frame_half)] }
def FrameCutSaid : Prop := frameCutRow.holds Tryd.pinned (OpenSpec.ofChange frameCutSpec)

/-- ITS FALSE NEIGHBOUR: 'it returns false'. Refute it at one input. -/
def frameCutWrong : ChangeSpec := { name := "frameCut", fn := fun _ => fun
  | [d1, d2] => { results := [.lit (.bool false)], args := [d1, d2] }
  | _ => none }
def FrameCutWrongFalsely : Prop := frameCutRow.holds Tryd.pinned (OpenSpec.ofChange frameCutWrong)

/- THE SECOND FORM. 'bulk': how many values and letters a reading holds, each counted each time it is reached (what is shared counts as often as it is met; a slice's spare places count too). A statement '..UptoSaid' is the law's where the arguments, and the package variables that the reading takes, are together of bulk at most 1048576: NARROWER than '..Said'. Prove '..Said' where nothing that the law and all that it calls make is longer than what came in: it says more and counts as full. Else prove '..UptoSaid'. A law counts once. -/
mutual
def uptoBulk {H : Type} : DataW H → Nat
  | .lit (.string bytes) => bytes.length + 1
  | .lit _ => 1
  | .nil => 1
  | .ptr d => uptoBulk d + 1
  | .slice elems spare => uptoBulkAll elems + uptoBulkAll spare + 1
  | .agg parts => uptoBulkAll parts + 1
  | .iface _ d => uptoBulk d + 1
  | .map entries => uptoBulkEntries entries + 1
  | .held _ => 1
def uptoBulkAll {H : Type} : List (DataW H) → Nat
  | [] => 0
  | d :: r => uptoBulk d + uptoBulkAll r
def uptoBulkEntries {H : Type} : List (Lit × DataW H) → Nat
  | [] => 0
  | x :: r => uptoBulkEntry x + uptoBulkEntries r
def uptoBulkEntry {H : Type} : Lit × DataW H → Nat
  | (.string bytes, d) => bytes.length + uptoBulk d + 1
  | (_, d) => uptoBulk d + 1
 end
def uptoSmall : (H : Type) → List (DataW H) → Bool := fun _ ds => decide (uptoBulkAll ds ≤ 1048576)
def OpenSpec.upto (s : _root_.Go.ChangeSpec) : _root_.Go.OpenSpec := { _root_.Go.OpenSpec.ofChange s with cond := some uptoSmall }

/-- 'limnerlaw13.FrameSums', WHERE WHAT IT READS IS OF BULK AT MOST 1048576: true; the input reads as it did. -/
def frameSumsUptoRow : OpenClaim := { program := "ytobnbdoehobigaadoor", sum := "65832e2fcf78680144328a545438558b18ea2b46435979531231ae7a9f2a700a", func := "limner/limnerlaw13.FrameSums", spec := "frameSums", named := ["limner/frame.half"], apart := false, laid := [("limner/frame.half", laid_limner_frame_half)], narrowed := true }
def FrameSumsUptoSaid : Prop := frameSumsUptoRow.holds Tryd.pinned (OpenSpec.upto frameSumsSpec)

/-- 'limnerlaw13.FrameNumbers', WHERE WHAT IT READS IS OF BULK AT MOST 1048576: true; the input reads as it did. -/
def frameNumbersUptoRow : OpenClaim := { program := "ytobnbdoehobigaadoor", sum := "65832e2fcf78680144328a545438558b18ea2b46435979531231ae7a9f2a700a", func := "limner/limnerlaw13.FrameNumbers", spec := "frameNumbers", named := ["limner/frame.half"], apart := false, laid := [("limner/frame.half", laid_limner_frame_half)], narrowed := true }
def FrameNumbersUptoSaid : Prop := frameNumbersUptoRow.holds Tryd.pinned (OpenSpec.upto frameNumbersSpec)

/-- 'limnerlaw13.FrameReads', WHERE WHAT IT READS IS OF BULK AT MOST 1048576: true; the input reads as it did. -/
def frameReadsUptoRow : OpenClaim := { program := "ytobnbdoehobigaadoor", sum := "65832e2fcf78680144328a545438558b18ea2b46435979531231ae7a9f2a700a", func := "limner/limnerlaw13.FrameReads", spec := "frameReads", named := ["limner/frame.half"], apart := false, laid := [("limner/frame.half", laid_limner_frame_half)], narrowed := true }
def FrameReadsUptoSaid : Prop := frameReadsUptoRow.holds Tryd.pinned (OpenSpec.upto frameReadsSpec)

/-- 'limnerlaw13.FrameFrames', WHERE WHAT IT READS IS OF BULK AT MOST 1048576: true; the input reads as it did. -/
def frameFramesUptoRow : OpenClaim := { program := "ytobnbdoehobigaadoor", sum := "65832e2fcf78680144328a545438558b18ea2b46435979531231ae7a9f2a700a", func := "limner/limnerlaw13.FrameFrames", spec := "frameFrames", unfollowed := true, recurses := true, named := ["limner/frame.half"], apart := false, laid := [("limner/frame.half", laid_limner_frame_half)], narrowed := true }
def FrameFramesUptoSaid : Prop := frameFramesUptoRow.holds Tryd.pinned (OpenSpec.upto frameFramesSpec)

/-- 'limnerlaw13.FrameScans', WHERE WHAT IT READS IS OF BULK AT MOST 1048576: true; the input reads as it did. -/
def frameScansUptoRow : OpenClaim := { program := "ytobnbdoehobigaadoor", sum := "65832e2fcf78680144328a545438558b18ea2b46435979531231ae7a9f2a700a", func := "limner/limnerlaw13.FrameScans", spec := "frameScans", unfollowed := true, recurses := true, named := ["limner/frame.half"], apart := false, laid := [("limner/frame.half", laid_limner_frame_half)], narrowed := true }
def FrameScansUptoSaid : Prop := frameScansUptoRow.holds Tryd.pinned (OpenSpec.upto frameScansSpec)

/-- 'limnerlaw13.FrameCut', WHERE WHAT IT READS IS OF BULK AT MOST 1048576: true; the input reads as it did. -/
def frameCutUptoRow : OpenClaim := { program := "ytobnbdoehobigaadoor", sum := "65832e2fcf78680144328a545438558b18ea2b46435979531231ae7a9f2a700a", func := "limner/limnerlaw13.FrameCut", spec := "frameCut", unfollowed := true, recurses := true, named := ["limner/frame.half"], apart := false, laid := [("limner/frame.half", laid_limner_frame_half)], narrowed := true }
def FrameCutUptoSaid : Prop := frameCutUptoRow.holds Tryd.pinned (OpenSpec.upto frameCutSpec)

end Rows
end Go.Proofs.YtobnbdoehobigaaDoor
