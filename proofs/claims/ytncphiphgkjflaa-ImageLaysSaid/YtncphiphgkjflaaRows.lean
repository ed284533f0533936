/-
  No cell of these rows narrows 'for every input' (looked for: loops, veiled, ifaces, maps, wideKeys, modest, calm, conditions, laid).
  DERIVED. THE GIVEN ROWS OF THIS SEAT. 6 by the template 'for every input the law returns true; each argument reads behind the call as it read before'; 0 by the template 'total and deterministic' (their statements: YtncphiphgkjflaaTotals.lean).
  GIVEN WITH THE SEED: the statements are not yours to turn. If you find one false, say at which input.
  Laid BY PROGRAM, IN A SANDBOX (cutbox-rows.mjs): the forced cells as the released guide's own fill.sh prints them over the translation 831c2acdf5144c1e… (all of the seat's roots in one cut). By AI agents, Wed Nov 11 2026. No macro, syntax, notation, axiom, sorry.
-/
import Derived.Test.YtncphiphgkjflaaChecked
import GoSem.Claim
import GoSem.ClaimJoined
import GoSem.ClaimMapViews
import Derived.JoinedTies
import Derived.KernelRfl
namespace Go.Proofs.Ytncphiphgkjflaa
/- THE CELL 'sum', in the pinned program and in every row, IS THE sha256 OF THE DUMP (.gsa) THAT YtncphiphgkjflaaProg.lean LOADS. Nothing in Lean hashes anything: it is a label: what it is worth is what the hold of that sum in a sandbox is worth. -/
noncomputable def Try.pinned : Pinned := { name := "ytncphiphgkjflaa", sum := "831c2acdf5144c1ebcfdbdcf13ff2451e287b7a43ceba5ce5d6f80b1ff23895f", checked := Try.checked }
namespace Rows
def none {H : Type} : Left H := { results := [], args := [] }

/-- 'limnerlaw11.ImageCrops': WHATEVER THE INPUT: true; the input reads as it did. -/
def imageCropsSpec : ChangeSpec := { name := "imageCrops", fn := fun _ => fun
  | [d1, d2, d3] => { results := [.lit (.bool true)], args := [d1, d2, d3] }
  | _ => none }
def imageCropsRow : OpenClaim := { program := "ytncphiphgkjflaa", sum := "831c2acdf5144c1ebcfdbdcf13ff2451e287b7a43ceba5ce5d6f80b1ff23895f", func := "limner/limnerlaw11.ImageCrops", spec := "imageCrops", unfollowed := true, recurses := true, apart := false }
def ImageCropsSaid : Prop := imageCropsRow.holds Try.pinned (OpenSpec.ofChange imageCropsSpec)

/-- ITS FALSE NEIGHBOUR: 'it returns false'. Refute it at one input. -/
def imageCropsWrong : ChangeSpec := { name := "imageCrops", fn := fun _ => fun
  | [d1, d2, d3] => { results := [.lit (.bool false)], args := [d1, d2, d3] }
  | _ => none }
def ImageCropsWrongFalsely : Prop := imageCropsRow.holds Try.pinned (OpenSpec.ofChange imageCropsWrong)

/-- 'limnerlaw11.ImageFills': WHATEVER THE INPUT: true; the input reads as it did. -/
def imageFillsSpec : ChangeSpec := { name := "imageFills", fn := fun _ => fun
  | [d1, d2, d3] => { results := [.lit (.bool true)], args := [d1, d2, d3] }
  | _ => none }
def imageFillsRow : OpenClaim := { program := "ytncphiphgkjflaa", sum := "831c2acdf5144c1ebcfdbdcf13ff2451e287b7a43ceba5ce5d6f80b1ff23895f", func := "limner/limnerlaw11.ImageFills", spec := "imageFills", unfollowed := true, recurses := true, apart := false }
def ImageFillsSaid : Prop := imageFillsRow.holds Try.pinned (OpenSpec.ofChange imageFillsSpec)

/-- ITS FALSE NEIGHBOUR: 'it returns false'. Refute it at one input. -/
def imageFillsWrong : ChangeSpec := { name := "imageFills", fn := fun _ => fun
  | [d1, d2, d3] => { results := [.lit (.bool false)], args := [d1, d2, d3] }
  | _ => none }
def ImageFillsWrongFalsely : Prop := imageFillsRow.holds Try.pinned (OpenSpec.ofChange imageFillsWrong)

/-- 'limnerlaw11.ImageDiffs': WHATEVER THE INPUT: true; the input reads as it did. -/
def imageDiffsSpec : ChangeSpec := { name := "imageDiffs", fn := fun _ => fun
  | [d1, d2] => { results := [.lit (.bool true)], args := [d1, d2] }
  | _ => none }
def imageDiffsRow : OpenClaim := { program := "ytncphiphgkjflaa", sum := "831c2acdf5144c1ebcfdbdcf13ff2451e287b7a43ceba5ce5d6f80b1ff23895f", func := "limner/limnerlaw11.ImageDiffs", spec := "imageDiffs", unfollowed := true, recurses := true, apart := false }
def ImageDiffsSaid : Prop := imageDiffsRow.holds Try.pinned (OpenSpec.ofChange imageDiffsSpec)

/-- ITS FALSE NEIGHBOUR: 'it returns false'. Refute it at one input. -/
def imageDiffsWrong : ChangeSpec := { name := "imageDiffs", fn := fun _ => fun
  | [d1, d2] => { results := [.lit (.bool false)], args := [d1, d2] }
  | _ => none }
def ImageDiffsWrongFalsely : Prop := imageDiffsRow.holds Try.pinned (OpenSpec.ofChange imageDiffsWrong)

/-- 'limnerlaw11.ImageParses': WHATEVER THE INPUT: true; the input reads as it did. -/
def imageParsesSpec : ChangeSpec := { name := "imageParses", fn := fun _ => fun
  | [d] => { results := [.lit (.bool true)], args := [d] }
  | _ => none }
def imageParsesRow : OpenClaim := { program := "ytncphiphgkjflaa", sum := "831c2acdf5144c1ebcfdbdcf13ff2451e287b7a43ceba5ce5d6f80b1ff23895f", func := "limner/limnerlaw11.ImageParses", spec := "imageParses", unfollowed := true, recurses := true, apart := false }
def ImageParsesSaid : Prop := imageParsesRow.holds Try.pinned (OpenSpec.ofChange imageParsesSpec)

/-- ITS FALSE NEIGHBOUR: 'it returns false'. Refute it at one input. -/
def imageParsesWrong : ChangeSpec := { name := "imageParses", fn := fun _ => fun
  | [d] => { results := [.lit (.bool false)], args := [d] }
  | _ => none }
def ImageParsesWrongFalsely : Prop := imageParsesRow.holds Try.pinned (OpenSpec.ofChange imageParsesWrong)

/-- 'limnerlaw11.ImageLays': WHATEVER THE INPUT: true; the input reads as it did. -/
def imageLaysSpec : ChangeSpec := { name := "imageLays", fn := fun _ => fun
  | [d] => { results := [.lit (.bool true)], args := [d] }
  | _ => none }
def imageLaysRow : OpenClaim := { program := "ytncphiphgkjflaa", sum := "831c2acdf5144c1ebcfdbdcf13ff2451e287b7a43ceba5ce5d6f80b1ff23895f", func := "limner/limnerlaw11.ImageLays", spec := "imageLays", unfollowed := true, recurses := true, apart := false }
def ImageLaysSaid : Prop := imageLaysRow.holds Try.pinned (OpenSpec.ofChange imageLaysSpec)

/-- ITS FALSE NEIGHBOUR: 'it returns false'. Refute it at one input. -/
def imageLaysWrong : ChangeSpec := { name := "imageLays", fn := fun _ => fun
  | [d] => { results := [.lit (.bool false)], args := [d] }
  | _ => none }
def ImageLaysWrongFalsely : Prop := imageLaysRow.holds Try.pinned (OpenSpec.ofChange imageLaysWrong)

/-- 'limnerlaw11.ImageBytes': WHATEVER THE INPUT: true; the input reads as it did. -/
def imageBytesSpec : ChangeSpec := { name := "imageBytes", fn := fun _ => fun
  | [d] => { results := [.lit (.bool true)], args := [d] }
  | _ => none }
def imageBytesRow : OpenClaim := { program := "ytncphiphgkjflaa", sum := "831c2acdf5144c1ebcfdbdcf13ff2451e287b7a43ceba5ce5d6f80b1ff23895f", func := "limner/limnerlaw11.ImageBytes", spec := "imageBytes", unfollowed := true, recurses := true, apart := false }
def ImageBytesSaid : Prop := imageBytesRow.holds Try.pinned (OpenSpec.ofChange imageBytesSpec)

/-- ITS FALSE NEIGHBOUR: 'it returns false'. Refute it at one input. -/
def imageBytesWrong : ChangeSpec := { name := "imageBytes", fn := fun _ => fun
  | [d] => { results := [.lit (.bool false)], args := [d] }
  | _ => none }
def ImageBytesWrongFalsely : Prop := imageBytesRow.holds Try.pinned (OpenSpec.ofChange imageBytesWrong)

/- THE SECOND FORM. 'bulk': how many values and letters a reading holds, each counted each time it is reached (what is shared counts as often as it is met; a slice's spare places count too). A statement '..UptoSaid' is the law's where the arguments, and the package variables that the reading takes, are together of bulk at most 1048576: NARROWER than '..Said'. Prove '..Said' where nothing that the law and all that it calls make is longer than what came in: it says more and counts as full. Else prove '..UptoSaid'. A law counts once. -/
mutual
def uptoBulk {H : Type} : DataW H → Nat
  | .lit (.string bytes) => bytes.length + 1
  | .lit _ => 1
  | .nil => 1
  | .ptr d => uptoBulk d + 1
  | .slice elems spare => uptoBulkAll elems + uptoBulkAll spare + 1
  | .agg parts => uptoBulkAll parts + 1
  | .iface _ d => uptoBulk d + 1
  | .map entries => uptoBulkEntries entries + 1
  | .held _ => 1
def uptoBulkAll {H : Type} : List (DataW H) → Nat
  | [] => 0
  | d :: r => uptoBulk d + uptoBulkAll r
def uptoBulkEntries {H : Type} : List (Lit × DataW H) → Nat
  | [] => 0
  | x :: r => uptoBulkEntry x + uptoBulkEntries r
def uptoBulkEntry {H : Type} : Lit × DataW H → Nat
  | (.string bytes, d) => bytes.length + uptoBulk d + 1
  | (_, d) => uptoBulk d + 1
 end
def uptoSmall : (H : Type) → List (DataW H) → Bool := fun _ ds => decide (uptoBulkAll ds ≤ 1048576)
def OpenSpec.upto (s : _root_.Go.ChangeSpec) : _root_.Go.OpenSpec := { _root_.Go.OpenSpec.ofChange s with cond := some uptoSmall }

/-- 'limnerlaw11.ImageCrops', WHERE WHAT IT READS IS OF BULK AT MOST 1048576: true; the input reads as it did. -/
def imageCropsUptoRow : OpenClaim := { program := "ytncphiphgkjflaa", sum := "831c2acdf5144c1ebcfdbdcf13ff2451e287b7a43ceba5ce5d6f80b1ff23895f", func := "limner/limnerlaw11.ImageCrops", spec := "imageCrops", unfollowed := true, recurses := true, apart := false, narrowed := true }
def ImageCropsUptoSaid : Prop := imageCropsUptoRow.holds Try.pinned (OpenSpec.upto imageCropsSpec)

/-- 'limnerlaw11.ImageFills', WHERE WHAT IT READS IS OF BULK AT MOST 1048576: true; the input reads as it did. -/
def imageFillsUptoRow : OpenClaim := { program := "ytncphiphgkjflaa", sum := "831c2acdf5144c1ebcfdbdcf13ff2451e287b7a43ceba5ce5d6f80b1ff23895f", func := "limner/limnerlaw11.ImageFills", spec := "imageFills", unfollowed := true, recurses := true, apart := false, narrowed := true }
def ImageFillsUptoSaid : Prop := imageFillsUptoRow.holds Try.pinned (OpenSpec.upto imageFillsSpec)

/-- 'limnerlaw11.ImageDiffs', WHERE WHAT IT READS IS OF BULK AT MOST 1048576: true; the input reads as it did. -/
def imageDiffsUptoRow : OpenClaim := { program := "ytncphiphgkjflaa", sum := "831c2acdf5144c1ebcfdbdcf13ff2451e287b7a43ceba5ce5d6f80b1ff23895f", func := "limner/limnerlaw11.ImageDiffs", spec := "imageDiffs", unfollowed := true, recurses := true, apart := false, narrowed := true }
def ImageDiffsUptoSaid : Prop := imageDiffsUptoRow.holds Try.pinned (OpenSpec.upto imageDiffsSpec)

/-- 'limnerlaw11.ImageParses', WHERE WHAT IT READS IS OF BULK AT MOST 1048576: true; the input reads as it did. -/
def imageParsesUptoRow : OpenClaim := { program := "ytncphiphgkjflaa", sum := "831c2acdf5144c1ebcfdbdcf13ff2451e287b7a43ceba5ce5d6f80b1ff23895f", func := "limner/limnerlaw11.ImageParses", spec := "imageParses", unfollowed := true, recurses := true, apart := false, narrowed := true }
def ImageParsesUptoSaid : Prop := imageParsesUptoRow.holds Try.pinned (OpenSpec.upto imageParsesSpec)

/-- 'limnerlaw11.ImageLays', WHERE WHAT IT READS IS OF BULK AT MOST 1048576: true; the input reads as it did. -/
def imageLaysUptoRow : OpenClaim := { program := "ytncphiphgkjflaa", sum := "831c2acdf5144c1ebcfdbdcf13ff2451e287b7a43ceba5ce5d6f80b1ff23895f", func := "limner/limnerlaw11.ImageLays", spec := "imageLays", unfollowed := true, recurses := true, apart := false, narrowed := true }
def ImageLaysUptoSaid : Prop := imageLaysUptoRow.holds Try.pinned (OpenSpec.upto imageLaysSpec)

/-- 'limnerlaw11.ImageBytes', WHERE WHAT IT READS IS OF BULK AT MOST 1048576: true; the input reads as it did. -/
def imageBytesUptoRow : OpenClaim := { program := "ytncphiphgkjflaa", sum := "831c2acdf5144c1ebcfdbdcf13ff2451e287b7a43ceba5ce5d6f80b1ff23895f", func := "limner/limnerlaw11.ImageBytes", spec := "imageBytes", unfollowed := true, recurses := true, apart := false, narrowed := true }
def ImageBytesUptoSaid : Prop := imageBytesUptoRow.holds Try.pinned (OpenSpec.upto imageBytesSpec)

end Rows
end Go.Proofs.Ytncphiphgkjflaa
