/-
  No cell of these rows narrows 'for every input' (looked for: loops, veiled, ifaces, maps, wideKeys, modest, calm, conditions, laid).
  DERIVED. THE GIVEN ROWS OF THIS SEAT. 5 by the template 'for every input the law returns true; each argument reads behind the call as it read before'; 0 by the template 'total and deterministic' (their statements: YtblfplkocljlgaaTotals.lean).
  GIVEN WITH THE SEED: the statements are not yours to turn. If you find one false, say at which input.
  Laid BY PROGRAM, IN A SANDBOX (cutbox-rows.mjs): the forced cells as the released guide's own fill.sh prints them over the translation 08a94c64f9f4b675… (all of the seat's roots in one cut). By AI agents, Wed Nov 11 2026. No macro, syntax, notation, axiom, sorry.
-/
import Derived.Test.YtblfplkocljlgaaChecked
import GoSem.Claim
import GoSem.ClaimJoined
import GoSem.ClaimMapViews
import Derived.JoinedTies
import Derived.KernelRfl
namespace Go.Proofs.Ytblfplkocljlgaa
/- THE CELL 'sum', in the pinned program and in every row, IS THE sha256 OF THE DUMP (.gsa) THAT YtblfplkocljlgaaProg.lean LOADS. Nothing in Lean hashes anything: it is a label: what it is worth is what the hold of that sum in a sandbox is worth. -/
noncomputable def Try.pinned : Pinned := { name := "ytblfplkocljlgaa", sum := "08a94c64f9f4b675ebda123a8718bdfe37a9d592fd2130b9bf5fd18de7192f28", checked := Try.checked }
namespace Rows
def none {H : Type} : Left H := { results := [], args := [] }

/-- 'limnerlaw23.TileBoxes': WHATEVER THE INPUT: true; the input reads as it did. -/
def tileBoxesSpec : ChangeSpec := { name := "tileBoxes", fn := fun _ => fun
  | [d1, d2] => { results := [.lit (.bool true)], args := [d1, d2] }
  | _ => none }
def tileBoxesRow : OpenClaim := { program := "ytblfplkocljlgaa", sum := "08a94c64f9f4b675ebda123a8718bdfe37a9d592fd2130b9bf5fd18de7192f28", func := "limner/limnerlaw23.TileBoxes", spec := "tileBoxes", unfollowed := true, recurses := true, plainKeys := false, apart := false }
def TileBoxesSaid : Prop := tileBoxesRow.holds Try.pinned (OpenSpec.ofChange tileBoxesSpec)

/-- ITS FALSE NEIGHBOUR: 'it returns false'. Refute it at one input. -/
def tileBoxesWrong : ChangeSpec := { name := "tileBoxes", fn := fun _ => fun
  | [d1, d2] => { results := [.lit (.bool false)], args := [d1, d2] }
  | _ => none }
def TileBoxesWrongFalsely : Prop := tileBoxesRow.holds Try.pinned (OpenSpec.ofChange tileBoxesWrong)

/-- 'limnerlaw23.TileKeys': WHATEVER THE INPUT: true; the input reads as it did. -/
def tileKeysSpec : ChangeSpec := { name := "tileKeys", fn := fun _ => fun
  | [d] => { results := [.lit (.bool true)], args := [d] }
  | _ => none }
def tileKeysRow : OpenClaim := { program := "ytblfplkocljlgaa", sum := "08a94c64f9f4b675ebda123a8718bdfe37a9d592fd2130b9bf5fd18de7192f28", func := "limner/limnerlaw23.TileKeys", spec := "tileKeys", unfollowed := true, recurses := true, plainKeys := false, apart := false }
def TileKeysSaid : Prop := tileKeysRow.holds Try.pinned (OpenSpec.ofChange tileKeysSpec)

/-- ITS FALSE NEIGHBOUR: 'it returns false'. Refute it at one input. -/
def tileKeysWrong : ChangeSpec := { name := "tileKeys", fn := fun _ => fun
  | [d] => { results := [.lit (.bool false)], args := [d] }
  | _ => none }
def TileKeysWrongFalsely : Prop := tileKeysRow.holds Try.pinned (OpenSpec.ofChange tileKeysWrong)

/-- 'limnerlaw23.TileDrops': WHATEVER THE INPUT: true; the input reads as it did. -/
def tileDropsSpec : ChangeSpec := { name := "tileDrops", fn := fun _ => fun
  | [d1, d2] => { results := [.lit (.bool true)], args := [d1, d2] }
  | _ => none }
def tileDropsRow : OpenClaim := { program := "ytblfplkocljlgaa", sum := "08a94c64f9f4b675ebda123a8718bdfe37a9d592fd2130b9bf5fd18de7192f28", func := "limner/limnerlaw23.TileDrops", spec := "tileDrops", unfollowed := true, recurses := true, plainKeys := false, apart := false }
def TileDropsSaid : Prop := tileDropsRow.holds Try.pinned (OpenSpec.ofChange tileDropsSpec)

/-- ITS FALSE NEIGHBOUR: 'it returns false'. Refute it at one input. -/
def tileDropsWrong : ChangeSpec := { name := "tileDrops", fn := fun _ => fun
  | [d1, d2] => { results := [.lit (.bool false)], args := [d1, d2] }
  | _ => none }
def TileDropsWrongFalsely : Prop := tileDropsRow.holds Try.pinned (OpenSpec.ofChange tileDropsWrong)

/-- 'limnerlaw23.TilePlays': WHATEVER THE INPUT: true; the input reads as it did. -/
def tilePlaysSpec : ChangeSpec := { name := "tilePlays", fn := fun _ => fun
  | [d1, d2] => { results := [.lit (.bool true)], args := [d1, d2] }
  | _ => none }
def tilePlaysRow : OpenClaim := { program := "ytblfplkocljlgaa", sum := "08a94c64f9f4b675ebda123a8718bdfe37a9d592fd2130b9bf5fd18de7192f28", func := "limner/limnerlaw23.TilePlays", spec := "tilePlays", unfollowed := true, recurses := true, plainKeys := false, apart := false }
def TilePlaysSaid : Prop := tilePlaysRow.holds Try.pinned (OpenSpec.ofChange tilePlaysSpec)

/-- ITS FALSE NEIGHBOUR: 'it returns false'. Refute it at one input. -/
def tilePlaysWrong : ChangeSpec := { name := "tilePlays", fn := fun _ => fun
  | [d1, d2] => { results := [.lit (.bool false)], args := [d1, d2] }
  | _ => none }
def TilePlaysWrongFalsely : Prop := tilePlaysRow.holds Try.pinned (OpenSpec.ofChange tilePlaysWrong)

/-- 'limnerlaw23.TileJoins': WHATEVER THE INPUT: true; the input reads as it did. -/
def tileJoinsSpec : ChangeSpec := { name := "tileJoins", fn := fun _ => fun
  | [d1, d2, d3] => { results := [.lit (.bool true)], args := [d1, d2, d3] }
  | _ => none }
def tileJoinsRow : OpenClaim := { program := "ytblfplkocljlgaa", sum := "08a94c64f9f4b675ebda123a8718bdfe37a9d592fd2130b9bf5fd18de7192f28", func := "limner/limnerlaw23.TileJoins", spec := "tileJoins", unfollowed := true, recurses := true, plainKeys := false, apart := false }
def TileJoinsSaid : Prop := tileJoinsRow.holds Try.pinned (OpenSpec.ofChange tileJoinsSpec)

/-- ITS FALSE NEIGHBOUR: 'it returns false'. Refute it at one input. -/
def tileJoinsWrong : ChangeSpec := { name := "tileJoins", fn := fun _ => fun
  | [d1, d2, d3] => { results := [.lit (.bool false)], args := [d1, d2, d3] }
  | _ => none }
def TileJoinsWrongFalsely : Prop := tileJoinsRow.holds Try.pinned (OpenSpec.ofChange tileJoinsWrong)

/- THE SECOND FORM. 'bulk': how many values and letters a reading holds, each counted each time it is reached (what is shared counts as often as it is met; a slice's spare places count too). A statement '..UptoSaid' is the law's where the arguments, and the package variables that the reading takes, are together of bulk at most 1048576: NARROWER than '..Said'. Prove '..Said' where nothing that the law and all that it calls make is longer than what came in: it says more and counts as full. Else prove '..UptoSaid'. A law counts once. -/
mutual
def uptoBulk {H : Type} : DataW H → Nat
  | .lit (.string bytes) => bytes.length + 1
  | .lit _ => 1
  | .nil => 1
  | .ptr d => uptoBulk d + 1
  | .slice elems spare => uptoBulkAll elems + uptoBulkAll spare + 1
  | .agg parts => uptoBulkAll parts + 1
  | .iface _ d => uptoBulk d + 1
  | .map entries => uptoBulkEntries entries + 1
  | .held _ => 1
def uptoBulkAll {H : Type} : List (DataW H) → Nat
  | [] => 0
  | d :: r => uptoBulk d + uptoBulkAll r
def uptoBulkEntries {H : Type} : List (Lit × DataW H) → Nat
  | [] => 0
  | x :: r => uptoBulkEntry x + uptoBulkEntries r
def uptoBulkEntry {H : Type} : Lit × DataW H → Nat
  | (.string bytes, d) => bytes.length + uptoBulk d + 1
  | (_, d) => uptoBulk d + 1
 end
def uptoSmall : (H : Type) → List (DataW H) → Bool := fun _ ds => decide (uptoBulkAll ds ≤ 1048576)
def OpenSpec.upto (s : _root_.Go.ChangeSpec) : _root_.Go.OpenSpec := { _root_.Go.OpenSpec.ofChange s with cond := some uptoSmall }

/-- 'limnerlaw23.TileBoxes', WHERE WHAT IT READS IS OF BULK AT MOST 1048576: true; the input reads as it did. -/
def tileBoxesUptoRow : OpenClaim := { program := "ytblfplkocljlgaa", sum := "08a94c64f9f4b675ebda123a8718bdfe37a9d592fd2130b9bf5fd18de7192f28", func := "limner/limnerlaw23.TileBoxes", spec := "tileBoxes", unfollowed := true, recurses := true, plainKeys := false, apart := false, narrowed := true }
def TileBoxesUptoSaid : Prop := tileBoxesUptoRow.holds Try.pinned (OpenSpec.upto tileBoxesSpec)

/-- 'limnerlaw23.TileKeys', WHERE WHAT IT READS IS OF BULK AT MOST 1048576: true; the input reads as it did. -/
def tileKeysUptoRow : OpenClaim := { program := "ytblfplkocljlgaa", sum := "08a94c64f9f4b675ebda123a8718bdfe37a9d592fd2130b9bf5fd18de7192f28", func := "limner/limnerlaw23.TileKeys", spec := "tileKeys", unfollowed := true, recurses := true, plainKeys := false, apart := false, narrowed := true }
def TileKeysUptoSaid : Prop := tileKeysUptoRow.holds Try.pinned (OpenSpec.upto tileKeysSpec)

/-- 'limnerlaw23.TileDrops', WHERE WHAT IT READS IS OF BULK AT MOST 1048576: true; the input reads as it did. -/
def tileDropsUptoRow : OpenClaim := { program := "ytblfplkocljlgaa", sum := "08a94c64f9f4b675ebda123a8718bdfe37a9d592fd2130b9bf5fd18de7192f28", func := "limner/limnerlaw23.TileDrops", spec := "tileDrops", unfollowed := true, recurses := true, plainKeys := false, apart := false, narrowed := true }
def TileDropsUptoSaid : Prop := tileDropsUptoRow.holds Try.pinned (OpenSpec.upto tileDropsSpec)

/-- 'limnerlaw23.TilePlays', WHERE WHAT IT READS IS OF BULK AT MOST 1048576: true; the input reads as it did. -/
def tilePlaysUptoRow : OpenClaim := { program := "ytblfplkocljlgaa", sum := "08a94c64f9f4b675ebda123a8718bdfe37a9d592fd2130b9bf5fd18de7192f28", func := "limner/limnerlaw23.TilePlays", spec := "tilePlays", unfollowed := true, recurses := true, plainKeys := false, apart := false, narrowed := true }
def TilePlaysUptoSaid : Prop := tilePlaysUptoRow.holds Try.pinned (OpenSpec.upto tilePlaysSpec)

/-- 'limnerlaw23.TileJoins', WHERE WHAT IT READS IS OF BULK AT MOST 1048576: true; the input reads as it did. -/
def tileJoinsUptoRow : OpenClaim := { program := "ytblfplkocljlgaa", sum := "08a94c64f9f4b675ebda123a8718bdfe37a9d592fd2130b9bf5fd18de7192f28", func := "limner/limnerlaw23.TileJoins", spec := "tileJoins", unfollowed := true, recurses := true, plainKeys := false, apart := false, narrowed := true }
def TileJoinsUptoSaid : Prop := tileJoinsUptoRow.holds Try.pinned (OpenSpec.upto tileJoinsSpec)

end Rows
end Go.Proofs.Ytblfplkocljlgaa
