/-
  No cell of these rows narrows 'for every input' (looked for: loops, veiled, ifaces, maps, wideKeys, modest, calm, conditions, laid).
  DERIVED. THE GIVEN ROWS OF THIS SEAT. 7 by the template 'for every input the law returns true; each argument reads behind the call as it read before'; 0 by the template 'total and deterministic' (their statements: YtnginblfdamfbaaTotals.lean).
  GIVEN WITH THE SEED: the statements are not yours to turn. If you find one false, say at which input.
  Laid BY PROGRAM, IN A SANDBOX (cutbox-rows.mjs): the forced cells as the released guide's own fill.sh prints them over the translation a27b570973e7abc0… (all of the seat's roots in one cut). By AI agents, Wed Nov 11 2026. No macro, syntax, notation, axiom, sorry.
-/
import Derived.Test.YtnginblfdamfbaaChecked
import GoSem.Claim
import GoSem.ClaimJoined
import GoSem.ClaimMapViews
import Derived.JoinedTies
import Derived.KernelRfl
namespace Go.Proofs.Ytnginblfdamfbaa
/- THE CELL 'sum', in the pinned program and in every row, IS THE sha256 OF THE DUMP (.gsa) THAT YtnginblfdamfbaaProg.lean LOADS. Nothing in Lean hashes anything: it is a label: what it is worth is what the hold of that sum in a sandbox is worth. -/
noncomputable def Try.pinned : Pinned := { name := "ytnginblfdamfbaa", sum := "a27b570973e7abc019a3bdc1723adc738103adc5da048de61dd1a4f9845ee989", checked := Try.checked }
namespace Rows
def none {H : Type} : Left H := { results := [], args := [] }

/-- 'limnerlaw10.PaintOvers': WHATEVER THE INPUT: true; the input reads as it did. -/
def paintOversSpec : ChangeSpec := { name := "paintOvers", fn := fun _ => fun
  | [d1, d2] => { results := [.lit (.bool true)], args := [d1, d2] }
  | _ => none }
def paintOversRow : OpenClaim := { program := "ytnginblfdamfbaa", sum := "a27b570973e7abc019a3bdc1723adc738103adc5da048de61dd1a4f9845ee989", func := "limner/limnerlaw10.PaintOvers", spec := "paintOvers", unfollowed := true, recurses := true, apart := false }
def PaintOversSaid : Prop := paintOversRow.holds Try.pinned (OpenSpec.ofChange paintOversSpec)

/-- ITS FALSE NEIGHBOUR: 'it returns false'. Refute it at one input. -/
def paintOversWrong : ChangeSpec := { name := "paintOvers", fn := fun _ => fun
  | [d1, d2] => { results := [.lit (.bool false)], args := [d1, d2] }
  | _ => none }
def PaintOversWrongFalsely : Prop := paintOversRow.holds Try.pinned (OpenSpec.ofChange paintOversWrong)

/-- 'limnerlaw10.PaintFades': WHATEVER THE INPUT: true; the input reads as it did. -/
def paintFadesSpec : ChangeSpec := { name := "paintFades", fn := fun _ => fun
  | [d1, d2, d3] => { results := [.lit (.bool true)], args := [d1, d2, d3] }
  | _ => none }
def paintFadesRow : OpenClaim := { program := "ytnginblfdamfbaa", sum := "a27b570973e7abc019a3bdc1723adc738103adc5da048de61dd1a4f9845ee989", func := "limner/limnerlaw10.PaintFades", spec := "paintFades", unfollowed := true, recurses := true, apart := false }
def PaintFadesSaid : Prop := paintFadesRow.holds Try.pinned (OpenSpec.ofChange paintFadesSpec)

/-- ITS FALSE NEIGHBOUR: 'it returns false'. Refute it at one input. -/
def paintFadesWrong : ChangeSpec := { name := "paintFades", fn := fun _ => fun
  | [d1, d2, d3] => { results := [.lit (.bool false)], args := [d1, d2, d3] }
  | _ => none }
def PaintFadesWrongFalsely : Prop := paintFadesRow.holds Try.pinned (OpenSpec.ofChange paintFadesWrong)

/-- 'limnerlaw10.PaintOf': WHATEVER THE INPUT: true; the input reads as it did. -/
def paintOfSpec : ChangeSpec := { name := "paintOf", fn := fun _ => fun
  | [d1, d2] => { results := [.lit (.bool true)], args := [d1, d2] }
  | _ => none }
def paintOfRow : OpenClaim := { program := "ytnginblfdamfbaa", sum := "a27b570973e7abc019a3bdc1723adc738103adc5da048de61dd1a4f9845ee989", func := "limner/limnerlaw10.PaintOf", spec := "paintOf", unfollowed := true, recurses := true, apart := false }
def PaintOfSaid : Prop := paintOfRow.holds Try.pinned (OpenSpec.ofChange paintOfSpec)

/-- ITS FALSE NEIGHBOUR: 'it returns false'. Refute it at one input. -/
def paintOfWrong : ChangeSpec := { name := "paintOf", fn := fun _ => fun
  | [d1, d2] => { results := [.lit (.bool false)], args := [d1, d2] }
  | _ => none }
def PaintOfWrongFalsely : Prop := paintOfRow.holds Try.pinned (OpenSpec.ofChange paintOfWrong)

/-- 'limnerlaw10.PaintMixes': WHATEVER THE INPUT: true; the input reads as it did. -/
def paintMixesSpec : ChangeSpec := { name := "paintMixes", fn := fun _ => fun
  | [d1, d2, d3] => { results := [.lit (.bool true)], args := [d1, d2, d3] }
  | _ => none }
def paintMixesRow : OpenClaim := { program := "ytnginblfdamfbaa", sum := "a27b570973e7abc019a3bdc1723adc738103adc5da048de61dd1a4f9845ee989", func := "limner/limnerlaw10.PaintMixes", spec := "paintMixes", unfollowed := true, recurses := true, apart := false }
def PaintMixesSaid : Prop := paintMixesRow.holds Try.pinned (OpenSpec.ofChange paintMixesSpec)

/-- ITS FALSE NEIGHBOUR: 'it returns false'. Refute it at one input. -/
def paintMixesWrong : ChangeSpec := { name := "paintMixes", fn := fun _ => fun
  | [d1, d2, d3] => { results := [.lit (.bool false)], args := [d1, d2, d3] }
  | _ => none }
def PaintMixesWrongFalsely : Prop := paintMixesRow.holds Try.pinned (OpenSpec.ofChange paintMixesWrong)

/-- 'limnerlaw10.PaintBlends': WHATEVER THE INPUT: true; the input reads as it did. -/
def paintBlendsSpec : ChangeSpec := { name := "paintBlends", fn := fun _ => fun
  | [d1, d2, d3] => { results := [.lit (.bool true)], args := [d1, d2, d3] }
  | _ => none }
def paintBlendsRow : OpenClaim := { program := "ytnginblfdamfbaa", sum := "a27b570973e7abc019a3bdc1723adc738103adc5da048de61dd1a4f9845ee989", func := "limner/limnerlaw10.PaintBlends", spec := "paintBlends", unfollowed := true, recurses := true, apart := false }
def PaintBlendsSaid : Prop := paintBlendsRow.holds Try.pinned (OpenSpec.ofChange paintBlendsSpec)

/-- ITS FALSE NEIGHBOUR: 'it returns false'. Refute it at one input. -/
def paintBlendsWrong : ChangeSpec := { name := "paintBlends", fn := fun _ => fun
  | [d1, d2, d3] => { results := [.lit (.bool false)], args := [d1, d2, d3] }
  | _ => none }
def PaintBlendsWrongFalsely : Prop := paintBlendsRow.holds Try.pinned (OpenSpec.ofChange paintBlendsWrong)

/-- 'limnerlaw10.PaintWays': WHATEVER THE INPUT: true; the input reads as it did. -/
def paintWaysSpec : ChangeSpec := { name := "paintWays", fn := fun _ => fun
  | [d1, d2] => { results := [.lit (.bool true)], args := [d1, d2] }
  | _ => none }
def paintWaysRow : OpenClaim := { program := "ytnginblfdamfbaa", sum := "a27b570973e7abc019a3bdc1723adc738103adc5da048de61dd1a4f9845ee989", func := "limner/limnerlaw10.PaintWays", spec := "paintWays", unfollowed := true, recurses := true, apart := false }
def PaintWaysSaid : Prop := paintWaysRow.holds Try.pinned (OpenSpec.ofChange paintWaysSpec)

/-- ITS FALSE NEIGHBOUR: 'it returns false'. Refute it at one input. -/
def paintWaysWrong : ChangeSpec := { name := "paintWays", fn := fun _ => fun
  | [d1, d2] => { results := [.lit (.bool false)], args := [d1, d2] }
  | _ => none }
def PaintWaysWrongFalsely : Prop := paintWaysRow.holds Try.pinned (OpenSpec.ofChange paintWaysWrong)

/-- 'limnerlaw10.PaintShades': WHATEVER THE INPUT: true; the input reads as it did. -/
def paintShadesSpec : ChangeSpec := { name := "paintShades", fn := fun _ => fun
  | [d1, d2] => { results := [.lit (.bool true)], args := [d1, d2] }
  | _ => none }
def paintShadesRow : OpenClaim := { program := "ytnginblfdamfbaa", sum := "a27b570973e7abc019a3bdc1723adc738103adc5da048de61dd1a4f9845ee989", func := "limner/limnerlaw10.PaintShades", spec := "paintShades", unfollowed := true, recurses := true, apart := false }
def PaintShadesSaid : Prop := paintShadesRow.holds Try.pinned (OpenSpec.ofChange paintShadesSpec)

/-- ITS FALSE NEIGHBOUR: 'it returns false'. Refute it at one input. -/
def paintShadesWrong : ChangeSpec := { name := "paintShades", fn := fun _ => fun
  | [d1, d2] => { results := [.lit (.bool false)], args := [d1, d2] }
  | _ => none }
def PaintShadesWrongFalsely : Prop := paintShadesRow.holds Try.pinned (OpenSpec.ofChange paintShadesWrong)

/- THE SECOND FORM. 'bulk': how many values and letters a reading holds, each counted each time it is reached (what is shared counts as often as it is met; a slice's spare places count too). A statement '..UptoSaid' is the law's where the arguments, and the package variables that the reading takes, are together of bulk at most 1048576: NARROWER than '..Said'. Prove '..Said' where nothing that the law and all that it calls make is longer than what came in: it says more and counts as full. Else prove '..UptoSaid'. A law counts once. -/
mutual
def uptoBulk {H : Type} : DataW H → Nat
  | .lit (.string bytes) => bytes.length + 1
  | .lit _ => 1
  | .nil => 1
  | .ptr d => uptoBulk d + 1
  | .slice elems spare => uptoBulkAll elems + uptoBulkAll spare + 1
  | .agg parts => uptoBulkAll parts + 1
  | .iface _ d => uptoBulk d + 1
  | .map entries => uptoBulkEntries entries + 1
  | .held _ => 1
def uptoBulkAll {H : Type} : List (DataW H) → Nat
  | [] => 0
  | d :: r => uptoBulk d + uptoBulkAll r
def uptoBulkEntries {H : Type} : List (Lit × DataW H) → Nat
  | [] => 0
  | x :: r => uptoBulkEntry x + uptoBulkEntries r
def uptoBulkEntry {H : Type} : Lit × DataW H → Nat
  | (.string bytes, d) => bytes.length + uptoBulk d + 1
  | (_, d) => uptoBulk d + 1
 end
def uptoSmall : (H : Type) → List (DataW H) → Bool := fun _ ds => decide (uptoBulkAll ds ≤ 1048576)
def OpenSpec.upto (s : _root_.Go.ChangeSpec) : _root_.Go.OpenSpec := { _root_.Go.OpenSpec.ofChange s with cond := some uptoSmall }

/-- 'limnerlaw10.PaintOvers', WHERE WHAT IT READS IS OF BULK AT MOST 1048576: true; the input reads as it did. -/
def paintOversUptoRow : OpenClaim := { program := "ytnginblfdamfbaa", sum := "a27b570973e7abc019a3bdc1723adc738103adc5da048de61dd1a4f9845ee989", func := "limner/limnerlaw10.PaintOvers", spec := "paintOvers", unfollowed := true, recurses := true, apart := false, narrowed := true }
def PaintOversUptoSaid : Prop := paintOversUptoRow.holds Try.pinned (OpenSpec.upto paintOversSpec)

/-- 'limnerlaw10.PaintFades', WHERE WHAT IT READS IS OF BULK AT MOST 1048576: true; the input reads as it did. -/
def paintFadesUptoRow : OpenClaim := { program := "ytnginblfdamfbaa", sum := "a27b570973e7abc019a3bdc1723adc738103adc5da048de61dd1a4f9845ee989", func := "limner/limnerlaw10.PaintFades", spec := "paintFades", unfollowed := true, recurses := true, apart := false, narrowed := true }
def PaintFadesUptoSaid : Prop := paintFadesUptoRow.holds Try.pinned (OpenSpec.upto paintFadesSpec)

/-- 'limnerlaw10.PaintOf', WHERE WHAT IT READS IS OF BULK AT MOST 1048576: true; the input reads as it did. -/
def paintOfUptoRow : OpenClaim := { program := "ytnginblfdamfbaa", sum := "a27b570973e7abc019a3bdc1723adc738103adc5da048de61dd1a4f9845ee989", func := "limner/limnerlaw10.PaintOf", spec := "paintOf", unfollowed := true, recurses := true, apart := false, narrowed := true }
def PaintOfUptoSaid : Prop := paintOfUptoRow.holds Try.pinned (OpenSpec.upto paintOfSpec)

/-- 'limnerlaw10.PaintMixes', WHERE WHAT IT READS IS OF BULK AT MOST 1048576: true; the input reads as it did. -/
def paintMixesUptoRow : OpenClaim := { program := "ytnginblfdamfbaa", sum := "a27b570973e7abc019a3bdc1723adc738103adc5da048de61dd1a4f9845ee989", func := "limner/limnerlaw10.PaintMixes", spec := "paintMixes", unfollowed := true, recurses := true, apart := false, narrowed := true }
def PaintMixesUptoSaid : Prop := paintMixesUptoRow.holds Try.pinned (OpenSpec.upto paintMixesSpec)

/-- 'limnerlaw10.PaintBlends', WHERE WHAT IT READS IS OF BULK AT MOST 1048576: true; the input reads as it did. -/
def paintBlendsUptoRow : OpenClaim := { program := "ytnginblfdamfbaa", sum := "a27b570973e7abc019a3bdc1723adc738103adc5da048de61dd1a4f9845ee989", func := "limner/limnerlaw10.PaintBlends", spec := "paintBlends", unfollowed := true, recurses := true, apart := false, narrowed := true }
def PaintBlendsUptoSaid : Prop := paintBlendsUptoRow.holds Try.pinned (OpenSpec.upto paintBlendsSpec)

/-- 'limnerlaw10.PaintWays', WHERE WHAT IT READS IS OF BULK AT MOST 1048576: true; the input reads as it did. -/
def paintWaysUptoRow : OpenClaim := { program := "ytnginblfdamfbaa", sum := "a27b570973e7abc019a3bdc1723adc738103adc5da048de61dd1a4f9845ee989", func := "limner/limnerlaw10.PaintWays", spec := "paintWays", unfollowed := true, recurses := true, apart := false, narrowed := true }
def PaintWaysUptoSaid : Prop := paintWaysUptoRow.holds Try.pinned (OpenSpec.upto paintWaysSpec)

/-- 'limnerlaw10.PaintShades', WHERE WHAT IT READS IS OF BULK AT MOST 1048576: true; the input reads as it did. -/
def paintShadesUptoRow : OpenClaim := { program := "ytnginblfdamfbaa", sum := "a27b570973e7abc019a3bdc1723adc738103adc5da048de61dd1a4f9845ee989", func := "limner/limnerlaw10.PaintShades", spec := "paintShades", unfollowed := true, recurses := true, apart := false, narrowed := true }
def PaintShadesUptoSaid : Prop := paintShadesUptoRow.holds Try.pinned (OpenSpec.upto paintShadesSpec)

end Rows
end Go.Proofs.Ytnginblfdamfbaa
