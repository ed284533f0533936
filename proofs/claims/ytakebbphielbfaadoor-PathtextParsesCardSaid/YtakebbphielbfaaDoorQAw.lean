import Derived.Test.YtakebbphielbfaaDoorQSh
namespace Go.Proofs.YtakebbphielbfaaDoor
open Go.RowKit
set_option linter.unusedVariables false
set_option linter.unusedSimpArgs false
set_option maxRecDepth 100000
set_option maxHeartbeats 6400000

def awakeP : List Sg := [⟨1, (256, 512), (0, 0), (0, 0)⟩, ⟨2, (1024, 1536), (0, 0), (0, 0)⟩, ⟨5, (0, 0), (0, 0), (0, 0)⟩]
theorem awake_read : readS [109, 49, 44, 50, 32, 51, 44, 52, 122] = (0, 6, awakeP) := by decide +kernel
theorem awake_show : showT awakeP = [77, 32, 49, 32, 50, 32, 76, 32, 52, 32, 54, 32, 90] ∧ checkL false awakeP = 0 := by decide +kernel

theorem awake_any (w : World) (hI : IV w) : Calls Tryd.prog 6 #[] w fun e w' => e = .returned (.bool true) ∧ Ext w w' := by
  have RD := Lib.hid (read_any [109, 49, 44, 50, 32, 51, 44, 52, 122] w (by decide) hI)
  have HI := Lib.hid hI
  rw [awake_read] at RD
  dsimp only at RD
  clear hI
  go_enter Tryd.func6, Tryd.ntmps6
  go_wp2_with fail
  refine RD.out.mono ?_
  rintro e w1 ⟨v, rfl, hO, hE⟩
  obtain ⟨A, c, rfl⟩ := hO.slice
  have SH := Lib.hid (show_any A awakeP.length c awakeP w1 hO.sl (HI.out.ext hE) (by decide))
  rw [awake_show.1, awake_show.2] at SH
  have E1 := Lib.hid hE
  clear hE hO RD
  have eb : (ba [77, 32, 49, 32, 50, 32, 76, 32, 52, 32, 54, 32, 90]).toList = [77, 32, 49, 32, 50, 32, 76, 32, 52, 32, 54, 32, 90] := ba_list _
  have ec : (({ data := #[77, 32, 49, 32, 50, 32, 76, 32, 52, 32, 54, 32, 90] } : ByteArray)).toList = [77, 32, 49, 32, 50, 32, 76, 32, 52, 32, 54, 32, 90] := ba_list [77, 32, 49, 32, 50, 32, 76, 32, 52, 32, 54, 32, 90]
  go_wp2_with fail
  refine SH.out.mono ?_
  rintro e w2 ⟨rfl, hE⟩
  have E2 := Lib.hid (E1.out.trans hE)
  clear hE SH
  go_wp2
  go_ret
  exact ⟨by rfl, E2.out⟩
end Go.Proofs.YtakebbphielbfaaDoor
