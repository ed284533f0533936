import Derived.Test.YtblfplkocljlgaaTJoinsW
namespace Go.Proofs.Ytblfplkocljlgaa
open Go Go.RowKit
theorem TileJoins_walkI (x0 y0 x1 y1 miss salt : Int) (w : World) (hx0 : -9223372036854775808 ≤ x0 ∧ x0 ≤ 9223372036854775807) (hy0 : -9223372036854775808 ≤ y0 ∧ y0 ≤ 9223372036854775807) (hx1 : -9223372036854775808 ≤ x1 ∧ x1 ≤ 9223372036854775807) (hy1 : -9223372036854775808 ≤ y1 ∧ y1 ≤ 9223372036854775807) (hms : -9223372036854775808 ≤ miss ∧ miss ≤ 9223372036854775807) (hs : 0 ≤ salt ∧ salt ≤ 255) :
    Calls Try.prog 7 #[.agg #[.int .i64 x0, .int .i64 y0, .int .i64 x1, .int .i64 y1], .int .i64 miss, .int .u8 salt] w fun e w' => e = .returned (.bool true) ∧ Ext w w' := by
  obtain ⟨s, rfl⟩ : ∃ s : Nat, salt = (s : Int) := ⟨salt.toNat, by omega⟩
  exact TileJoins_walk x0 y0 x1 y1 miss s w hx0 hy0 hx1 hy1 hms (by omega)
end Go.Proofs.Ytblfplkocljlgaa
