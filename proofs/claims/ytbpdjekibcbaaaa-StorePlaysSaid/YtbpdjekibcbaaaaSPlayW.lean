import Derived.Test.YtbpdjekibcbaaaaSPlay
namespace Go.Proofs.Ytbpdjekibcbaaaa
open Go.RowKit

theorem StorePlays_walk (n z : Int) (v : Value) (os : List OpV) (w : World) (hn : I64 n) (hz : I64 z) (hO : OpsAt w v os) :
    Calls Try.prog 5 #[.int .i64 n, .int .i64 z, v] w fun e w' => e = .returned (.bool true) ∧ Ext w w' := by
  by_cases h : 60 < n ∨ ¬ (1 ≤ n ∧ n ≤ 4096 ∧ 16 ≤ z ∧ z ≤ 512) ∨ n < 4 ∨ z < 32
  · exact plays_few n z v w ⟨hn, hz⟩ h
  · obtain ⟨n, rfl⟩ := Int.eq_ofNat_of_zero_le (show 0 ≤ n by omega)
    obtain ⟨z, rfl⟩ := Int.eq_ofNat_of_zero_le (show 0 ≤ z by omega)
    exact StorePlays_main n z v os w (by omega) (by omega) hO

end Go.Proofs.Ytbpdjekibcbaaaa
