import Derived.Test.YtbpdjekibcbaaaaSHeadN
import Derived.Test.YtbpdjekibcbaaaaSHeadY
namespace Go.Proofs.Ytbpdjekibcbaaaa
open Go.RowKit
set_option linter.unusedVariables false
set_option linter.unusedSimpArgs false
set_option maxRecDepth 100000

set_option maxHeartbeats 12800000 in
theorem StoreHeaders_walk (a0 a1 a2 a3 sz cp : Int) (v : Value) (bl : List Nat) (w : World) (h0 : I64 a0) (h1 : I64 a1) (h2 : I64 a2) (h3 : I64 a3) (h4 : I64 sz) (hcp : I64 cp) (hB : Bytes w v bl) :
    Calls Try.prog 3 #[.agg #[.int .i64 a0, .int .i64 a1, .int .i64 a2, .int .i64 a3, .int .i64 sz, .int .i64 cp, v]] w fun e w' => e = .returned (.bool true) ∧ Ext w w' := by
  obtain ⟨Av, cv, rfl, hrest⟩ := hB
  have hB : Bytes w (.slice Av bl.length cv) bl := ⟨Av, cv, rfl, hrest⟩
  clear hrest
  obtain ⟨N, hN⟩ : ∃ N, N = bl.length := ⟨_, rfl⟩
  rw [← hN] at hB ⊢
  have AW := Lib.hid (fun wx => awake_any wx)
  have EZ : Hid (Ext w ((w.alloc (.cells #[.int .i64 a0, .int .i64 a1, .int .i64 a2, .int .i64 a3, .int .i64 sz, .int .i64 cp, .slice Av N cv] 26)).alloc (.cells #[.int .i64 a0, .int .i64 a1, .int .i64 a2, .int .i64 a3] 23))) := Lib.hid (((Ext.refl w).alloc _).alloc _)
  by_cases c1 : 600 < sz
  · clear hB hN h0 h1 h2 h3 h4 hcp
    go_enter Try.func3, Try.ntmps3
    go_wp2_with fail
    refine (AW.out _).mono ?_
    rintro e w9 ⟨rfl, hE⟩
    have E9 := Lib.hid (EZ.out.trans hE)
    clear hE
    go_wp2
    go_ret
    exact ⟨rfl, E9.out⟩
  · by_cases c2 : 600 < N
    · have c2' : (600 : Int) < (N : Int) := by omega
      clear hB hN h0 h1 h2 h3 h4 hcp
      go_enter Try.func3, Try.ntmps3
      go_wp2_with fail
      refine (AW.out _).mono ?_
      rintro e w9 ⟨rfl, hE⟩
      have E9 := Lib.hid (EZ.out.trans hE)
      clear hE
      go_wp2
      go_ret
      exact ⟨rfl, E9.out⟩
    · clear EZ AW
      by_cases hE : EncB a0 a1 a2 a3 sz
      · have h9 := hE
        unfold EncB at h9
        obtain ⟨g, rfl⟩ := Int.eq_ofNat_of_zero_le h9.2.1
        obtain ⟨hf, rfl⟩ := Int.eq_ofNat_of_zero_le h9.2.2.1
        obtain ⟨sn, rfl⟩ := Int.eq_ofNat_of_zero_le h9.2.2.2.2.1
        obtain ⟨lg, rfl⟩ := Int.eq_ofNat_of_zero_le h9.2.2.2.2.2.2.1
        obtain ⟨z, rfl⟩ := Int.eq_ofNat_of_zero_le (show 0 ≤ sz by omega)
        unfold I64 at h0
        exact heads_yes g hf sn lg z cp Av N cv bl w hcp hB hN c2 (by omega) (by omega) (by omega) (by omega) (by omega)
      · exact heads_no a0 a1 a2 a3 sz cp Av N cv bl w hcp hB hN c1 c2 hE

end Go.Proofs.Ytbpdjekibcbaaaa
