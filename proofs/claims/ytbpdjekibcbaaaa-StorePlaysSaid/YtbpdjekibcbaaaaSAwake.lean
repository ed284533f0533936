import Derived.Test.YtbpdjekibcbaaaaSMade
namespace Go.Proofs.Ytbpdjekibcbaaaa
open Go.RowKit
set_option linter.unusedVariables false
set_option linter.unusedSimpArgs false

theorem bools_nil (base : Nat) (w : World) : Bools base w (.slice none 0 0) [] := ⟨none, 0, rfl, by simp, fun h => by simp at h⟩
def hello : List Nat := [104, 101, 108, 108, 111]
def aM : DM := madeM 10 32
def aN : DM := aM.app ⟨1, 0, 0, 0⟩ [] hello
def aC : DM := aN.crash [] (-1) 0

theorem hd_ext {h : Hd} {a b c d : Nat} (h1 : h.gen = a ∧ h.half = b ∧ h.snap = c ∧ h.log = d) : h = ⟨a, b, c, d⟩ := by
  obtain ⟨x, y, z, u⟩ := h
  obtain ⟨rfl, rfl, rfl, rfl⟩ := h1
  rfl
theorem a_fold : foldH aC 2 = ⟨2, 0, 0, 5⟩ := hd_ext (by decide +kernel)
theorem a_now : (aC.now (2 + 0 * aC.hs)).take 5 = hello := by decide +kernel
theorem a_cap : aC.cap = 128 := by decide +kernel
theorem a_hs : aM.hs * aM.sz = 128 := by decide +kernel
theorem a_sz : aC.sz = 32 := by decide +kernel
theorem Rest.crash {m : DM} {n : Nat} (R : Rest m n) (k : List Bool) (t c : Int) : Rest (m.crash k t c) n :=
  ⟨R.ok.crash k t c, rfl, rfl, rfl, R.sz, by simp only [DM.crash, crB_len]; exact R.nb⟩

set_option maxRecDepth 100000 in
set_option maxHeartbeats 6400000 in
theorem awake_any (w : World) : Calls Try.prog 6 #[] w fun e w' => e = .returned (.bool true) ∧ Ext w w' := by
  have MA := Lib.hid (made_any 10 32 w (by omega) (by omega))
  go_enter Try.func6, Try.ntmps6
  go_wp2_with fail
  refine MA.out.mono ?_
  rintro e w1 ⟨s, D, rfl, hS, hE⟩
  have S1 : Hid (StOk w.heap.size w1 s D aM ⟨1, 0, 0, 0⟩ [] 210) := Lib.hid hS
  have E1 := Lib.hid hE
  clear hS hE MA
  have CV : (convert 24 24 (.slice (some ⟨w1.heap.size, 0, none⟩) 5 5)).run Try.prog (w1.alloc (.cells #[.int .u8 104, .int .u8 101, .int .u8 108, .int .u8 108, .int .u8 111] 5)) = .ok (.slice (some ⟨w1.heap.size, 0, none⟩) 5 5) (w1.alloc (.cells #[.int .u8 104, .int .u8 101, .int .u8 108, .int .u8 108, .int .u8 111] 5 (5, 6))) := conv_const w1 _ 5 5 _ rfl
  go_wp2_with fail
  obtain ⟨w2, hw2⟩ : ∃ w2, w1.alloc (.cells #[.int .u8 104, .int .u8 101, .int .u8 108, .int .u8 108, .int .u8 111] 5 (5, 6)) = w2 := ⟨_, rfl⟩
  have B2 : Hid (Bytes w2 (.slice (some ⟨w1.heap.size, 0, none⟩) 5 5) hello) := Lib.hid (by rw [← hw2]; exact bytes_lit w1 hello _ (5, 6) rfl (lt_of_all (by decide)) (by decide))
  have E2' : Ext w1 w2 := by rw [← hw2]; exact (Ext.refl w1).alloc _
  have S2 := Lib.hid (S1.out.ext E2')
  have E2 := Lib.hid (E1.out.trans E2')
  rw [hw2]
  clear hw2 CV E2' S1 E1
  refine (append_yes _ hello S2.out (by omega) B2.out (by rw [a_hs]; decide)).mono ?_
  rintro e w3 ⟨rfl, hS, hK⟩
  have S3 := Lib.hid hS
  have E3 := Lib.hid (Keep.more E2.out hK)
  clear hS hK S2 E2 B2
  go_wp2_with fail
  refine (crash_d (.slice none 0 0) [] (-1) 0 w3 S3.out.dk S3.out.r.ok (by omega) E3.out.size (bools_nil _ _) (by simp) (by omega) (by omega)).mono ?_
  rintro e w4 ⟨⟨v, rfl⟩, hD, hK⟩
  have D4 : Hid (DK w.heap.size w4 D aC) := Lib.hid hD
  have R4 : Hid (Rest aC 310) := Lib.hid (S3.out.r.crash _ _ _)
  have E4 := Lib.hid (Keep.more E3.out hK.ofTch)
  clear hD hK S3 E3
  have OP := open_all D4.out R4.out (by omega) E4.out.size (by rw [a_fold, a_sz]; decide)
  rw [a_fold] at OP
  have OPH := Lib.hid OP
  clear OP
  go_wp2_with fail
  refine OPH.out.mono ?_
  rintro e w5 ⟨x, rfl, hK, -, h2⟩
  obtain ⟨t, m', A, k, cap, rfl, hsl, hD, hR, hm, hS⟩ := h2 (by simp)
  rw [a_now] at hS
  have E5 := Lib.hid (Keep.more E4.out hK)
  have D5 := Lib.hid hD
  have ST5 := Lib.hid hS
  have HM : Hid (m'.cap = 128 ∧ m'.B.length ≤ 4096 ∧ m'.sz ≤ 512) := Lib.hid (by
    have hb := hR.bounds
    refine ⟨?_, by omega, by omega⟩
    rw [hm, ← a_cap]
    unfold opnM
    rw [if_neg (by decide)]
    exact (bumps_eq aC 2).2.2.2.2)
  clear hK hD hR hS h2 hsl hm D4 R4 E4 OPH
  rw [if_neg (by simp)]
  go_wp2_with fail
  refine (log_any ST5.out (by simp) (by decide)).mono ?_
  rintro e w6 ⟨A6, n6, c6, rfl, hO, hE⟩
  have B6 : Hid (Bytes w6 (.slice A6 n6 c6) hello) := Lib.hid hO.bytes
  have E6 := Lib.hid (E5.out.trans hE)
  have D6 := Lib.hid (D5.out.ext hE)
  have ST6 := Lib.hid (ST5.out.ext hE)
  have C6 : (convert 24 9 (.slice A6 n6 c6)).run Try.prog w6 = .ok (.string { data := #[104, 101, 108, 108, 111] }) w6 := conv_bytes B6.out
  have CP := scap_any ST6.out D6.out HM.out.2.1 HM.out.2.2
  rw [HM.out.1] at CP
  have CPH := Lib.hid CP
  clear hO hE E5 D5 ST5 CP
  go_wp2_with fail
  refine CPH.out.mono ?_
  rintro e w7 ⟨rfl, hE⟩
  have E7 := Lib.hid (E6.out.trans hE)
  clear hE E6 CPH
  go_wp2
  go_ret
  exact ⟨rfl, E7.out⟩

end Go.Proofs.Ytbpdjekibcbaaaa
