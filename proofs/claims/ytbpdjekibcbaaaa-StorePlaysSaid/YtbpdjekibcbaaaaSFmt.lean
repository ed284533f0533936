import Derived.Test.YtbpdjekibcbaaaaSCom
namespace Go.Proofs.Ytbpdjekibcbaaaa
open Go.RowKit
set_option linter.unusedVariables false
set_option linter.unusedSimpArgs false

def DM.fmt (m : DM) : DM := ({ m with B := m.B.set 0 (List.replicate m.sz 0), W := [], done := m.done + 2 } : DM).saved ⟨1, 0, 0, 0⟩ [] 0 (cnt 0 m.sz 0)
def DM.fm1 (m : DM) : DM := { m with W := [(0, List.replicate m.sz 0)], done := m.done + 1 }
def DM.fm2 (m : DM) : DM := { m with B := m.B.set 0 (List.replicate m.sz 0), W := [], done := m.done + 2 }

theorem Rest.fm {m : DM} {n : Nat} (R : Rest m n) : m.write 0 (List.replicate m.sz 0) = (m.fm1, 0) ∧ m.fm1.sync = (m.fm2, 0) ∧ m.fm1.Ok (n + 2) ∧ Rest m.fm2 (n + 3) := by
  have h := R.nb.1
  have e1 : m.write ((0 : Nat) : Int) (List.replicate m.sz 0) = (m.fm1, 0) := by
    rw [write_nf m 0 _ R.left R.down (by omega), R.wait]; rfl
  have e2 : m.fm1.sync = (m.fm2, 0) := sync_nf m.fm1 R.left R.down
  have o1 := R.ok.write ((0 : Nat) : Int) (List.replicate m.sz 0) (by simp) (by rw [R.wait]; simp)
  rw [e1] at o1
  have o2 := o1.sync
  rw [e2] at o2
  exact ⟨e1, e2, o1, o2, R.left, R.down, rfl, R.sz, by simp only [DM.fm2, List.length_set]; exact R.nb⟩

set_option maxRecDepth 100000
set_option maxHeartbeats 6400000

theorem format_nil (w : World) : Calls Try.prog 13 #[.pointer none] w fun e w' => e = .returned (.int .i64 30) ∧ Ext w w' := by
  go_enter Try.func13, Try.ntmps13
  go_wp2_with fail
  refine (cap0_nil w).mono ?_
  rintro e w1 ⟨rfl, hE⟩
  have E1 := Lib.hid hE
  clear hE
  go_wp2
  go_ret
  exact ⟨rfl, E1.out⟩
theorem format_no {base : Nat} {w : World} {D : Nat} {m : DM} (K : DK base w D m) (hb : m.B.length ≤ 4096) (hz : m.sz ≤ 512) (hc : m.cap = 0) : Calls Try.prog 13 #[.pointer (some ⟨D, 0, none⟩)] w fun e w' => e = .returned (.int .i64 30) ∧ Ext w w' := by
  have CP := cap0_any K hb hz
  rw [hc] at CP
  have CPH := Lib.hid CP
  clear CP K hc
  go_enter Try.func13, Try.ntmps13
  go_wp2_with fail
  refine CPH.out.mono ?_
  rintro e w1 ⟨rfl, hE⟩
  have E1 := Lib.hid hE
  clear hE
  go_wp2
  go_ret
  exact ⟨rfl, E1.out⟩

theorem format_yes {base : Nat} {w : World} {D : Nat} {m : DM} {n : Nat} (K : DK base w D m) (R : Rest m n) (hn : n ≤ 700000) (hbase : base ≤ w.heap.size) :
    Calls Try.prog 13 #[.pointer (some ⟨D, 0, none⟩)] w fun e w' => e = .returned (.int .i64 0) ∧ DK base w' D m.fmt ∧ Rest m.fmt (n + 200) ∧ Keep w w' (TchS base w) := by
  have hb := R.bounds
  have CP := cap0_any K (by omega) (by omega)
  obtain ⟨C, hC⟩ : ∃ C, m.cap = C := ⟨_, rfl⟩
  have hC0 : ¬ C = 0 := by
    rw [← hC, hb.2.2.2.2.2.1]
    have : 0 < m.hs := by unfold DM.hs; omega
    exact Nat.ne_of_gt (Nat.mul_pos this (by omega))
  have hC1 : ((C : Int) == 0) = false := by simp; omega
  rw [hC] at CP
  have CPH := Lib.hid CP
  have HK := Lib.hid K
  have HR := Lib.hid R
  have FM := Lib.hid R.fm
  have HB := Lib.hid hbase
  obtain ⟨sz, hsz⟩ : ∃ x, m.sz = x := ⟨_, rfl⟩
  have HSZ := Lib.hid hsz
  rw [hsz] at hb
  have hs1 := hb.1
  have hs2 := hb.2.1
  clear CP K R hC hb hsz hbase
  go_enter Try.func13, Try.ntmps13
  go_wp2_with fail
  refine CPH.out.mono ?_
  rintro e w1 ⟨rfl, hE⟩
  have E1 := Lib.hid hE
  clear hE CPH
  have MK := zeros_u8 sz (by omega)
  go_wp2_with fail
  have DZ := dsize_any (HK.out.ext E1.out)
  rw [HSZ.out] at DZ
  refine DZ.mono ?_
  clear DZ
  rintro e w2 ⟨rfl, hE⟩
  have E2 := Lib.hid (E1.out.trans hE)
  clear hE E1
  go_wp2_with fail
  obtain ⟨w3, hw3⟩ : ∃ w3, w2.alloc (.cells (madeCells #[.int .u8 0] sz) 5) = w3 := ⟨_, rfl⟩
  have E3 : Hid (Ext w w3) := Lib.hid (by rw [← hw3]; exact E2.out.alloc _)
  have O3 : Hid (Own base w3 (some ⟨w2.heap.size, 0, none⟩) sz sz (List.replicate sz 0)) := Lib.hid (by rw [← hw3]; exact (own_zeros w2 sz (by omega)).mono (Nat.le_trans HB.out E2.out.size))
  have WD := write_d (base := base) 0 (.slice (some ⟨w2.heap.size, 0, none⟩) sz sz) (List.replicate sz 0) w3 (HK.out.ext E3.out) HR.out.ok (by omega) O3.out.bytes (Nat.le_trans HB.out E3.out.size) (by rw [HSZ.out]; simp)
  rw [← HSZ.out, FM.out.1, HSZ.out] at WD
  rw [hw3]
  have WDH := Lib.hid WD
  clear WD hw3 MK
  refine WDH.out.mono ?_
  rintro e w4 ⟨rfl, hD, hK4⟩
  have K4 := Lib.hid ((Keep.ofExt E3.out (TchS base w)).tchS hK4.ofTch)
  have D4 := Lib.hid hD
  clear hD hK4 WDH O3 E3 E2
  have SY := sync_d (base := base) w4 D4.out FM.out.2.2.1 (by omega) (Nat.le_trans HB.out K4.out.size)
  rw [FM.out.2.1] at SY
  have SYH := Lib.hid SY
  clear SY
  go_wp2_with fail
  refine SYH.out.mono ?_
  rintro e w5 ⟨rfl, hD, hK5⟩
  have K5 := Lib.hid (K4.out.tchS hK5.ofTch)
  have D5 := Lib.hid hD
  clear hD hK5 SYH K4 D4
  go_wp2_with fail
  obtain ⟨s, hs⟩ : ∃ s, w5.heap.size = s := ⟨_, rfl⟩
  obtain ⟨w6, hw6⟩ : ∃ w6, w5.alloc (.cells #[.pointer (some ⟨D, 0, none⟩), .int .i64 0, .int .i64 0, .int .i64 0, .int .i64 0, .slice none 0 0, .bool false] 71) = w6 := ⟨_, rfl⟩
  have E6 : Ext w5 w6 := by rw [← hw6]; exact (Ext.refl _).alloc _
  have hsb : base ≤ s := by have := K5.out.size; have := HB.out; omega
  have ST : StAt base w6 s D ⟨0, 0, 0, 0⟩ none 0 0 [] false := ⟨by rw [← hw6, ← hs]; simp only [World.alloc]; rw [Array.getElem?_push_size]; rfl, hsb, Own.nil _ _⟩
  rw [hw6, hs]
  have SV := save_any s D m.fm2 ⟨0, 0, 0, 0⟩ ⟨1, 0, 0, 0⟩ none 0 0 [] none 0 0 [] 0 (n + 3) w6 ST (D5.out.ext E6) FM.out.2.2.2 (by omega) (Own.nil _ _) (by have := K5.out.size; have := E6.size; have := HB.out; omega) (by show 1 ≤ _; omega) (by show 0 ≤ _; omega) (by show 0 ≤ _; omega) (by show 0 ≤ _; omega) (by simp) (by simp)
  have SVH := Lib.hid SV
  have K6 := Lib.hid (K5.out.tchS (Keep.ofExt E6 _))
  clear SV ST hw6 hs E6 K5 D5
  refine SVH.out.mono ?_
  rintro e w7 ⟨rfl, -, h2, h3⟩
  have RF : Hid (Rest m.fmt (n + 200)) := Lib.hid (by
    have h0 : cnt 0 m.sz 0 = 0 := by unfold cnt; rw [Nat.div_eq_of_lt (by have := HR.out.sz; omega)]
    have := FM.out.2.2.2.saved ⟨1, 0, 0, 0⟩ [] 0 (cnt 0 m.sz 0) (by omega) (by rw [h0]; intro j hj; omega)
    exact ⟨this.ok.mono (by omega), this.left, this.down, this.wait, this.sz, this.nb⟩)
  have P := Lib.hid (And.intro h2 (K6.out.tchS h3))
  clear h2 h3
  go_wp2
  go_ret
  exact ⟨rfl, P.out.1, RF.out, P.out.2⟩

end Go.Proofs.Ytbpdjekibcbaaaa
