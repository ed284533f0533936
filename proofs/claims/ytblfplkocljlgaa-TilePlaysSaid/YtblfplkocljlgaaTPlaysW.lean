import Derived.Test.YtblfplkocljlgaaTStep
import Derived.Test.YtblfplkocljlgaaTOpsT
namespace Go.Proofs.Ytblfplkocljlgaa
open Go.RowKit Go.ChangeMaps
set_option linter.unusedVariables false
set_option linter.unusedSimpArgs false

theorem ptr_nil (w : World) : (binOp .eql 41 (.pointer none) (.pointer none)).run Try.prog w = .ok (.bool true) w := by kernel_rfl

set_option maxRecDepth 100000 in
set_option maxHeartbeats 12800000 in
theorem TilePlays_walk (mz : Int) (v : Value) (l : List OpT) (w : World) (hm : -9223372036854775808 ≤ mz ∧ mz ≤ 9223372036854775807) (hl : OpsT w v l) :
    Calls Try.prog 6 #[.int .i64 mz, v] w fun e w' => e = .returned (.bool true) ∧ Ext w w' := by
  have KL := Lib.hid hl
  have AW := Lib.hid awake_any
  have hnl : l.length ≤ 9223372036854775807 := by obtain ⟨A, cap, rfl, h1, h2, _⟩ := hl; omega
  obtain ⟨A, cap, rfl, _⟩ := hl
  obtain ⟨N, hN⟩ : ∃ N, l.length = N := ⟨_, rfl⟩
  rw [hN] at KL hnl ⊢
  clear hN
  have pe := ptr_eql
  have pn := ptr_neq
  have pz := ptr_nil
  by_cases hmo : 1 ≤ mz ∧ mz ≤ 4096
  · obtain ⟨most, rfl⟩ : ∃ most : Nat, mz = most := ⟨mz.toNat, by omega⟩
    have hmo2 : 1 ≤ most ∧ most ≤ 4096 := by omega
    have NW := Lib.hid (new_yes most w hmo2)
    have q1 : ¬ (most : Int) < 1 := by omega
    have q2 : ¬ (4096 : Int) < (most : Int) := by omega
    by_cases hbig : 50 < N
    · have hbig' : (50 : Int) < (N : Int) := by omega
      go_enter Try.func6, Try.ntmps6
      go_wp2_with fail
      refine NW.out.mono ?_
      rintro e w1 ⟨rfl, hT, hE⟩
      have E1 := Lib.hid hE
      clear hT hE
      go_wp2_with fail
      refine (AW.out _).mono ?_
      rintro e w3 ⟨rfl, g1, rfl⟩
      go_wp2
      go_ret
      exact ⟨rfl, E1.out.ext g1⟩
    · have hbig' : ¬ (50 : Int) < (N : Int) := by omega
      have hmk := fun (w : World) => run_makeMap (P := Try.prog) 59 w
      go_enter Try.func6, Try.ntmps6
      go_wp2_with fail
      refine NW.out.mono ?_
      rintro e w1 ⟨rfl, hT, hE⟩
      obtain ⟨cc, hcc⟩ : ∃ cc, w.heap.size + 1 = cc := ⟨_, rfl⟩
      obtain ⟨FB, hFB⟩ : ∃ FB, w1.heap.size = FB := ⟨_, rfl⟩
      rw [hcc] at hT ⊢
      have ST0 : Hid (PSt w (w1.alloc (.map #[] 0)) most cc ⟨most, []⟩ (fun b => b = w.heap.size ∨ b = cc) (.slice none 0 0) FB []) := Lib.hid
        ⟨⟨hT.ext ((Ext.refl _).alloc _), ⟨by simp, by simp, by simp, hmo2⟩, rfl, Kys.nil _, fun b hb => by simp [Value.ownBlock] at hb, by rw [← hFB]; exact MapAt.made w1, fun e => by
          have h1 := hT.lt FB e
          omega, by have := hE.size; omega, fun b hb => by rcases hb with h | h <;> omega, hE.alloc _⟩, fun t ht => by simp at ht⟩
      have HFB := Lib.hid hFB
      clear hT hE hcc hFB
      go_wp2
      rw [HFB.out]
      go_loopw [6, 42] (fun t6 t42 wr => ∃ (i : Nat) (LA : Option Addr) (ln lc : Nat) (m : TM) (S : Nat → Prop) (fl : List (KK × Value)), i ≤ N ∧ t42 = .int .i64 (i : Int) ∧ t6 = .slice LA ln lc ∧ Hid (PSt w wr most cc m S (.slice LA ln lc) FB fl ∧ fl.length ≤ i)) (fun _ t42 _ => N - (intOf t42).toNat)
      case atStart => exact ⟨0, none, 0, 0, _, _, [], by omega, rfl, rfl, Lib.hid ⟨ST0.out, by simp⟩⟩
      case round =>
        obtain ⟨i, LA, ln, lc, m, S, fl, hi, rfl, rfl, ST⟩ := hrel
        by_cases hlt : i < N
        · have hlt' : (i : Int) < (N : Int) := by omega
          obtain ⟨bk, off, kind, x, y, fill, wide, b0, b1, b2, b3, rfl, hbs, hok, c0, c1, c2, c3, c4, c5, c6, c7, c8⟩ := (KL.out.ext ST.out.1.sh.ext).at hlt
          have OK := Lib.hid hok
          have SX : Hid (∀ wx, Ext wr wx → Calls Try.prog 27 #[.pointer (some ⟨cc, 0, none⟩), .slice LA ln lc, .map (some FB), .int .i64 (most : Int), .agg #[.int .i64 kind, .int .i64 x, .int .i64 y, .int .u8 (fill : Int), .bool wide, .int .i64 b0, .int .i64 b1, .int .i64 b2, .int .i64 b3]] wx (SPost w most cc FB (fl.length + 1))) := Lib.hid
            (fun wx hx => step_any w wx most cc m S LA ln lc FB fl kind x y fill wide b0 b1 b2 b3 (ST.out.1.grow hx) (by have := ST.out.2; omega) OK.out)
          clear hok
          go_wp2_with fail
          refine (SX.out _ ((Ext.refl _).alloc _)).mono ?_
          rintro e w3 ⟨m3, S3, A3, n3, k3, fl3, rfl, hP, hfl⟩
          have P3 := Lib.hid (And.intro hP hfl)
          have hn3 : n3 = m3.l.length := by rw [← keys_len]; exact hP.sh.ls.len
          have hm3 : m3.l.length ≤ 4096 := by have := hP.sh.ok.ln; have := hP.sh.ok.mo; omega
          obtain ⟨M, hM⟩ : ∃ M, m3.l.length = M := ⟨_, rfl⟩
          rw [hM] at hn3 hm3
          have HM := Lib.hid hM
          subst hn3
          clear hP hfl hM c0 c1 c2 c3 c4 c5 c6 c7 c8
          go_wp2_with fail
          refine (all_any cc m3 S3 w3 P3.out.1.sh.tk (by have := HM.out; omega)).mono ?_
          rintro e w4 ⟨v4, rfl, hO, hE⟩
          obtain ⟨A4, c4, rfl⟩ := own_slice hO.1
          rw [keys_len, HM.out] at hO ⊢
          have O4 := Lib.hid hO
          have P4 := Lib.hid (P3.out.1.grow hE)
          clear hO hE
          go_wp2_with fail
          refine (len_any cc m3 S3 w4 P4.out.sh.tk).mono ?_
          rintro e w5 ⟨rfl, rfl⟩
          rw [HM.out]
          go_wp2
          go_loopw [76] (fun t76 wr => ∃ j : Nat, j ≤ n3 ∧ t76 = .int .i64 (j : Int) ∧ Hid (Ext w5 wr)) (fun t76 _ => n3 - (intOf t76).toNat)
          case atStart => exact ⟨0, by omega, rfl, Lib.hid (Ext.refl _)⟩
          case round =>
            obtain ⟨j, hj, rfl, EJ⟩ := hrel
            by_cases hjl : j < n3
            · have hjl' : (j : Int) < (n3 : Int) := by omega
              obtain ⟨bA, oA, u, v, hA, hbA, hpA, hin, a0, a1⟩ := ((O4.out.ext EJ.out).kys).at (i := j) hjl
              obtain ⟨bB, oB, u', v', hB, hbB, hpB, hinB, d0, d1⟩ := (P4.out.sh.ls.ext EJ.out).at (i := j) hjl
              have huv := hpA.symm.trans hpB
              simp only [Prod.mk.injEq] at huv
              obtain ⟨rfl, rfl⟩ := huv
              subst hA hB
              have CK := Lib.hid (fun wx => refK_any u v wx)
              clear hpA hpB hin hinB
              go_wp2
              refine region_quiet (by kernel_rfl) (by kernel_rfl) ?_
              iterate 10 (go_big_quiet_step (exact calls_ext (CK.out _)))
              refine wpQuiet_nil ?_
              rintro _ ⟨g9, rfl⟩
              clear a0 a1 d0 d1
              go_wp2
              go_roundw
              case rel => exact ⟨j + 1, by omega, by go_num, Lib.hid (EJ.out.ext g9)⟩
              case measure => simp [intOf]; omega
            · have hjl' : ¬ (j : Int) < (n3 : Int) := by omega
              go_wp2
              go_roundw
              case rel => exact ⟨i + 1, A3, n3, k3, m3, S3, fl3, by omega, by go_num, rfl, Lib.hid ⟨P4.out.grow EJ.out, by have := P3.out.2; have := ST.out.2; omega⟩⟩
              case measure => simp [intOf]; omega
        · have hlt' : ¬ (i : Int) < (N : Int) := by omega
          go_wp2_with fail
          refine (AW.out _).mono ?_
          rintro e w3 ⟨rfl, g1, rfl⟩
          go_wp2
          go_ret
          exact ⟨rfl, ST.out.1.sh.ext.ext g1⟩
  · have NW := Lib.hid (new_no mz w hm hmo)
    by_cases h1 : mz < 1
    · go_enter Try.func6, Try.ntmps6
      go_wp2_with fail
      refine NW.out.mono ?_
      rintro e w1 ⟨rfl, rfl⟩
      go_wp2_with fail
      refine (AW.out _).mono ?_
      rintro e w3 ⟨rfl, g1, rfl⟩
      go_wp2
      go_ret
      exact ⟨rfl, (Ext.refl _).ext g1⟩
    · have h2 : 4096 < mz := by omega
      go_enter Try.func6, Try.ntmps6
      go_wp2_with fail
      refine NW.out.mono ?_
      rintro e w1 ⟨rfl, rfl⟩
      go_wp2_with fail
      refine (AW.out _).mono ?_
      rintro e w3 ⟨rfl, g1, rfl⟩
      go_wp2
      go_ret
      exact ⟨rfl, (Ext.refl _).ext g1⟩

end Go.Proofs.Ytblfplkocljlgaa
