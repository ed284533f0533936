import Derived.Test.YtbpdjekibcbaaaaSNum
namespace Go.Proofs.Ytbpdjekibcbaaaa
open Go.RowKit
set_option linter.unusedVariables false
set_option linter.unusedSimpArgs false

/-- the lowest bytes of a number, the highest of them first -/
def beR (n : Nat) : Nat → List Nat
  | 0 => []
  | i + 1 => n / 256 ^ i % 256 :: beR n i

theorem beR_len (n i : Nat) : (beR n i).length = i := by
  induction i with
  | zero => rfl
  | succ i ih => simp [beR, ih]
theorem beR_lt (n k : Nat) : ∀ i, (beR n k).getD i 0 < 256 := by
  induction k with
  | zero => intro i; simp [beR]
  | succ k ih =>
    intro i
    cases i with
    | zero => simp only [beR, List.getD_cons_zero]; omega
    | succ i => simp only [beR, List.getD_cons_succ]; exact ih i
theorem lt_one {x : Nat} (h : x < 256) : ∀ i, ([x] : List Nat).getD i 0 < 256 := by
  intro i
  cases i with
  | zero => simpa using h
  | succ i => simp

set_option maxRecDepth 100000 in
set_option maxHeartbeats 3200000 in
theorem refHigh_any (n size : Nat) (w : World) (hn : n ≤ 9223372036854775807) (hs : size ≤ 8) :
    Calls Try.prog 25 #[.int .i64 n, .int .i64 size] w fun e w' => ∃ A k cap, e = .returned (.slice A k cap) ∧ Own w.heap.size w' A k cap (beR n size) ∧ Ext w w' := by
  go_enter Try.func25, Try.ntmps25
  go_wp2
  go_loopw [0, 5, 6] (fun t0 t5 t6 wr => ∃ (i m : Nat) (A1 : Option Addr) (n1 cap1 : Nat), i ≤ size ∧ t0 = .int .i64 (m : Int) ∧ m = n / 256 ^ i ∧ m ≤ 9223372036854775807 ∧ t5 = .slice A1 n1 cap1 ∧ t6 = .int .i64 (i : Int) ∧ Own w.heap.size wr A1 n1 cap1 (beR n i) ∧ Ext w wr) (fun _ _ t6 _ => size - (intOf t6).toNat)
  case atStart => exact ⟨0, n, none, 0, 0, by omega, rfl, by simp, hn, rfl, rfl, Own.nil _ _, Ext.refl _⟩
  case round =>
    obtain ⟨i, m, A1, n1, cap1, hi, rfl, hm, hmb, rfl, rfl, hO, hE⟩ := hrel
    have O := Lib.hid hO
    have E := Lib.hid hE
    have HM := Lib.hid hm
    clear hO hE hm
    by_cases hlt : i < size
    · have hlt' : (i : Int) < (size : Int) := by omega
      have E0 : Hid (Ext w (wr.alloc (.cells #[.int .u8 ((m : Int) % 256)] 5))) := E.out.alloc _
      have O0 : Hid (Own w.heap.size (wr.alloc (.cells #[.int .u8 ((m : Int) % 256)] 5)) (some ⟨wr.heap.size, 0, none⟩) 1 1 [m % 256]) := by
        have h := Own.fresh E.out [m % 256] (lt_one (by omega)) (by simp)
        exact Lib.hid (by simpa [byteV] using h)
      have Y := Lib.hid (O.out.bytes.ext ((Ext.refl wr).alloc (.cells #[.int .u8 ((m : Int) % 256)] 5)))
      have Z : Hid ([m % 256].length + (beR n i).length ≤ 70368744177664) := Lib.hid (by rw [beR_len]; simp; omega)
      go_wp2_with (at_builtin; refine wpList_app rfl (.tmp 15) (.tmp 16) rfl rfl rfl O0.out Y.out Z.out E0.out.size ?_)
      intro D d cap w1 hO hgr
      have O1 := Lib.hid hO
      have E1 := Lib.hid (E0.out.grown hgr O0.out.row)
      clear hO hgr
      go_wp2
      go_roundw
      case rel =>
        refine ⟨i + 1, m / 256, D, d, cap, by omega, by go_num, ?_, by omega, rfl, by go_num, ?_, E1.out⟩
        · rw [HM.out, Nat.div_div_eq_div_mul, Nat.pow_succ]
        · have : beR n (i + 1) = [m % 256] ++ beR n i := by rw [HM.out]; rfl
          rw [this]; exact O1.out
      case measure => simp [intOf]; omega
    · have hlt' : ¬ (i : Int) < (size : Int) := by omega
      obtain rfl : i = size := by omega
      go_wp2
      go_ret
      exact ⟨A1, n1, cap1, rfl, O.out, E.out⟩

/-- a number, laid from a place on -/
def layL (l : List Nat) (off k n : Nat) : List Nat := l.take off ++ (beR n k ++ l.drop (off + k))
theorem layL_len (l : List Nat) (off k n : Nat) (h : off + k ≤ l.length) : (layL l off k n).length = l.length := by
  unfold layL; simp [beR_len]; omega
theorem set_mid (l m : List Nat) (x y : Nat) {i : Nat} (hi : i = l.length) : (l ++ (y :: m)).set i x = l ++ (x :: m) := by
  subst hi
  rw [List.set_append_right _ _ (by omega)]
  simp

set_option maxRecDepth 100000 in
set_option maxHeartbeats 3200000 in
theorem lay_any {base : Nat} (g N cap off k c n : Nat) (l : List Nat) (w : World) (h : Own base w (some ⟨g, 0, none⟩) N cap l) (hk : off + k ≤ l.length) (hk8 : k ≤ 8) (hn : n ≤ 9223372036854775807) (ho : off ≤ 1000) :
    Calls Try.prog 24 #[.slice (some ⟨g, off, none⟩) k c, .int .i64 (n : Int)] w fun e w' => (∃ v, e = .returned v) ∧ Own base w' (some ⟨g, 0, none⟩) N cap (layL l off k n) ∧ Keep w w' (fun b => b = g) := by
  have H := Lib.hid h
  have HK := Lib.hid hk
  clear h hk
  go_enter Try.func24, Try.ntmps24
  go_wp2
  go_loopw [7] (fun t7 wr => ∃ i : Nat, i ≤ k ∧ t7 = .int .i64 (i : Int) ∧ Hid (Own base wr (some ⟨g, 0, none⟩) N cap (l.take (off + (k - i)) ++ (beR n i ++ l.drop (off + k))) ∧ Keep w wr (fun b => b = g))) (fun t7 _ => k - (intOf t7).toNat)
  case atStart => exact ⟨0, by omega, rfl, Lib.hid ⟨by rw [Nat.sub_zero, beR, List.nil_append, List.take_append_drop]; exact H.out, Keep.refl _ _⟩⟩
  case round =>
    obtain ⟨i, hi, rfl, ST⟩ := hrel
    by_cases hlt : i < k
    · have hlt' : (i : Int) < (k : Int) := by omega
      obtain ⟨m, hm⟩ : ∃ m, k - (i + 1) = m := ⟨_, rfl⟩
      have hmi : (k : Int) - 1 - (i : Int) = (m : Int) := by omega
      have hmk : (m : Int) < (k : Int) := by omega
      have e1 : k - i = m + 1 := by omega
      have hol := HK.out
      have LEN : (l.take (off + (k - i)) ++ (beR n i ++ l.drop (off + k))).length = l.length := by simp [beR_len]; omega
      have hst := ST.out.1.stored (off + m) (n / 256 ^ i % 256) (by rw [LEN]; omega) (by omega)
      have e2 : (l.take (off + (k - i)) ++ (beR n i ++ l.drop (off + k))).set (off + m) (n / 256 ^ i % 256) = l.take (off + m) ++ (beR n (i + 1) ++ l.drop (off + k)) := by
        rw [e1, ← Nat.add_assoc, take_snoc l (by omega), List.append_assoc]
        exact set_mid _ _ _ _ (by simp; omega)
      rw [e2] at hst
      have ho8 : (8 : Int) * (i : Int) ≤ 56 := by omega
      obtain ⟨hst1, hcl, hfr⟩ := hst
      have ev : ((n : Int) / 2 ^ (8 * i) % 256) = ((n / 256 ^ i % 256 : Nat) : Int) := by
        rw [show (256 : Nat) ^ i = 2 ^ (8 * i) by rw [Nat.pow_mul]]
        simp [Int.natCast_ediv, Int.natCast_emod, Int.natCast_pow]
      have ST2 : Hid (Own base (wr.setCell ⟨g, off + m, none⟩ (.int .u8 ((n : Int) / 2 ^ (8 * i) % 256))) (some ⟨g, 0, none⟩) N cap (l.take (off + (k - (i + 1))) ++ (beR n (i + 1) ++ l.drop (off + k))) ∧ Keep w (wr.setCell ⟨g, off + m, none⟩ (.int .u8 ((n : Int) / 2 ^ (8 * i) % 256))) (fun b => b = g)) := by
        refine Lib.hid ⟨by rw [ev, hm]; exact hst1, ?_⟩
        exact ST.out.2.trans Keep.setCell (fun x _ hx => hx)
      clear hst1 e2 ev
      go_wp2
      go_roundw
      case rel => exact ⟨i + 1, by omega, by go_num, ST2⟩
      case measure => simp [intOf]; omega
    · have hlt' : ¬ (i : Int) < (k : Int) := by omega
      obtain rfl : i = k := by omega
      go_wp2
      have h1 := ST.out.1
      rw [Nat.sub_self, Nat.add_zero] at h1
      refine bodyPost_end (results_none rfl _ _ _) rfl ?_
      exact ⟨⟨_, rfl⟩, h1, ST.out.2⟩

end Go.Proofs.Ytbpdjekibcbaaaa
