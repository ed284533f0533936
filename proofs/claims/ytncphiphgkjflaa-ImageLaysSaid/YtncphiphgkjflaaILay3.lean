import Derived.Test.YtncphiphgkjflaaILay1
import Derived.Test.YtncphiphgkjflaaIPLaw
namespace Go.Proofs.Ytncphiphgkjflaa
open Go.RowKit Go.Shelf
set_option linter.unusedVariables false
set_option linter.unusedSimpArgs false

set_option maxRecDepth 100000 in
set_option maxHeartbeats 12800000 in
theorem lay_far (W H W2 H2 : Nat) (v v2 : Value) (l l2 : List Px) (x y : Int) (t : Nat) (m : Nat) (w : World) (hl : Pix .u8 w v l) (hl2 : Pix .u8 w v2 l2) (hn : l.length ≤ 400) (hn2 : l2.length ≤ 400) (hx : -9223372036854775808 ≤ x ∧ x ≤ 9223372036854775807) (hy : -9223372036854775808 ≤ y ∧ y ≤ 9223372036854775807) (ht : t ≤ 255) (hr : rightI (W : Int) (H : Int) l = true) (hr2 : rightI (W2 : Int) (H2 : Int) l2 = true) (hm : m ≤ 4)
    (hfar : x ≤ -(W2 : Int) ∨ (¬ x ≤ -(W2 : Int) ∧ y ≤ -(H2 : Int)) ∨ (¬ x ≤ -(W2 : Int) ∧ ¬ y ≤ -(H2 : Int) ∧ (W : Int) ≤ x) ∨ (¬ x ≤ -(W2 : Int) ∧ ¬ y ≤ -(H2 : Int) ∧ ¬ (W : Int) ≤ x ∧ (H : Int) ≤ y)) :
    Calls Try.prog 29 #[.agg #[.int .i64 (W : Int), .int .i64 (H : Int), v], .agg #[.int .i64 (W2 : Int), .int .i64 (H2 : Int), v2], .int .i64 x, .int .i64 y, .int .u8 (t : Int), .int .i64 (m : Int)] w fun e w' => ∃ v', e = .returned (.tuple #[.agg #[.int .i64 (W : Int), .int .i64 (H : Int), v'], .int .i64 0]) ∧ OwnP .u8 40 w.heap.size w' v' l ∧ Ext w w' := by
  have hside : sideB (W : Int) = true ∧ sideB (H : Int) = true ∧ l.length = W * H := by
    have a := hr
    unfold rightI at a
    simp only [Bool.and_eq_true, decide_eq_true_eq] at a
    exact ⟨a.1.1.1, a.1.1.2, by have := a.1.2; exact_mod_cast this⟩
  have hside2 : sideB (W2 : Int) = true ∧ sideB (H2 : Int) = true ∧ l2.length = W2 * H2 := by
    have a := hr2
    unfold rightI at a
    simp only [Bool.and_eq_true, decide_eq_true_eq] at a
    exact ⟨a.1.1.1, a.1.1.2, by have := a.1.2; exact_mod_cast this⟩
  have hWb : 1 ≤ W ∧ W ≤ 256 := by have := hside.1; simp [sideB] at this; omega
  have hHb : 1 ≤ H ∧ H ≤ 256 := by have := hside.2.1; simp [sideB] at this; omega
  have hWb2 : 1 ≤ W2 ∧ W2 ≤ 256 := by have := hside2.1; simp [sideB] at this; omega
  have hHb2 : 1 ≤ H2 ∧ H2 ≤ 256 := by have := hside2.2.1; simp [sideB] at this; omega
  have HL := Lib.hid hside.2.2
  have HL2 := Lib.hid hside2.2.2
  have HR := Lib.hid hr
  have HR2 := Lib.hid hr2
  have P := Lib.hid hl
  have P2 := Lib.hid hl2
  obtain ⟨X, c, rfl, hc1, hc2, _⟩ := hl
  obtain ⟨X2, d, rfl, hd1, hd2, _⟩ := hl2
  obtain ⟨N, hN⟩ : ∃ N, l.length = N := ⟨_, rfl⟩
  obtain ⟨N2, hN2⟩ : ∃ N, l2.length = N := ⟨_, rfl⟩
  rw [hN] at P hn hc1
  rw [hN2] at P2 hn2 hd1
  rw [hN, hN2]
  have HN := Lib.hid hN
  have HN2 := Lib.hid hN2
  clear hN hN2
  have CM := Lib.hid (fun wx (hx : Ext w wx) => check_any (W : Int) (H : Int) (.slice X N c) l wx (by omega) (by omega) (P.out.ext hx))
  have CO := Lib.hid (fun wx (hx : Ext w wx) => check_any (W2 : Int) (H2 : Int) (.slice X2 N2 d) l2 wx (by omega) (by omega) (P2.out.ext hx))
  rw [hr, show errB true = 0 from rfl] at CM
  rw [hr2, show errB true = 0 from rfl] at CO
  have CC := Lib.hid (fun wx (hx : Ext w wx) => copied_any (W : Int) (H : Int) (.slice X N c) l wx (P.out.ext hx) (by rw [HN.out]; omega))
  clear hside hside2 hr hr2
  have hm1 : ¬ (m : Int) < 0 := by omega
  have hm2 : ¬ (4 : Int) < (m : Int) := by omega
  go_enter Try.func29, Try.ntmps29
  go_wp2_with fail
  refine (CM.out _ (by (repeat (first | exact Ext.refl _ | apply Ext.alloc | apply Ext.ext)))).mono ?_
  rintro e w1 ⟨rfl, g1, rfl⟩
  go_wp2_with fail
  refine (CO.out _ (by (repeat (first | exact Ext.refl _ | apply Ext.alloc | apply Ext.ext)))).mono ?_
  rintro e w2 ⟨rfl, g2, rfl⟩
  go_wp2_with fail
  refine (CC.out _ (by (repeat (first | exact Ext.refl _ | apply Ext.alloc | apply Ext.ext)))).mono ?_
  rintro e w3 ⟨v3, rfl, hO, g3, rfl⟩
  have O1 := Lib.hid hO
  obtain ⟨A3, c3, rfl⟩ := own_slice hO.1
  clear hO
  rcases hfar with h1 | ⟨h1, h2⟩ | ⟨h1, h2, h3⟩ | ⟨h1, h2, h3, h4⟩
  all_goals (
    go_wp2
    refine bodyPost_ret (v := .tuple #[.agg #[.int .i64 (W : Int), .int .i64 (H : Int), .slice A3 l.length c3], .int .i64 0]) (by simp [results, Try.results29, go_sem]) rfl ⟨_, rfl, ?_, ?_⟩
    · refine OwnP.mono (OwnP.ext (OwnP.swap O1.out ?_ (Nat.le_refl _)) ((Ext.refl _).alloc _)) ?_
      · simp
      · simp; omega
    · (repeat (first | exact Ext.refl _ | apply Ext.alloc | apply Ext.ext | (refine Ext.setCell ?_ (by simp) _))))

set_option maxRecDepth 100000 in
set_option maxHeartbeats 12800000 in
theorem lay_range (W H W2 H2 m : Int) (v v2 : Value) (l l2 : List Px) (x y : Int) (t : Nat)  (w : World) (hl : Pix .u8 w v l) (hl2 : Pix .u8 w v2 l2) (hn : l.length ≤ 400) (hn2 : l2.length ≤ 400) (hx : -9223372036854775808 ≤ x ∧ x ≤ 9223372036854775807) (hy : -9223372036854775808 ≤ y ∧ y ≤ 9223372036854775807) (ht : t ≤ 255) (hW : -9223372036854775808 ≤ W ∧ W ≤ 9223372036854775807) (hH : -9223372036854775808 ≤ H ∧ H ≤ 9223372036854775807) (hW2 : -9223372036854775808 ≤ W2 ∧ W2 ≤ 9223372036854775807) (hH2 : -9223372036854775808 ≤ H2 ∧ H2 ≤ 9223372036854775807) (hmb : -9223372036854775808 ≤ m ∧ m ≤ 9223372036854775807) (hr : rightI W H l = false ∨ (rightI W H l = true ∧ rightI W2 H2 l2 = false)) :
    Calls Try.prog 29 #[.agg #[.int .i64 W, .int .i64 H, v], .agg #[.int .i64 W2, .int .i64 H2, v2], .int .i64 x, .int .i64 y, .int .u8 (t : Int), .int .i64 m] w fun e w' => e = .returned (.tuple #[.agg #[.int .i64 0, .int .i64 0, .slice none 0 0], .int .i64 30]) ∧ Ext w w' := by
  have P := Lib.hid hl
  have P2 := Lib.hid hl2
  obtain ⟨X, c, rfl, hc1, hc2, _⟩ := hl
  obtain ⟨X2, d, rfl, hd1, hd2, _⟩ := hl2
  obtain ⟨N, hN⟩ : ∃ N, l.length = N := ⟨_, rfl⟩
  obtain ⟨N2, hN2⟩ : ∃ N, l2.length = N := ⟨_, rfl⟩
  rw [hN] at P hn hc1
  rw [hN2] at P2 hn2 hd1
  rw [hN, hN2]
  have HN := Lib.hid hN
  have HN2 := Lib.hid hN2
  clear hN hN2
  have CM := Lib.hid (fun wx (hx : Ext w wx) => check_any W H (.slice X N c) l wx hW hH (P.out.ext hx))
  have CO := Lib.hid (fun wx (hx : Ext w wx) => check_any W2 H2 (.slice X2 N2 d) l2 wx hW2 hH2 (P2.out.ext hx))
  rcases hr with hr | ⟨hr, hr2⟩
  · rw [hr, show errB false = 30 from rfl] at CM
    go_enter Try.func29, Try.ntmps29
    go_wp2_with fail
    refine (CM.out _ (by (repeat (first | exact Ext.refl _ | apply Ext.alloc | apply Ext.ext)))).mono ?_
    rintro e w1 ⟨rfl, g1, rfl⟩
    go_wp2
    refine bodyPost_ret (v := (.tuple #[.agg #[.int .i64 0, .int .i64 0, .slice none 0 0], .int .i64 30])) (by simp [results, Try.results29, go_sem]) rfl ⟨rfl, ?_⟩
    (repeat (first | exact Ext.refl _ | apply Ext.alloc | apply Ext.ext | (refine Ext.setCell ?_ (by simp) _)))
  · rw [hr, show errB true = 0 from rfl] at CM
    rw [hr2, show errB false = 30 from rfl] at CO
    go_enter Try.func29, Try.ntmps29
    go_wp2_with fail
    refine (CM.out _ (by (repeat (first | exact Ext.refl _ | apply Ext.alloc | apply Ext.ext)))).mono ?_
    rintro e w1 ⟨rfl, g1, rfl⟩
    go_wp2_with fail
    refine (CO.out _ (by (repeat (first | exact Ext.refl _ | apply Ext.alloc | apply Ext.ext)))).mono ?_
    rintro e w2 ⟨rfl, g2, rfl⟩
    go_wp2
    refine bodyPost_ret (v := (.tuple #[.agg #[.int .i64 0, .int .i64 0, .slice none 0 0], .int .i64 30])) (by simp [results, Try.results29, go_sem]) rfl ⟨rfl, ?_⟩
    (repeat (first | exact Ext.refl _ | apply Ext.alloc | apply Ext.ext | (refine Ext.setCell ?_ (by simp) _)))

set_option maxRecDepth 100000 in
set_option maxHeartbeats 12800000 in
theorem lay_kind (W H W2 H2 m : Int) (v v2 : Value) (l l2 : List Px) (x y : Int) (t : Nat)  (w : World) (hl : Pix .u8 w v l) (hl2 : Pix .u8 w v2 l2) (hn : l.length ≤ 400) (hn2 : l2.length ≤ 400) (hx : -9223372036854775808 ≤ x ∧ x ≤ 9223372036854775807) (hy : -9223372036854775808 ≤ y ∧ y ≤ 9223372036854775807) (ht : t ≤ 255) (hW : -9223372036854775808 ≤ W ∧ W ≤ 9223372036854775807) (hH : -9223372036854775808 ≤ H ∧ H ≤ 9223372036854775807) (hW2 : -9223372036854775808 ≤ W2 ∧ W2 ≤ 9223372036854775807) (hH2 : -9223372036854775808 ≤ H2 ∧ H2 ≤ 9223372036854775807) (hmb : -9223372036854775808 ≤ m ∧ m ≤ 9223372036854775807) (hr : rightI W H l = true) (hr2 : rightI W2 H2 l2 = true) (hm : m < 0 ∨ (¬ m < 0 ∧ 4 < m)) :
    Calls Try.prog 29 #[.agg #[.int .i64 W, .int .i64 H, v], .agg #[.int .i64 W2, .int .i64 H2, v2], .int .i64 x, .int .i64 y, .int .u8 (t : Int), .int .i64 m] w fun e w' => e = .returned (.tuple #[.agg #[.int .i64 0, .int .i64 0, .slice none 0 0], .int .i64 33]) ∧ Ext w w' := by
  have P := Lib.hid hl
  have P2 := Lib.hid hl2
  obtain ⟨X, c, rfl, hc1, hc2, _⟩ := hl
  obtain ⟨X2, d, rfl, hd1, hd2, _⟩ := hl2
  obtain ⟨N, hN⟩ : ∃ N, l.length = N := ⟨_, rfl⟩
  obtain ⟨N2, hN2⟩ : ∃ N, l2.length = N := ⟨_, rfl⟩
  rw [hN] at P hn hc1
  rw [hN2] at P2 hn2 hd1
  rw [hN, hN2]
  have HN := Lib.hid hN
  have HN2 := Lib.hid hN2
  clear hN hN2
  have CM := Lib.hid (fun wx (hx : Ext w wx) => check_any W H (.slice X N c) l wx hW hH (P.out.ext hx))
  have CO := Lib.hid (fun wx (hx : Ext w wx) => check_any W2 H2 (.slice X2 N2 d) l2 wx hW2 hH2 (P2.out.ext hx))
  rw [hr, show errB true = 0 from rfl] at CM
  rw [hr2, show errB true = 0 from rfl] at CO
  rcases hm with hm | ⟨hm, hm4⟩
  all_goals (
    go_enter Try.func29, Try.ntmps29
    go_wp2_with fail
    refine (CM.out _ (by (repeat (first | exact Ext.refl _ | apply Ext.alloc | apply Ext.ext)))).mono ?_
    rintro e w1 ⟨rfl, g1, rfl⟩
    go_wp2_with fail
    refine (CO.out _ (by (repeat (first | exact Ext.refl _ | apply Ext.alloc | apply Ext.ext)))).mono ?_
    rintro e w2 ⟨rfl, g2, rfl⟩
    go_wp2
    refine bodyPost_ret (v := (.tuple #[.agg #[.int .i64 0, .int .i64 0, .slice none 0 0], .int .i64 33])) (by simp [results, Try.results29, go_sem]) rfl ⟨rfl, ?_⟩
    (repeat (first | exact Ext.refl _ | apply Ext.alloc | apply Ext.ext | (refine Ext.setCell ?_ (by simp) _))))

end Go.Proofs.Ytncphiphgkjflaa
