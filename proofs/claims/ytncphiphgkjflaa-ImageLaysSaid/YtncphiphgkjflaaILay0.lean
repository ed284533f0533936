import Derived.Test.YtncphiphgkjflaaPaintLawB
import Derived.Test.YtncphiphgkjflaaIFill3
namespace Go.Proofs.Ytncphiphgkjflaa
open Go.RowKit Go.Shelf
set_option linter.unusedVariables false
set_option linter.unusedSimpArgs false

/-- a colour faded -/
def fadeP (c : Px) (t : Nat) : Px := ((ofI (c.1 : Int) (t : Int)).toNat, (ofI (c.2.1 : Int) (t : Int)).toNat, (ofI (c.2.2.1 : Int) (t : Int)).toNat, (ofI (c.2.2.2 : Int) (t : Int)).toNat)
/-- a colour blended with another one -/
def blendP (m : Nat) (c d : Px) : Px :=
  if m = 0 then ((overI (c.1 : Int) (c.2.2.2 : Int) (d.1 : Int)).toNat, (overI (c.2.1 : Int) (c.2.2.2 : Int) (d.2.1 : Int)).toNat, (overI (c.2.2.1 : Int) (c.2.2.2 : Int) (d.2.2.1 : Int)).toNat, ((c.2.2.2 : Int) + ofI (255 - (c.2.2.2 : Int)) (d.2.2.2 : Int)).toNat)
  else ((blendI (m : Int) (c.1 : Int) (d.1 : Int) (c.2.2.2 : Int) (d.2.2.2 : Int) ((c.2.2.2 : Int) + ofI (255 - (c.2.2.2 : Int)) (d.2.2.2 : Int))).toNat, (blendI (m : Int) (c.2.1 : Int) (d.2.1 : Int) (c.2.2.2 : Int) (d.2.2.2 : Int) ((c.2.2.2 : Int) + ofI (255 - (c.2.2.2 : Int)) (d.2.2.2 : Int))).toNat,
    (blendI (m : Int) (c.2.2.1 : Int) (d.2.2.1 : Int) (c.2.2.2 : Int) (d.2.2.2 : Int) ((c.2.2.2 : Int) + ofI (255 - (c.2.2.2 : Int)) (d.2.2.2 : Int))).toNat, ((c.2.2.2 : Int) + ofI (255 - (c.2.2.2 : Int)) (d.2.2.2 : Int)).toNat)
def mixP (t m : Nat) (c d : Px) : Px := blendP m (fadeP c t) d

theorem ofN {a b : Nat} (ha : a ≤ 255) (hb : b ≤ 255) : ((ofI (a : Int) (b : Int)).toNat : Int) = ofI (a : Int) (b : Int) ∧ (ofI (a : Int) (b : Int)).toNat ≤ a ∧ (ofI (a : Int) (b : Int)).toNat ≤ b := by
  have := ofI_bd (a := (a : Int)) (b := (b : Int)) (by omega) (by omega) (by omega) (by omega)
  omega

theorem fade_ok {c : Px} {t : Nat} (hc : okP c) (ht : t ≤ 255) : okP (fadeP c t) := by
  obtain ⟨h1, h2, h3, h4⟩ := hc
  have a1 := ofN h1 ht
  have a2 := ofN h2 ht
  have a3 := ofN h3 ht
  have a4 := ofN h4 ht
  exact ⟨by show (ofI (c.1 : Int) (t : Int)).toNat ≤ 255; omega, by show (ofI (c.2.1 : Int) (t : Int)).toNat ≤ 255; omega, by show (ofI (c.2.2.1 : Int) (t : Int)).toNat ≤ 255; omega, by show (ofI (c.2.2.2 : Int) (t : Int)).toNat ≤ 255; omega⟩

theorem fade_right {c : Px} {t : Nat} (hc : okP c) (ht : t ≤ 255) (hr : rightP c = true) : rightP (fadeP c t) = true := by
  obtain ⟨h1, h2, h3, h4⟩ := hc
  simp only [rightP, Bool.and_eq_true, decide_eq_true_eq] at hr ⊢
  have m1 := ofI_mono (a := (c.1 : Int)) (b := (t : Int)) (c := (c.2.2.2 : Int)) (d := (t : Int)) (by omega) (by omega) (by omega) (by omega)
  have m2 := ofI_mono (a := (c.2.1 : Int)) (b := (t : Int)) (c := (c.2.2.2 : Int)) (d := (t : Int)) (by omega) (by omega) (by omega) (by omega)
  have m3 := ofI_mono (a := (c.2.2.1 : Int)) (b := (t : Int)) (c := (c.2.2.2 : Int)) (d := (t : Int)) (by omega) (by omega) (by omega) (by omega)
  unfold fadeP
  simp only
  omega

/-- the numbers of two colours blended -/
theorem blend_bd (m c d a b : Nat) (hc : c ≤ 255) (hd : d ≤ 255) (ha : a ≤ 255) (hb : b ≤ 255) :
    (0 ≤ overI (c : Int) (a : Int) (d : Int) ∧ overI (c : Int) (a : Int) (d : Int) ≤ 255) ∧ (0 ≤ (a : Int) + ofI (255 - (a : Int)) (b : Int) ∧ (a : Int) + ofI (255 - (a : Int)) (b : Int) ≤ 255) ∧
      (0 ≤ blendI (m : Int) (c : Int) (d : Int) (a : Int) (b : Int) ((a : Int) + ofI (255 - (a : Int)) (b : Int)) ∧ blendI (m : Int) (c : Int) (d : Int) (a : Int) (b : Int) ((a : Int) + ofI (255 - (a : Int)) (b : Int)) ≤ 255) := by
  have h1 := overI_bd (c := (c : Int)) (a := (a : Int)) (d := (d : Int)) (by omega) (by omega) (by omega)
  have h2 := ofI_bd (a := 255 - (a : Int)) (b := (b : Int)) (by omega) (by omega) (by omega) (by omega)
  refine ⟨h1, by omega, ?_⟩
  unfold blendI
  omega

theorem blend_ok {c d : Px} {m : Nat} (hc : okP c) (hd : okP d) : okP (blendP m c d) := by
  obtain ⟨c1, c2, c3, c4⟩ := hc
  obtain ⟨d1, d2, d3, d4⟩ := hd
  have b1 := blend_bd m c.1 d.1 c.2.2.2 d.2.2.2 c1 d1 c4 d4
  have b2 := blend_bd m c.2.1 d.2.1 c.2.2.2 d.2.2.2 c2 d2 c4 d4
  have b3 := blend_bd m c.2.2.1 d.2.2.1 c.2.2.2 d.2.2.2 c3 d3 c4 d4
  unfold blendP
  split <;> exact ⟨by simp only; omega, by simp only; omega, by simp only; omega, by simp only; omega⟩

theorem mix_ok {c d : Px} {t m : Nat} (hc : okP c) (hd : okP d) (ht : t ≤ 255) : okP (mixP t m c d) := blend_ok (fade_ok hc ht) hd

theorem right_px {p : Px} : rightP p = rightB (p.1 : Int) (p.2.1 : Int) (p.2.2.1 : Int) (p.2.2.2 : Int) := by
  unfold rightP rightB
  rw [Bool.eq_iff_iff]
  simp only [Bool.and_eq_true, decide_eq_true_eq]
  omega

theorem fade_px (c : Px) (t : Nat) (w : World) (hc : okP c) (ht : t ≤ 255) :
    Calls Try.prog 46 #[valP .u8 c, .int .u8 (t : Int)] w fun e w' => e = .returned (valP .u8 (fadeP c t)) ∧ Ext w w' := by
  obtain ⟨h1, h2, h3, h4⟩ := hc
  have := fade_any (c.1 : Int) (c.2.1 : Int) (c.2.2.1 : Int) (c.2.2.2 : Int) (t : Int) w (by omega) (by omega) (by omega) (by omega) (by omega)
  rw [← (ofN h1 ht).1, ← (ofN h2 ht).1, ← (ofN h3 ht).1, ← (ofN h4 ht).1] at this
  exact this

theorem refFade_px (c : Px) (t : Nat) (w : World) (hc : okP c) (ht : t ≤ 255) :
    Calls Try.prog 49 #[valP .i64 c, .int .i64 (t : Int)] w fun e w' => e = .returned (valP .i64 (fadeP c t)) ∧ Ext w w' := by
  obtain ⟨h1, h2, h3, h4⟩ := hc
  have := refFade_any (c.1 : Int) (c.2.1 : Int) (c.2.2.1 : Int) (c.2.2.2 : Int) (t : Int) w (by omega) (by omega) (by omega) (by omega) (by omega)
  rw [← (ofN h1 ht).1, ← (ofN h2 ht).1, ← (ofN h3 ht).1, ← (ofN h4 ht).1] at this
  exact this

theorem blend_px (c d : Px) (m : Nat) (w : World) (hc : okP c) (hd : okP d) (hm : m ≤ 4) (hrc : rightP c = true) (hrd : rightP d = true) :
    Calls Try.prog 47 #[valP .u8 c, valP .u8 d, .int .i64 (m : Int)] w fun e w' => e = .returned (.tuple #[valP .u8 (blendP m c d), .int .i64 0]) ∧ Ext w w' := by
  rw [right_px] at hrc hrd
  obtain ⟨c1, c2, c3, c4⟩ := hc
  obtain ⟨d1, d2, d3, d4⟩ := hd
  have b1 := blend_bd m c.1 d.1 c.2.2.2 d.2.2.2 c1 d1 c4 d4
  have b2 := blend_bd m c.2.1 d.2.1 c.2.2.2 d.2.2.2 c2 d2 c4 d4
  have b3 := blend_bd m c.2.2.1 d.2.2.1 c.2.2.2 d.2.2.2 c3 d3 c4 d4
  by_cases h0 : m = 0
  · subst h0
    have := blend_over (c.1 : Int) (c.2.1 : Int) (c.2.2.1 : Int) (c.2.2.2 : Int) (d.1 : Int) (d.2.1 : Int) (d.2.2.1 : Int) (d.2.2.2 : Int) w (by omega) (by omega) (by omega) (by omega) (by omega) (by omega) (by omega) (by omega) hrc hrd
    unfold blendP valP
    simp only [if_pos]
    rw [Int.toNat_of_nonneg b1.1.1, Int.toNat_of_nonneg b2.1.1, Int.toNat_of_nonneg b3.1.1, Int.toNat_of_nonneg b1.2.1.1]
    exact this
  · have := blend_mode (c.1 : Int) (c.2.1 : Int) (c.2.2.1 : Int) (c.2.2.2 : Int) (d.1 : Int) (d.2.1 : Int) (d.2.2.1 : Int) (d.2.2.2 : Int) (m : Int) w (by omega) (by omega) (by omega) (by omega) (by omega) (by omega) (by omega) (by omega) (by omega) hrc hrd
    unfold blendP valP
    rw [if_neg h0]
    simp only
    rw [Int.toNat_of_nonneg b1.2.2.1, Int.toNat_of_nonneg b2.2.2.1, Int.toNat_of_nonneg b3.2.2.1, Int.toNat_of_nonneg b1.2.1.1]
    exact this

theorem refBlend_px (c d : Px) (m : Nat) (w : World) (hc : okP c) (hd : okP d) (hm : m ≤ 4) :
    Calls Try.prog 48 #[valP .i64 c, valP .i64 d, .int .i64 (m : Int)] w fun e w' => e = .returned (valP .i64 (blendP m c d)) ∧ Ext w w' := by
  obtain ⟨c1, c2, c3, c4⟩ := hc
  obtain ⟨d1, d2, d3, d4⟩ := hd
  have b1 := blend_bd m c.1 d.1 c.2.2.2 d.2.2.2 c1 d1 c4 d4
  have b2 := blend_bd m c.2.1 d.2.1 c.2.2.2 d.2.2.2 c2 d2 c4 d4
  have b3 := blend_bd m c.2.2.1 d.2.2.1 c.2.2.2 d.2.2.2 c3 d3 c4 d4
  by_cases h0 : m = 0
  · subst h0
    have := refBlend_over (c.1 : Int) (c.2.1 : Int) (c.2.2.1 : Int) (c.2.2.2 : Int) (d.1 : Int) (d.2.1 : Int) (d.2.2.1 : Int) (d.2.2.2 : Int) w (by omega) (by omega) (by omega) (by omega) (by omega) (by omega) (by omega) (by omega)
    unfold blendP valP
    simp only [if_pos]
    rw [Int.toNat_of_nonneg b1.1.1, Int.toNat_of_nonneg b2.1.1, Int.toNat_of_nonneg b3.1.1, Int.toNat_of_nonneg b1.2.1.1]
    exact this
  · have := refBlend_mode (c.1 : Int) (c.2.1 : Int) (c.2.2.1 : Int) (c.2.2.2 : Int) (d.1 : Int) (d.2.1 : Int) (d.2.2.1 : Int) (d.2.2.2 : Int) (m : Int) w (by omega) (by omega) (by omega) (by omega) (by omega) (by omega) (by omega) (by omega) (by omega)
    unfold blendP valP
    rw [if_neg h0]
    simp only
    rw [Int.toNat_of_nonneg b1.2.2.1, Int.toNat_of_nonneg b2.2.2.1, Int.toNat_of_nonneg b3.2.2.1, Int.toNat_of_nonneg b1.2.1.1]
    exact this

end Go.Proofs.Ytncphiphgkjflaa
