import Derived.Test.YtobnbdoehobigaaDoorZig
namespace Go.Proofs.YtobnbdoehobigaaDoor
open Go.RowKit
set_option linter.unusedVariables false
set_option linter.unusedSimpArgs false

/-- what In.Int leaves -/
def InPost (w w' : World) (gi : Nat) (A : Option Addr) (o : Option (Nat × List Nat)) (e : Ending) : Prop :=
  match o with
  | some (z, rest) => e = .returned (.int .i64 (unzig z)) ∧ ∃ A' n' c', InAt w' gi A' n' c' rest false ∧ Keep w w' (fun k => k = gi) ∧ A'.map (·.block) = A.map (·.block)
  | none => e = .returned (.int .i64 0) ∧ ∃ A' n' c' l', InAt w' gi A' n' c' l' true ∧ Keep w w' (fun k => k = gi) ∧ A'.map (·.block) = A.map (·.block)

theorem InAt.setBad {w : World} {gi : Nat} {A : Option Addr} {n c : Nat} {l : List Nat} {bad b2 : Bool} (h : InAt w gi A n c l bad) : InAt (w.setCell ⟨gi, 1, none⟩ (.bool b2)) gi A n c l b2 := by
  have x0 := h.c0
  have x1 := h.c1
  have y0 := h.f0
  have y1 := h.f1
  exact ⟨by simpa [World.setCell] using h.hi, by simp [go_sem, x0], by simp [go_sem, x1], by simp [go_sem, y0], by simp [go_sem, y1], h.bytes.keep Keep.setCell (fun a e => h.apart a e), h.apart⟩

theorem InAt.setRest {w : World} {gi : Nat} {A A2 : Option Addr} {n c n2 c2 : Nat} {l l2 : List Nat} {bad : Bool} (h : InAt w gi A n c l bad) (hb : Bytes w (.slice A2 n2 c2) l2) (hA : A2.map (·.block) = A.map (·.block)) :
    InAt (w.setCell ⟨gi, 0, none⟩ (.slice A2 n2 c2)) gi A2 n2 c2 l2 bad := by
  have x0 := h.c0
  have x1 := h.c1
  have y0 := h.f0
  have y1 := h.f1
  have ap : ∀ a, A2 = some a → a.block ≠ gi := by
    rintro a rfl
    cases A with
    | none => simp at hA
    | some a0 =>
      have := h.apart a0 rfl
      simp at hA
      rwa [hA]
  exact ⟨by simpa [World.setCell] using h.hi, by simp [go_sem, x0], by simp [go_sem, x1], by simp [go_sem, y0], by simp [go_sem, y1], hb.keep Keep.setCell ap, ap⟩


/-- the loop of In.Int between its rounds: D is what all of it reads as -/
def InRel (w wr : World) (gi : Nat) (A : Option Addr) (D : Option (Nat × List Nat)) (k acc : Nat) (l' : List Nat) (A' : Option Addr) (n' c' : Nat) : Prop :=
  acc < 2 ^ (7 * k) ∧ acc < 18446744073709551616 ∧ D = dec k acc l' ∧ InAt wr gi A' n' c' l' false ∧ Keep w wr (fun k => k = gi) ∧ A'.map (·.block) = A.map (·.block)

variable {w wr : World} {gi : Nat} {A : Option Addr} {D : Option (Nat × List Nat)} {k acc x : Nat} {t : List Nat} {b off c' off2 c2 n' : Nat}

theorem in_step (h : InRel w wr gi A D k acc (x :: t) (some ⟨b, off, none⟩) n' c') (hb : Bytes wr (.slice (some ⟨b, off2, none⟩) t.length c2) t) :
    InAt (wr.setCell ⟨gi, 0, none⟩ (.slice (some ⟨b, off2, none⟩) t.length c2)) gi (some ⟨b, off2, none⟩) t.length c2 t false ∧ Keep w (wr.setCell ⟨gi, 0, none⟩ (.slice (some ⟨b, off2, none⟩) t.length c2)) (fun k => k = gi) ∧ (some (⟨b, off2, none⟩ : Addr)).map (·.block) = A.map (·.block) := by
  obtain ⟨h1, h2, h3, h4, h5, h6⟩ := h
  refine ⟨h4.setRest hb rfl, h5.trans Keep.setCell (fun _ _ e => e), ?_⟩
  rw [← h6]; rfl

theorem in_bad (h : InRel w wr gi A D k acc (x :: t) (some ⟨b, off, none⟩) n' c') (hd : dec k acc (x :: t) = none) (hb : Bytes wr (.slice (some ⟨b, off2, none⟩) t.length c2) t) :
    InPost w ((wr.setCell ⟨gi, 0, none⟩ (.slice (some ⟨b, off2, none⟩) t.length c2)).setCell ⟨gi, 1, none⟩ (.bool true)) gi A D (.returned (.int .i64 0)) := by
  obtain ⟨h1, h2, h3⟩ := in_step h hb
  rw [h.2.2.1, hd]
  exact ⟨rfl, _, _, _, _, h1.setBad, h2.trans Keep.setCell (fun _ _ e => e), h3⟩

theorem in_good {z : Nat} (h : InRel w wr gi A D k acc (x :: t) (some ⟨b, off, none⟩) n' c') (hd : dec k acc (x :: t) = some (z, t)) (hz : z < 18446744073709551616) (hb : Bytes wr (.slice (some ⟨b, off2, none⟩) t.length c2) t) :
    InPost w (wr.setCell ⟨gi, 0, none⟩ (.slice (some ⟨b, off2, none⟩) t.length c2)) gi A D (.returned (.int .i64 (Go.bits .xor .i64 (wrap64 ((z : Int) / 2)) (wrap64 (-wrap64 (Go.bits .and .u64 (z : Int) 1)))))) := by
  obtain ⟨h1, h2, h3⟩ := in_step h hb
  rw [h.2.2.1, hd]
  rw [unzig_bits z hz]
  exact ⟨rfl, _, _, _, h1, h2, h3⟩

theorem in_next {acc2 : Nat} (h : InRel w wr gi A D k acc (x :: t) (some ⟨b, off, none⟩) n' c') (hd : dec k acc (x :: t) = dec (k + 1) acc2 t) (hacc : acc2 < 2 ^ (7 * (k + 1)) ∧ acc2 < 18446744073709551616) (hb : Bytes wr (.slice (some ⟨b, off2, none⟩) t.length c2) t) :
    InRel w (wr.setCell ⟨gi, 0, none⟩ (.slice (some ⟨b, off2, none⟩) t.length c2)) gi A D (k + 1) acc2 t (some ⟨b, off2, none⟩) t.length c2 := by
  obtain ⟨h1, h2, h3⟩ := in_step h hb
  exact ⟨hacc.1, hacc.2, h.2.2.1.trans hd, h1, h2, h3⟩

set_option maxRecDepth 100000 in
set_option maxHeartbeats 12800000 in
theorem inInt_any (gi : Nat) (A : Option Addr) (n c : Nat) (l : List Nat) (w : World) (h : InAt w gi A n c l false) :
    Calls Tryd.prog 17 #[.pointer (some ⟨gi, 0, none⟩)] w fun e w' => InPost w w' gi A (dec 0 0 l) e := by
  have H0 := Lib.hid h
  clear h
  generalize hD : dec 0 0 l = D
  have HD0 := Lib.hid hD
  clear hD
  go_enter Tryd.func17, Tryd.ntmps17
  go_wp2
  go_loopw [3, 4] (fun t3 t4 wr => ∃ (k acc : Nat) (l' : List Nat) (A' : Option Addr) (n' c' : Nat), k ≤ 10 ∧ t3 = .int .u64 acc ∧ t4 = .int .i64 ((7 * k : Nat) : Int) ∧ InRel w wr gi A D k acc l' A' n' c') (fun _ t4 _ => 80 - (intOf t4).toNat)
  case atStart => exact ⟨0, 0, l, A, n, c, by omega, rfl, rfl, by decide, by omega, HD0.out.symm, H0.out, Keep.refl _ _, rfl⟩
  case round =>
    obtain ⟨k, acc, l', A', n', c', hk, rfl, rfl, hrel⟩ := hrel
    have H := Lib.hid hrel
    have hI := hrel.2.2.2.1
    have x0 := hI.c0
    have x1 := hI.c1
    have y0 := hI.f0
    have y1 := hI.f1
    have hg := hI.hi
    cases l' with
    | nil =>
      have hn : n' = 0 := hI.bytes.len
      subst hn
      clear hrel hI
      go_wp2
      go_ret
      obtain ⟨h1, h2, h3, h4, h5, h6⟩ := H.out
      rw [h3, dec]
      exact ⟨rfl, A', 0, c', [], h4.setBad, h5.trans Keep.setCell (fun _ _ e => e), h6⟩
    | cons x t =>
      have hn : n' = t.length + 1 := hI.bytes.len
      subst hn
      obtain ⟨A1, cap, e, g2, g3, g4, g5, g6⟩ := hI.bytes
      simp only [Value.slice.injEq] at e
      obtain ⟨rfl, _, rfl⟩ := e
      obtain ⟨b, off, rfl, q1, q2⟩ := g6 (by simp)
      have hx := g5 0
      have q3 := q2 0 (by simp)
      simp only [Nat.add_zero, List.getD_cons_zero] at q3 hx
      have hbg : ¬ b = gi := hI.apart ⟨b, off, none⟩ rfl
      have hand := andNot_128 x hx
      have HX := Lib.hid hx
      have hx1 : (x : Int) ≤ 255 := by omega
      have hm1 : ((x % 128 : Nat) : Int) ≤ 127 := by omega
      have HT := Lib.hid (Bytes.tail (show Bytes wr (.slice (some ⟨b, off, none⟩) (t.length + 1) c') (x :: t) from hI.bytes))
      clear hrel hI g2 g3 g4 g5 g6 q2 hx
      obtain ⟨m, hm⟩ : ∃ m, x % 128 = m := ⟨_, rfl⟩
      rw [hm] at hand hm1
      have HM := Lib.hid hm
      clear hm
      obtain ⟨N, hN⟩ : ∃ N, t.length + 1 = N := ⟨_, rfl⟩
      rw [hN] at x0
      have HN := Lib.hid hN
      have hN1 : (0 : Int) < (N : Int) := by omega
      clear hN
      have hk2 : k = 0 ∨ k = 1 ∨ k = 2 ∨ k = 3 ∨ k = 4 ∨ k = 5 ∨ k = 6 ∨ k = 7 ∨ k = 8 ∨ k = 9 ∨ k = 10 := by omega
      clear hk
      rcases hk2 with rfl | rfl | rfl | rfl | rfl | rfl | rfl | rfl | rfl | rfl | rfl
      · have ha0 := H.out.1
        have ha1 := H.out.2.1
        have hM := HM.out
        have hX := HX.out
        simp only [Nat.reduceMul, Nat.reducePow] at ha0
        have hor : Go.bits .or .u64 (acc : Int) ((m : Int)) = ((acc + m * 1 : Nat) : Int) := by
          have := or_shift acc m 0 ha0 ha1 (by omega)
          simpa using this
        obtain ⟨z, hz⟩ : ∃ z, acc + m * 1 = z := ⟨_, rfl⟩
        rw [hz] at hor
        have hzl : z < 18446744073709551616 := by omega
        have HZL := Lib.hid hzl
        have hnot : ¬ (9 < 0 ∨ 18446744073709551616 ≤ x % 128 * 2 ^ (7 * 0)) := by
          rw [hM]; simp only [Nat.reduceMul, Nat.reducePow]; omega
        have HZN := Lib.hid (show z < 2 ^ (7 * (0 + 1)) ∧ z < 18446744073709551616 by simp only [Nat.reduceMul, Nat.reduceAdd, Nat.reducePow]; omega)
        have hz2 : acc + x % 128 * 2 ^ (7 * 0) = z := by rw [hM]; simpa using hz
        by_cases hx8 : x < 128
        · have hx8' : (x : Int) < 128 := by omega
          have HDC := Lib.hid (show dec 0 acc (x :: t) = some (z, t) by rw [dec, if_neg hnot, if_pos hx8, if_neg (by omega), hz2])
          clear ha0 ha1 hM hX hz hzl hnot hz2 hx8
          by_cases hc1 : c' = 1
          · have HT1 := Lib.hid (HT.out.2 hc1)
            subst hc1
            go_wp2
            all_goals (go_ret; have hN := HN.out; subst hN; exact in_good H.out HDC.out HZL.out HT1.out)
          · go_wp2
            all_goals (go_ret; have hN := HN.out; subst hN; exact in_good H.out HDC.out HZL.out HT.out.1)
        · have hx8' : ¬ (x : Int) < 128 := by omega
          have HDC := Lib.hid (show dec 0 acc (x :: t) = dec (0 + 1) z t by rw [dec, if_neg hnot, if_neg hx8, hz2])
          clear ha0 ha1 hM hX hz hzl hnot hz2 hx8
          by_cases hc1 : c' = 1
          · have HT1 := Lib.hid (HT.out.2 hc1)
            subst hc1
            go_wp2
            all_goals (go_roundw; all_goals (have hN := HN.out; subst hN; first | exact ⟨1, z, t, _, _, _, by omega, rfl, rfl, in_next H.out HDC.out HZN.out HT1.out⟩ | simp [intOf]))
          · go_wp2
            all_goals (go_roundw; all_goals (have hN := HN.out; subst hN; first | exact ⟨1, z, t, _, _, _, by omega, rfl, rfl, in_next H.out HDC.out HZN.out HT.out.1⟩ | simp [intOf]))
      · have ha0 := H.out.1
        have ha1 := H.out.2.1
        have hM := HM.out
        have hX := HX.out
        simp only [Nat.reduceMul, Nat.reducePow] at ha0
        have hor : Go.bits .or .u64 (acc : Int) ((m : Int) * 128) = ((acc + m * 128 : Nat) : Int) := by
          have := or_shift acc m 7 ha0 ha1 (by omega)
          simpa using this
        obtain ⟨z, hz⟩ : ∃ z, acc + m * 128 = z := ⟨_, rfl⟩
        rw [hz] at hor
        have hzl : z < 18446744073709551616 := by omega
        have HZL := Lib.hid hzl
        have hnot : ¬ (9 < 1 ∨ 18446744073709551616 ≤ x % 128 * 2 ^ (7 * 1)) := by
          rw [hM]; simp only [Nat.reduceMul, Nat.reducePow]; omega
        have HZN := Lib.hid (show z < 2 ^ (7 * (1 + 1)) ∧ z < 18446744073709551616 by simp only [Nat.reduceMul, Nat.reduceAdd, Nat.reducePow]; omega)
        have hz2 : acc + x % 128 * 2 ^ (7 * 1) = z := by rw [hM]; simpa using hz
        by_cases hx8 : x < 128
        · have hx8' : (x : Int) < 128 := by omega
          by_cases hx0 : x = 0
          · have HDC := Lib.hid (show dec 1 acc (x :: t) = none by rw [dec, if_neg hnot, if_pos hx8, if_pos (by omega)])
            have hm0 : m = 0 := by omega
            clear hx8' hx1 hm1 ha0 ha1 hM hX hz hzl hnot hz2 hx8 HM HX
            subst hx0
            subst hm0
            simp only [Int.ofNat_zero, Int.zero_mul, Int.natCast_zero, Int.cast_ofNat_Int] at hand hor q3
            by_cases hc1 : c' = 1
            · have HT1 := Lib.hid (HT.out.2 hc1)
              subst hc1
              go_wp2
              all_goals (go_ret; have hN := HN.out; subst hN; exact in_bad H.out HDC.out HT1.out)
            · go_wp2
              all_goals (go_ret; have hN := HN.out; subst hN; exact in_bad H.out HDC.out HT.out.1)
          · have hx0' : ¬ (x : Int) = 0 := by omega
            have HDC := Lib.hid (show dec 1 acc (x :: t) = some (z, t) by rw [dec, if_neg hnot, if_pos hx8, if_neg (by omega), hz2])
            clear ha0 ha1 hM hX hz hzl hnot hz2 hx8
            by_cases hc1 : c' = 1
            · have HT1 := Lib.hid (HT.out.2 hc1)
              subst hc1
              go_wp2
              all_goals (go_ret; have hN := HN.out; subst hN; exact in_good H.out HDC.out HZL.out HT1.out)
            · go_wp2
              all_goals (go_ret; have hN := HN.out; subst hN; exact in_good H.out HDC.out HZL.out HT.out.1)
        · have hx8' : ¬ (x : Int) < 128 := by omega
          have HDC := Lib.hid (show dec 1 acc (x :: t) = dec (1 + 1) z t by rw [dec, if_neg hnot, if_neg hx8, hz2])
          clear ha0 ha1 hM hX hz hzl hnot hz2 hx8
          by_cases hc1 : c' = 1
          · have HT1 := Lib.hid (HT.out.2 hc1)
            subst hc1
            go_wp2
            all_goals (go_roundw; all_goals (have hN := HN.out; subst hN; first | exact ⟨2, z, t, _, _, _, by omega, rfl, rfl, in_next H.out HDC.out HZN.out HT1.out⟩ | simp [intOf]))
          · go_wp2
            all_goals (go_roundw; all_goals (have hN := HN.out; subst hN; first | exact ⟨2, z, t, _, _, _, by omega, rfl, rfl, in_next H.out HDC.out HZN.out HT.out.1⟩ | simp [intOf]))
      · have ha0 := H.out.1
        have ha1 := H.out.2.1
        have hM := HM.out
        have hX := HX.out
        simp only [Nat.reduceMul, Nat.reducePow] at ha0
        have hor : Go.bits .or .u64 (acc : Int) ((m : Int) * 16384) = ((acc + m * 16384 : Nat) : Int) := by
          have := or_shift acc m 14 ha0 ha1 (by omega)
          simpa using this
        obtain ⟨z, hz⟩ : ∃ z, acc + m * 16384 = z := ⟨_, rfl⟩
        rw [hz] at hor
        have hzl : z < 18446744073709551616 := by omega
        have HZL := Lib.hid hzl
        have hnot : ¬ (9 < 2 ∨ 18446744073709551616 ≤ x % 128 * 2 ^ (7 * 2)) := by
          rw [hM]; simp only [Nat.reduceMul, Nat.reducePow]; omega
        have HZN := Lib.hid (show z < 2 ^ (7 * (2 + 1)) ∧ z < 18446744073709551616 by simp only [Nat.reduceMul, Nat.reduceAdd, Nat.reducePow]; omega)
        have hz2 : acc + x % 128 * 2 ^ (7 * 2) = z := by rw [hM]; simpa using hz
        by_cases hx8 : x < 128
        · have hx8' : (x : Int) < 128 := by omega
          by_cases hx0 : x = 0
          · have HDC := Lib.hid (show dec 2 acc (x :: t) = none by rw [dec, if_neg hnot, if_pos hx8, if_pos (by omega)])
            have hm0 : m = 0 := by omega
            clear hx8' hx1 hm1 ha0 ha1 hM hX hz hzl hnot hz2 hx8 HM HX
            subst hx0
            subst hm0
            simp only [Int.ofNat_zero, Int.zero_mul, Int.natCast_zero, Int.cast_ofNat_Int] at hand hor q3
            by_cases hc1 : c' = 1
            · have HT1 := Lib.hid (HT.out.2 hc1)
              subst hc1
              go_wp2
              all_goals (go_ret; have hN := HN.out; subst hN; exact in_bad H.out HDC.out HT1.out)
            · go_wp2
              all_goals (go_ret; have hN := HN.out; subst hN; exact in_bad H.out HDC.out HT.out.1)
          · have hx0' : ¬ (x : Int) = 0 := by omega
            have HDC := Lib.hid (show dec 2 acc (x :: t) = some (z, t) by rw [dec, if_neg hnot, if_pos hx8, if_neg (by omega), hz2])
            clear ha0 ha1 hM hX hz hzl hnot hz2 hx8
            by_cases hc1 : c' = 1
            · have HT1 := Lib.hid (HT.out.2 hc1)
              subst hc1
              go_wp2
              all_goals (go_ret; have hN := HN.out; subst hN; exact in_good H.out HDC.out HZL.out HT1.out)
            · go_wp2
              all_goals (go_ret; have hN := HN.out; subst hN; exact in_good H.out HDC.out HZL.out HT.out.1)
        · have hx8' : ¬ (x : Int) < 128 := by omega
          have HDC := Lib.hid (show dec 2 acc (x :: t) = dec (2 + 1) z t by rw [dec, if_neg hnot, if_neg hx8, hz2])
          clear ha0 ha1 hM hX hz hzl hnot hz2 hx8
          by_cases hc1 : c' = 1
          · have HT1 := Lib.hid (HT.out.2 hc1)
            subst hc1
            go_wp2
            all_goals (go_roundw; all_goals (have hN := HN.out; subst hN; first | exact ⟨3, z, t, _, _, _, by omega, rfl, rfl, in_next H.out HDC.out HZN.out HT1.out⟩ | simp [intOf]))
          · go_wp2
            all_goals (go_roundw; all_goals (have hN := HN.out; subst hN; first | exact ⟨3, z, t, _, _, _, by omega, rfl, rfl, in_next H.out HDC.out HZN.out HT.out.1⟩ | simp [intOf]))
      · have ha0 := H.out.1
        have ha1 := H.out.2.1
        have hM := HM.out
        have hX := HX.out
        simp only [Nat.reduceMul, Nat.reducePow] at ha0
        have hor : Go.bits .or .u64 (acc : Int) ((m : Int) * 2097152) = ((acc + m * 2097152 : Nat) : Int) := by
          have := or_shift acc m 21 ha0 ha1 (by omega)
          simpa using this
        obtain ⟨z, hz⟩ : ∃ z, acc + m * 2097152 = z := ⟨_, rfl⟩
        rw [hz] at hor
        have hzl : z < 18446744073709551616 := by omega
        have HZL := Lib.hid hzl
        have hnot : ¬ (9 < 3 ∨ 18446744073709551616 ≤ x % 128 * 2 ^ (7 * 3)) := by
          rw [hM]; simp only [Nat.reduceMul, Nat.reducePow]; omega
        have HZN := Lib.hid (show z < 2 ^ (7 * (3 + 1)) ∧ z < 18446744073709551616 by simp only [Nat.reduceMul, Nat.reduceAdd, Nat.reducePow]; omega)
        have hz2 : acc + x % 128 * 2 ^ (7 * 3) = z := by rw [hM]; simpa using hz
        by_cases hx8 : x < 128
        · have hx8' : (x : Int) < 128 := by omega
          by_cases hx0 : x = 0
          · have HDC := Lib.hid (show dec 3 acc (x :: t) = none by rw [dec, if_neg hnot, if_pos hx8, if_pos (by omega)])
            have hm0 : m = 0 := by omega
            clear hx8' hx1 hm1 ha0 ha1 hM hX hz hzl hnot hz2 hx8 HM HX
            subst hx0
            subst hm0
            simp only [Int.ofNat_zero, Int.zero_mul, Int.natCast_zero, Int.cast_ofNat_Int] at hand hor q3
            by_cases hc1 : c' = 1
            · have HT1 := Lib.hid (HT.out.2 hc1)
              subst hc1
              go_wp2
              all_goals (go_ret; have hN := HN.out; subst hN; exact in_bad H.out HDC.out HT1.out)
            · go_wp2
              all_goals (go_ret; have hN := HN.out; subst hN; exact in_bad H.out HDC.out HT.out.1)
          · have hx0' : ¬ (x : Int) = 0 := by omega
            have HDC := Lib.hid (show dec 3 acc (x :: t) = some (z, t) by rw [dec, if_neg hnot, if_pos hx8, if_neg (by omega), hz2])
            clear ha0 ha1 hM hX hz hzl hnot hz2 hx8
            by_cases hc1 : c' = 1
            · have HT1 := Lib.hid (HT.out.2 hc1)
              subst hc1
              go_wp2
              all_goals (go_ret; have hN := HN.out; subst hN; exact in_good H.out HDC.out HZL.out HT1.out)
            · go_wp2
              all_goals (go_ret; have hN := HN.out; subst hN; exact in_good H.out HDC.out HZL.out HT.out.1)
        · have hx8' : ¬ (x : Int) < 128 := by omega
          have HDC := Lib.hid (show dec 3 acc (x :: t) = dec (3 + 1) z t by rw [dec, if_neg hnot, if_neg hx8, hz2])
          clear ha0 ha1 hM hX hz hzl hnot hz2 hx8
          by_cases hc1 : c' = 1
          · have HT1 := Lib.hid (HT.out.2 hc1)
            subst hc1
            go_wp2
            all_goals (go_roundw; all_goals (have hN := HN.out; subst hN; first | exact ⟨4, z, t, _, _, _, by omega, rfl, rfl, in_next H.out HDC.out HZN.out HT1.out⟩ | simp [intOf]))
          · go_wp2
            all_goals (go_roundw; all_goals (have hN := HN.out; subst hN; first | exact ⟨4, z, t, _, _, _, by omega, rfl, rfl, in_next H.out HDC.out HZN.out HT.out.1⟩ | simp [intOf]))
      · have ha0 := H.out.1
        have ha1 := H.out.2.1
        have hM := HM.out
        have hX := HX.out
        simp only [Nat.reduceMul, Nat.reducePow] at ha0
        have hor : Go.bits .or .u64 (acc : Int) ((m : Int) * 268435456) = ((acc + m * 268435456 : Nat) : Int) := by
          have := or_shift acc m 28 ha0 ha1 (by omega)
          simpa using this
        obtain ⟨z, hz⟩ : ∃ z, acc + m * 268435456 = z := ⟨_, rfl⟩
        rw [hz] at hor
        have hzl : z < 18446744073709551616 := by omega
        have HZL := Lib.hid hzl
        have hnot : ¬ (9 < 4 ∨ 18446744073709551616 ≤ x % 128 * 2 ^ (7 * 4)) := by
          rw [hM]; simp only [Nat.reduceMul, Nat.reducePow]; omega
        have HZN := Lib.hid (show z < 2 ^ (7 * (4 + 1)) ∧ z < 18446744073709551616 by simp only [Nat.reduceMul, Nat.reduceAdd, Nat.reducePow]; omega)
        have hz2 : acc + x % 128 * 2 ^ (7 * 4) = z := by rw [hM]; simpa using hz
        by_cases hx8 : x < 128
        · have hx8' : (x : Int) < 128 := by omega
          by_cases hx0 : x = 0
          · have HDC := Lib.hid (show dec 4 acc (x :: t) = none by rw [dec, if_neg hnot, if_pos hx8, if_pos (by omega)])
            have hm0 : m = 0 := by omega
            clear hx8' hx1 hm1 ha0 ha1 hM hX hz hzl hnot hz2 hx8 HM HX
            subst hx0
            subst hm0
            simp only [Int.ofNat_zero, Int.zero_mul, Int.natCast_zero, Int.cast_ofNat_Int] at hand hor q3
            by_cases hc1 : c' = 1
            · have HT1 := Lib.hid (HT.out.2 hc1)
              subst hc1
              go_wp2
              all_goals (go_ret; have hN := HN.out; subst hN; exact in_bad H.out HDC.out HT1.out)
            · go_wp2
              all_goals (go_ret; have hN := HN.out; subst hN; exact in_bad H.out HDC.out HT.out.1)
          · have hx0' : ¬ (x : Int) = 0 := by omega
            have HDC := Lib.hid (show dec 4 acc (x :: t) = some (z, t) by rw [dec, if_neg hnot, if_pos hx8, if_neg (by omega), hz2])
            clear ha0 ha1 hM hX hz hzl hnot hz2 hx8
            by_cases hc1 : c' = 1
            · have HT1 := Lib.hid (HT.out.2 hc1)
              subst hc1
              go_wp2
              all_goals (go_ret; have hN := HN.out; subst hN; exact in_good H.out HDC.out HZL.out HT1.out)
            · go_wp2
              all_goals (go_ret; have hN := HN.out; subst hN; exact in_good H.out HDC.out HZL.out HT.out.1)
        · have hx8' : ¬ (x : Int) < 128 := by omega
          have HDC := Lib.hid (show dec 4 acc (x :: t) = dec (4 + 1) z t by rw [dec, if_neg hnot, if_neg hx8, hz2])
          clear ha0 ha1 hM hX hz hzl hnot hz2 hx8
          by_cases hc1 : c' = 1
          · have HT1 := Lib.hid (HT.out.2 hc1)
            subst hc1
            go_wp2
            all_goals (go_roundw; all_goals (have hN := HN.out; subst hN; first | exact ⟨5, z, t, _, _, _, by omega, rfl, rfl, in_next H.out HDC.out HZN.out HT1.out⟩ | simp [intOf]))
          · go_wp2
            all_goals (go_roundw; all_goals (have hN := HN.out; subst hN; first | exact ⟨5, z, t, _, _, _, by omega, rfl, rfl, in_next H.out HDC.out HZN.out HT.out.1⟩ | simp [intOf]))
      · have ha0 := H.out.1
        have ha1 := H.out.2.1
        have hM := HM.out
        have hX := HX.out
        simp only [Nat.reduceMul, Nat.reducePow] at ha0
        have hor : Go.bits .or .u64 (acc : Int) ((m : Int) * 34359738368) = ((acc + m * 34359738368 : Nat) : Int) := by
          have := or_shift acc m 35 ha0 ha1 (by omega)
          simpa using this
        obtain ⟨z, hz⟩ : ∃ z, acc + m * 34359738368 = z := ⟨_, rfl⟩
        rw [hz] at hor
        have hzl : z < 18446744073709551616 := by omega
        have HZL := Lib.hid hzl
        have hnot : ¬ (9 < 5 ∨ 18446744073709551616 ≤ x % 128 * 2 ^ (7 * 5)) := by
          rw [hM]; simp only [Nat.reduceMul, Nat.reducePow]; omega
        have HZN := Lib.hid (show z < 2 ^ (7 * (5 + 1)) ∧ z < 18446744073709551616 by simp only [Nat.reduceMul, Nat.reduceAdd, Nat.reducePow]; omega)
        have hz2 : acc + x % 128 * 2 ^ (7 * 5) = z := by rw [hM]; simpa using hz
        by_cases hx8 : x < 128
        · have hx8' : (x : Int) < 128 := by omega
          by_cases hx0 : x = 0
          · have HDC := Lib.hid (show dec 5 acc (x :: t) = none by rw [dec, if_neg hnot, if_pos hx8, if_pos (by omega)])
            have hm0 : m = 0 := by omega
            clear hx8' hx1 hm1 ha0 ha1 hM hX hz hzl hnot hz2 hx8 HM HX
            subst hx0
            subst hm0
            simp only [Int.ofNat_zero, Int.zero_mul, Int.natCast_zero, Int.cast_ofNat_Int] at hand hor q3
            by_cases hc1 : c' = 1
            · have HT1 := Lib.hid (HT.out.2 hc1)
              subst hc1
              go_wp2
              all_goals (go_ret; have hN := HN.out; subst hN; exact in_bad H.out HDC.out HT1.out)
            · go_wp2
              all_goals (go_ret; have hN := HN.out; subst hN; exact in_bad H.out HDC.out HT.out.1)
          · have hx0' : ¬ (x : Int) = 0 := by omega
            have HDC := Lib.hid (show dec 5 acc (x :: t) = some (z, t) by rw [dec, if_neg hnot, if_pos hx8, if_neg (by omega), hz2])
            clear ha0 ha1 hM hX hz hzl hnot hz2 hx8
            by_cases hc1 : c' = 1
            · have HT1 := Lib.hid (HT.out.2 hc1)
              subst hc1
              go_wp2
              all_goals (go_ret; have hN := HN.out; subst hN; exact in_good H.out HDC.out HZL.out HT1.out)
            · go_wp2
              all_goals (go_ret; have hN := HN.out; subst hN; exact in_good H.out HDC.out HZL.out HT.out.1)
        · have hx8' : ¬ (x : Int) < 128 := by omega
          have HDC := Lib.hid (show dec 5 acc (x :: t) = dec (5 + 1) z t by rw [dec, if_neg hnot, if_neg hx8, hz2])
          clear ha0 ha1 hM hX hz hzl hnot hz2 hx8
          by_cases hc1 : c' = 1
          · have HT1 := Lib.hid (HT.out.2 hc1)
            subst hc1
            go_wp2
            all_goals (go_roundw; all_goals (have hN := HN.out; subst hN; first | exact ⟨6, z, t, _, _, _, by omega, rfl, rfl, in_next H.out HDC.out HZN.out HT1.out⟩ | simp [intOf]))
          · go_wp2
            all_goals (go_roundw; all_goals (have hN := HN.out; subst hN; first | exact ⟨6, z, t, _, _, _, by omega, rfl, rfl, in_next H.out HDC.out HZN.out HT.out.1⟩ | simp [intOf]))
      · have ha0 := H.out.1
        have ha1 := H.out.2.1
        have hM := HM.out
        have hX := HX.out
        simp only [Nat.reduceMul, Nat.reducePow] at ha0
        have hor : Go.bits .or .u64 (acc : Int) ((m : Int) * 4398046511104) = ((acc + m * 4398046511104 : Nat) : Int) := by
          have := or_shift acc m 42 ha0 ha1 (by omega)
          simpa using this
        obtain ⟨z, hz⟩ : ∃ z, acc + m * 4398046511104 = z := ⟨_, rfl⟩
        rw [hz] at hor
        have hzl : z < 18446744073709551616 := by omega
        have HZL := Lib.hid hzl
        have hnot : ¬ (9 < 6 ∨ 18446744073709551616 ≤ x % 128 * 2 ^ (7 * 6)) := by
          rw [hM]; simp only [Nat.reduceMul, Nat.reducePow]; omega
        have HZN := Lib.hid (show z < 2 ^ (7 * (6 + 1)) ∧ z < 18446744073709551616 by simp only [Nat.reduceMul, Nat.reduceAdd, Nat.reducePow]; omega)
        have hz2 : acc + x % 128 * 2 ^ (7 * 6) = z := by rw [hM]; simpa using hz
        by_cases hx8 : x < 128
        · have hx8' : (x : Int) < 128 := by omega
          by_cases hx0 : x = 0
          · have HDC := Lib.hid (show dec 6 acc (x :: t) = none by rw [dec, if_neg hnot, if_pos hx8, if_pos (by omega)])
            have hm0 : m = 0 := by omega
            clear hx8' hx1 hm1 ha0 ha1 hM hX hz hzl hnot hz2 hx8 HM HX
            subst hx0
            subst hm0
            simp only [Int.ofNat_zero, Int.zero_mul, Int.natCast_zero, Int.cast_ofNat_Int] at hand hor q3
            by_cases hc1 : c' = 1
            · have HT1 := Lib.hid (HT.out.2 hc1)
              subst hc1
              go_wp2
              all_goals (go_ret; have hN := HN.out; subst hN; exact in_bad H.out HDC.out HT1.out)
            · go_wp2
              all_goals (go_ret; have hN := HN.out; subst hN; exact in_bad H.out HDC.out HT.out.1)
          · have hx0' : ¬ (x : Int) = 0 := by omega
            have HDC := Lib.hid (show dec 6 acc (x :: t) = some (z, t) by rw [dec, if_neg hnot, if_pos hx8, if_neg (by omega), hz2])
            clear ha0 ha1 hM hX hz hzl hnot hz2 hx8
            by_cases hc1 : c' = 1
            · have HT1 := Lib.hid (HT.out.2 hc1)
              subst hc1
              go_wp2
              all_goals (go_ret; have hN := HN.out; subst hN; exact in_good H.out HDC.out HZL.out HT1.out)
            · go_wp2
              all_goals (go_ret; have hN := HN.out; subst hN; exact in_good H.out HDC.out HZL.out HT.out.1)
        · have hx8' : ¬ (x : Int) < 128 := by omega
          have HDC := Lib.hid (show dec 6 acc (x :: t) = dec (6 + 1) z t by rw [dec, if_neg hnot, if_neg hx8, hz2])
          clear ha0 ha1 hM hX hz hzl hnot hz2 hx8
          by_cases hc1 : c' = 1
          · have HT1 := Lib.hid (HT.out.2 hc1)
            subst hc1
            go_wp2
            all_goals (go_roundw; all_goals (have hN := HN.out; subst hN; first | exact ⟨7, z, t, _, _, _, by omega, rfl, rfl, in_next H.out HDC.out HZN.out HT1.out⟩ | simp [intOf]))
          · go_wp2
            all_goals (go_roundw; all_goals (have hN := HN.out; subst hN; first | exact ⟨7, z, t, _, _, _, by omega, rfl, rfl, in_next H.out HDC.out HZN.out HT.out.1⟩ | simp [intOf]))
      · have ha0 := H.out.1
        have ha1 := H.out.2.1
        have hM := HM.out
        have hX := HX.out
        simp only [Nat.reduceMul, Nat.reducePow] at ha0
        have hor : Go.bits .or .u64 (acc : Int) ((m : Int) * 562949953421312) = ((acc + m * 562949953421312 : Nat) : Int) := by
          have := or_shift acc m 49 ha0 ha1 (by omega)
          simpa using this
        obtain ⟨z, hz⟩ : ∃ z, acc + m * 562949953421312 = z := ⟨_, rfl⟩
        rw [hz] at hor
        have hzl : z < 18446744073709551616 := by omega
        have HZL := Lib.hid hzl
        have hnot : ¬ (9 < 7 ∨ 18446744073709551616 ≤ x % 128 * 2 ^ (7 * 7)) := by
          rw [hM]; simp only [Nat.reduceMul, Nat.reducePow]; omega
        have HZN := Lib.hid (show z < 2 ^ (7 * (7 + 1)) ∧ z < 18446744073709551616 by simp only [Nat.reduceMul, Nat.reduceAdd, Nat.reducePow]; omega)
        have hz2 : acc + x % 128 * 2 ^ (7 * 7) = z := by rw [hM]; simpa using hz
        by_cases hx8 : x < 128
        · have hx8' : (x : Int) < 128 := by omega
          by_cases hx0 : x = 0
          · have HDC := Lib.hid (show dec 7 acc (x :: t) = none by rw [dec, if_neg hnot, if_pos hx8, if_pos (by omega)])
            have hm0 : m = 0 := by omega
            clear hx8' hx1 hm1 ha0 ha1 hM hX hz hzl hnot hz2 hx8 HM HX
            subst hx0
            subst hm0
            simp only [Int.ofNat_zero, Int.zero_mul, Int.natCast_zero, Int.cast_ofNat_Int] at hand hor q3
            by_cases hc1 : c' = 1
            · have HT1 := Lib.hid (HT.out.2 hc1)
              subst hc1
              go_wp2
              all_goals (go_ret; have hN := HN.out; subst hN; exact in_bad H.out HDC.out HT1.out)
            · go_wp2
              all_goals (go_ret; have hN := HN.out; subst hN; exact in_bad H.out HDC.out HT.out.1)
          · have hx0' : ¬ (x : Int) = 0 := by omega
            have HDC := Lib.hid (show dec 7 acc (x :: t) = some (z, t) by rw [dec, if_neg hnot, if_pos hx8, if_neg (by omega), hz2])
            clear ha0 ha1 hM hX hz hzl hnot hz2 hx8
            by_cases hc1 : c' = 1
            · have HT1 := Lib.hid (HT.out.2 hc1)
              subst hc1
              go_wp2
              all_goals (go_ret; have hN := HN.out; subst hN; exact in_good H.out HDC.out HZL.out HT1.out)
            · go_wp2
              all_goals (go_ret; have hN := HN.out; subst hN; exact in_good H.out HDC.out HZL.out HT.out.1)
        · have hx8' : ¬ (x : Int) < 128 := by omega
          have HDC := Lib.hid (show dec 7 acc (x :: t) = dec (7 + 1) z t by rw [dec, if_neg hnot, if_neg hx8, hz2])
          clear ha0 ha1 hM hX hz hzl hnot hz2 hx8
          by_cases hc1 : c' = 1
          · have HT1 := Lib.hid (HT.out.2 hc1)
            subst hc1
            go_wp2
            all_goals (go_roundw; all_goals (have hN := HN.out; subst hN; first | exact ⟨8, z, t, _, _, _, by omega, rfl, rfl, in_next H.out HDC.out HZN.out HT1.out⟩ | simp [intOf]))
          · go_wp2
            all_goals (go_roundw; all_goals (have hN := HN.out; subst hN; first | exact ⟨8, z, t, _, _, _, by omega, rfl, rfl, in_next H.out HDC.out HZN.out HT.out.1⟩ | simp [intOf]))
      · have ha0 := H.out.1
        have ha1 := H.out.2.1
        have hM := HM.out
        have hX := HX.out
        simp only [Nat.reduceMul, Nat.reducePow] at ha0
        have hor : Go.bits .or .u64 (acc : Int) ((m : Int) * 72057594037927936) = ((acc + m * 72057594037927936 : Nat) : Int) := by
          have := or_shift acc m 56 ha0 ha1 (by omega)
          simpa using this
        obtain ⟨z, hz⟩ : ∃ z, acc + m * 72057594037927936 = z := ⟨_, rfl⟩
        rw [hz] at hor
        have hzl : z < 18446744073709551616 := by omega
        have HZL := Lib.hid hzl
        have hnot : ¬ (9 < 8 ∨ 18446744073709551616 ≤ x % 128 * 2 ^ (7 * 8)) := by
          rw [hM]; simp only [Nat.reduceMul, Nat.reducePow]; omega
        have HZN := Lib.hid (show z < 2 ^ (7 * (8 + 1)) ∧ z < 18446744073709551616 by simp only [Nat.reduceMul, Nat.reduceAdd, Nat.reducePow]; omega)
        have hz2 : acc + x % 128 * 2 ^ (7 * 8) = z := by rw [hM]; simpa using hz
        by_cases hx8 : x < 128
        · have hx8' : (x : Int) < 128 := by omega
          by_cases hx0 : x = 0
          · have HDC := Lib.hid (show dec 8 acc (x :: t) = none by rw [dec, if_neg hnot, if_pos hx8, if_pos (by omega)])
            have hm0 : m = 0 := by omega
            clear hx8' hx1 hm1 ha0 ha1 hM hX hz hzl hnot hz2 hx8 HM HX
            subst hx0
            subst hm0
            simp only [Int.ofNat_zero, Int.zero_mul, Int.natCast_zero, Int.cast_ofNat_Int] at hand hor q3
            by_cases hc1 : c' = 1
            · have HT1 := Lib.hid (HT.out.2 hc1)
              subst hc1
              go_wp2
              all_goals (go_ret; have hN := HN.out; subst hN; exact in_bad H.out HDC.out HT1.out)
            · go_wp2
              all_goals (go_ret; have hN := HN.out; subst hN; exact in_bad H.out HDC.out HT.out.1)
          · have hx0' : ¬ (x : Int) = 0 := by omega
            have HDC := Lib.hid (show dec 8 acc (x :: t) = some (z, t) by rw [dec, if_neg hnot, if_pos hx8, if_neg (by omega), hz2])
            clear ha0 ha1 hM hX hz hzl hnot hz2 hx8
            by_cases hc1 : c' = 1
            · have HT1 := Lib.hid (HT.out.2 hc1)
              subst hc1
              go_wp2
              all_goals (go_ret; have hN := HN.out; subst hN; exact in_good H.out HDC.out HZL.out HT1.out)
            · go_wp2
              all_goals (go_ret; have hN := HN.out; subst hN; exact in_good H.out HDC.out HZL.out HT.out.1)
        · have hx8' : ¬ (x : Int) < 128 := by omega
          have HDC := Lib.hid (show dec 8 acc (x :: t) = dec (8 + 1) z t by rw [dec, if_neg hnot, if_neg hx8, hz2])
          clear ha0 ha1 hM hX hz hzl hnot hz2 hx8
          by_cases hc1 : c' = 1
          · have HT1 := Lib.hid (HT.out.2 hc1)
            subst hc1
            go_wp2
            all_goals (go_roundw; all_goals (have hN := HN.out; subst hN; first | exact ⟨9, z, t, _, _, _, by omega, rfl, rfl, in_next H.out HDC.out HZN.out HT1.out⟩ | simp [intOf]))
          · go_wp2
            all_goals (go_roundw; all_goals (have hN := HN.out; subst hN; first | exact ⟨9, z, t, _, _, _, by omega, rfl, rfl, in_next H.out HDC.out HZN.out HT.out.1⟩ | simp [intOf]))
      · have ha0 := H.out.1
        have ha1 := H.out.2.1
        have hM := HM.out
        have hX := HX.out
        simp only [Nat.reduceMul, Nat.reducePow] at ha0
        by_cases hov : 1 < m
        · have hov' : (1 : Int) < m := by omega
          have hne : ¬ IntKind.u64.wrap ((m : Int) * 9223372036854775808) / 9223372036854775808 = (m : Int) := by
            simp only [IntKind.wrap, IntKind.bits, IntKind.signed]; omega
          have HDC := Lib.hid (show dec 9 acc (x :: t) = none by rw [dec, if_pos (Or.inr (by rw [hM]; simp only [Nat.reduceMul, Nat.reducePow]; omega))])
          clear ha0 ha1 hM hX
          by_cases hc1 : c' = 1
          · have HT1 := Lib.hid (HT.out.2 hc1)
            subst hc1
            go_wp2
            all_goals (go_ret; have hN := HN.out; subst hN; exact in_bad H.out HDC.out HT1.out)
          · go_wp2
            all_goals (go_ret; have hN := HN.out; subst hN; exact in_bad H.out HDC.out HT.out.1)
        have hov' : (m : Int) ≤ 1 := by omega
        have hor : Go.bits .or .u64 (acc : Int) ((m : Int) * 9223372036854775808) = ((acc + m * 9223372036854775808 : Nat) : Int) := by
          have := or_shift acc m 63 ha0 ha1 (by omega)
          simpa using this
        obtain ⟨z, hz⟩ : ∃ z, acc + m * 9223372036854775808 = z := ⟨_, rfl⟩
        rw [hz] at hor
        have hzl : z < 18446744073709551616 := by omega
        have HZL := Lib.hid hzl
        have hnot : ¬ (9 < 9 ∨ 18446744073709551616 ≤ x % 128 * 2 ^ (7 * 9)) := by
          rw [hM]; simp only [Nat.reduceMul, Nat.reducePow]; omega
        have HZN := Lib.hid (show z < 2 ^ (7 * (9 + 1)) ∧ z < 18446744073709551616 by simp only [Nat.reduceMul, Nat.reduceAdd, Nat.reducePow]; omega)
        have hz2 : acc + x % 128 * 2 ^ (7 * 9) = z := by rw [hM]; simpa using hz
        by_cases hx8 : x < 128
        · have hx8' : (x : Int) < 128 := by omega
          by_cases hx0 : x = 0
          · have HDC := Lib.hid (show dec 9 acc (x :: t) = none by rw [dec, if_neg hnot, if_pos hx8, if_pos (by omega)])
            have hm0 : m = 0 := by omega
            clear hx8' hx1 hm1 ha0 ha1 hM hX hz hzl hnot hz2 hx8 HM HX hov hov'
            subst hx0
            subst hm0
            simp only [Int.ofNat_zero, Int.zero_mul, Int.natCast_zero, Int.cast_ofNat_Int] at hand hor q3
            by_cases hc1 : c' = 1
            · have HT1 := Lib.hid (HT.out.2 hc1)
              subst hc1
              go_wp2
              all_goals (go_ret; have hN := HN.out; subst hN; exact in_bad H.out HDC.out HT1.out)
            · go_wp2
              all_goals (go_ret; have hN := HN.out; subst hN; exact in_bad H.out HDC.out HT.out.1)
          · have hx0' : ¬ (x : Int) = 0 := by omega
            have HDC := Lib.hid (show dec 9 acc (x :: t) = some (z, t) by rw [dec, if_neg hnot, if_pos hx8, if_neg (by omega), hz2])
            clear ha0 ha1 hM hX hz hzl hnot hz2 hx8
            by_cases hc1 : c' = 1
            · have HT1 := Lib.hid (HT.out.2 hc1)
              subst hc1
              go_wp2
              all_goals (go_ret; have hN := HN.out; subst hN; exact in_good H.out HDC.out HZL.out HT1.out)
            · go_wp2
              all_goals (go_ret; have hN := HN.out; subst hN; exact in_good H.out HDC.out HZL.out HT.out.1)
        · have hx8' : ¬ (x : Int) < 128 := by omega
          have HDC := Lib.hid (show dec 9 acc (x :: t) = dec (9 + 1) z t by rw [dec, if_neg hnot, if_neg hx8, hz2])
          clear ha0 ha1 hM hX hz hzl hnot hz2 hx8
          by_cases hc1 : c' = 1
          · have HT1 := Lib.hid (HT.out.2 hc1)
            subst hc1
            go_wp2
            all_goals (go_roundw; all_goals (have hN := HN.out; subst hN; first | exact ⟨10, z, t, _, _, _, by omega, rfl, rfl, in_next H.out HDC.out HZN.out HT1.out⟩ | simp [intOf]))
          · go_wp2
            all_goals (go_roundw; all_goals (have hN := HN.out; subst hN; first | exact ⟨10, z, t, _, _, _, by omega, rfl, rfl, in_next H.out HDC.out HZN.out HT.out.1⟩ | simp [intOf]))
      · have HDC := Lib.hid (show dec 10 acc (x :: t) = none by rw [dec, if_pos (Or.inl (by omega))])
        by_cases hc1 : c' = 1
        · have HT1 := Lib.hid (HT.out.2 hc1)
          subst hc1
          go_wp2
          all_goals (go_ret; have hN := HN.out; subst hN; exact in_bad H.out HDC.out HT1.out)
        · go_wp2
          all_goals (go_ret; have hN := HN.out; subst hN; exact in_bad H.out HDC.out HT.out.1)

end Go.Proofs.YtobnbdoehobigaaDoor
