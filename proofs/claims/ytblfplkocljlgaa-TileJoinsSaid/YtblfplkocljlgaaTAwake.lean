import Derived.Test.YtblfplkocljlgaaTKeysF
namespace Go.Proofs.Ytblfplkocljlgaa
open Go.RowKit Go.ChangeMaps
set_option linter.unusedVariables false
set_option linter.unusedSimpArgs false

theorem ptr_neq (c : Nat) (w : World) : (binOp .neq 41 (.pointer (some ⟨c, 0, none⟩)) (.pointer none)).run Try.prog w = .ok (.bool true) w := by kernel_rfl

theorem row_keepG {b e size : Nat} {w w' : World} {v : Value} {n : Nat} {xs : List Value} {X : Nat → Prop} (h : w.ownsRow b e size v n xs) (hk : Keep w w' X) (hX : ∀ k, v.ownBlock = some k → ¬ X k) : w'.ownsRow b e size v n xs := by
  refine ⟨h.1, ?_⟩
  rcases h.2 with h2 | ⟨g, c, cur, rfl, hb, hg, rest⟩
  · exact .inl h2
  · exact .inr ⟨g, c, cur, rfl, hb, by rw [hk.block g (Array.getElem?_eq_some_iff.1 hg).1 (hX g rfl)]; exact hg, rest⟩

theorem OwnK.keep {T : TypeId} {b : Nat} {w w' : World} {v : Value} {l : List KK} {X : Nat → Prop} (h : OwnK T b w v l) (hk : Keep w w' X) (hX : ∀ k, v.ownBlock = some k → ¬ X k) : OwnK T b w' v l := ⟨row_keepG h.1 hk hX, h.2⟩
theorem OwnP.keep {κ : IntKind} {T : TypeId} {b : Nat} {w w' : World} {v : Value} {l : List Px} {X : Nat → Prop} (h : OwnP κ T b w v l) (hk : Keep w w' X) (hX : ∀ k, v.ownBlock = some k → ¬ X k) : OwnP κ T b w' v l := ⟨row_keepG h.1 hk hX, h.2⟩

theorem rep_right (n : Nat) (hn : n ≤ 255) : rightI 8 8 (List.replicate 64 ((n, 0, 0, 255) : Px)) = true := by
  unfold rightI allRight
  simp [sideB, rightP]
  omega

theorem plain_ok (k : KK) (n : Nat) (hk : rightK k = true) (hn : n ≤ 255) : putOk k 8 8 (List.replicate 64 ((n, 0, 0, 255) : Px)) = true := by
  unfold putOk
  rw [hk, rep_right n hn]; simp

set_option maxRecDepth 100000 in
set_option maxHeartbeats 6400000 in
theorem awake_any (w : World) : Calls Try.prog 11 #[] w fun e w' => e = .returned (.bool true) ∧ Ext w w' := by
  go_enter Try.func11, Try.ntmps11
  go_wp2_with fail
  refine (new_yes 2 w (by omega)).mono ?_
  rintro e w1 ⟨rfl, hT, hE⟩
  obtain ⟨c, hc⟩ : ∃ c, w.heap.size + 1 = c := ⟨_, rfl⟩
  rw [hc] at hT ⊢
  have T1 := Lib.hid hT
  have E1 := Lib.hid hE
  have WN := Lib.hid (show WinN (-1) 0 9 1 (-1) 0 3 1 from ⟨by decide, by decide, by decide, by decide, by decide, by decide, by decide, by decide⟩)
  have ne := fun w => ptr_neq c w
  have HC := Lib.hid hc
  clear hT hE hc
  go_wp2_with fail
  refine (keys_yes (-1) 0 9 1 (-1) 0 3 1 w1 (by decide) WN.out).mono ?_
  rintro e w2 ⟨A, cap, rfl, hO, hE⟩
  have O2 := Lib.hid hO
  have E2 := Lib.hid hE
  have T2 := Lib.hid (T1.out.ext hE)
  clear hO hE
  simp only [Nat.one_mul]
  go_wp2_with fail
  refine (plain_any 7 w2 (by omega)).mono ?_
  rintro e w3 ⟨PA, pc, rfl, hO, hE⟩
  have O3 := Lib.hid hO
  have E3 := Lib.hid hE
  have T3 := Lib.hid (T2.out.ext hE)
  clear hO hE
  go_wp2_with fail
  refine (put_yes c ⟨2, []⟩ _ (1, 0) (.slice PA 64 pc) _ w3 T3.out O3.out.pix (by unfold inK; dsimp only; omega) (plain_ok (1, 0) 7 (by decide) (by omega)) (by simp) (by simp) (fun b hb => by
    have h1 := O3.out.row b hb
    have h2 := fun hb' => T2.out.lt b hb'
    intro h3
    have := h2 h3
    omega)).mono ?_
  rintro e w4 ⟨rfl, S4, hT4, hS4, hK4⟩
  have hm : (⟨2, []⟩ : TM).put (1, 0) (List.replicate 64 ((7, 0, 0, 255) : Px)) = ⟨2, [((1, 0), List.replicate 64 ((7, 0, 0, 255) : Px))]⟩ := by rfl
  rw [hm] at hT4
  have T4 := Lib.hid hT4
  have E4 : Hid (Ext w w4) := Lib.hid (Keep.toExt ((E1.out.trans E2.out).trans E3.out) hK4 (fun b hb => by have := HC.out; rcases hb with h | h <;> omega))
  have KY : Hid (Kys w4 (.slice A 3 cap) (keysN (-1) 0 3 3)) := Lib.hid (((O2.out.ext E3.out).keep hK4 (fun b hb h => by
    have := (O2.out.1.lt b hb).1
    have := T1.out.lt b h
    omega)).kys)
  clear hT4 hS4 hK4 hm
  go_wp2_with fail
  refine (len_any c _ S4 w4 T4.out).mono ?_
  rintro e w5 ⟨rfl, rfl⟩
  obtain ⟨b0, off0, kx, ky, rfl, hb0, hk0, hin0, d0, d1⟩ := KY.out.at (i := 0) (by omega)
  rw [keysN_getD _ _ _ _ _ (by omega)] at hk0
  simp only [Prod.mk.injEq] at hk0
  obtain ⟨rfl, rfl⟩ := hk0
  rw [Nat.zero_mul, Nat.add_zero] at d0
  rw [Nat.zero_mul, Nat.zero_add] at d1
  have hl : ((({ most := 2, l := [((1, 0), List.replicate 64 ((7, 0, 0, 255) : Px))] } : TM).l.length : Nat) : Int) = 1 := rfl
  rw [hl]
  clear hl
  go_wp2
  go_ret
  exact ⟨rfl, E4.out⟩

end Go.Proofs.Ytblfplkocljlgaa
