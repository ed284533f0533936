import Derived.Test.YtakebbphielbfaaDoorQRk2
namespace Go.Proofs.YtakebbphielbfaaDoor
open Go.RowKit
set_option linter.unusedVariables false
set_option linter.unusedSimpArgs false
set_option maxRecDepth 100000
set_option maxHeartbeats 6400000

def ptT (q : Pt) : List UInt8 := 32 :: (textA q.1 ++ 32 :: textA q.2)
def segT (s : Sg) : List UInt8 := lettersL.getD s.k.toNat 0 :: (ptsOf s (needL s.k)).flatMap ptT
def joinW (l : List Sg) : List UInt8 := Lib.join (showW l) [32]

theorem jt_app (a b : List (List UInt8)) : Lib.joinTail [32] (a ++ b) = Lib.joinTail [32] a ++ Lib.joinTail [32] b := by simp [Lib.joinTail]
theorem jt_pts (l : List Pt) : Lib.joinTail [32] (l.flatMap ptW) = l.flatMap ptT := by
  induction l with
  | nil => rfl
  | cons q l ih => rw [List.flatMap_cons, jt_app, ih, List.flatMap_cons]; simp [Lib.joinTail, ptW, ptT]
theorem join_seg (s : Sg) : Lib.join (segW s) [32] = segT s := by
  unfold segW segT
  rw [List.singleton_append, Lib.join_cons, jt_pts]; rfl
theorem join_two (x : List UInt8) (r : List (List UInt8)) (y : List UInt8) (t : List (List UInt8)) : Lib.join ((x :: r) ++ (y :: t)) [32] = Lib.join (x :: r) [32] ++ 32 :: Lib.join (y :: t) [32] := by
  rw [List.cons_append, Lib.join_cons, jt_app, Lib.join_cons, Lib.join_cons]
  simp [Lib.joinTail]
theorem segW_cons (s : Sg) : ∃ x r, segW s = x :: r := ⟨_, _, rfl⟩
theorem joinW_take {l : List Sg} {i : Nat} (h : i < l.length) : joinW (l.take (i + 1)) = (if i = 0 then [] else joinW (l.take i) ++ [32]) ++ segT (l.getD i noS) := by
  unfold joinW
  rw [showW_take h]
  obtain ⟨y, t, e⟩ := segW_cons (l.getD i noS)
  by_cases h0 : i = 0
  · subst h0
    rw [if_pos rfl, ← join_seg]
    simp [showW]
  · rw [if_neg h0]
    have hne : showW (l.take i) ≠ [] := by
      obtain ⟨j, rfl⟩ : ∃ j, i = j + 1 := ⟨i - 1, by omega⟩
      rw [showW_take (by omega)]
      obtain ⟨y2, t2, e2⟩ := segW_cons (l.getD j noS)
      rw [e2]; simp
    obtain ⟨x, r, e3⟩ : ∃ x r, showW (l.take i) = x :: r := List.exists_cons_of_ne_nil hne
    rw [e3, ← join_seg, e, join_two]
    simp
theorem ptsT_take {l : List Pt} {i : Nat} (h : i < l.length) : (l.take (i + 1)).flatMap ptT = (l.take i).flatMap ptT ++ ptT (l.getD i (0, 0)) := by
  have e : ∀ (a : List Pt) b, (a ++ [b]).flatMap ptT = a.flatMap ptT ++ ptT b := by intro a b; simp
  rw [List.take_succ_eq_append_getElem h, e, List.getD_eq_getElem?_getD, List.getElem?_eq_getElem h]; rfl
theorem ptT_len (q : Pt) : (ptT q).length ≤ 36 := by
  have h1 := textA_len q.1
  have h2 := textA_len q.2
  unfold ptT
  simp only [List.length_cons, List.length_append]
  omega
theorem refTextA_any (a : Int) (w : World) (h : inR a) : Calls Tryd.prog 26 #[.int .i64 a] w fun e w' => e = .returned (.string (ba (textA a))) ∧ Ext w w' := by
  have e : textA a = textL a := by unfold textA; exact if_pos h
  rw [e]; exact refText_any a w h

def kcs : List UInt8 := [77, 76, 81, 67, 90]
theorem kcs_at (k : Nat) (h : 1 ≤ k ∧ k ≤ 5) : kcs.getD (k - 1) 0 = lettersL.getD k 0 := by
  rcases (show k = 1 ∨ k = 2 ∨ k = 3 ∨ k = 4 ∨ k = 5 by omega) with rfl | rfl | rfl | rfl | rfl <;> rfl

theorem rshow_ok (A : Option Addr) (n c : Nat) (l : List Sg) (w : World) (hS : Sl sgR w (.slice A n c) l) (hn : n ≤ 4096) (hc : checkL false l = 0) :
    Calls Tryd.prog 16 #[.slice A n c] w fun e w' => e = .returned (.string (ba (joinW l))) ∧ Ext w w' := by
  have HN := Lib.hid hS.len
  have S := Lib.hid hS
  have HC := Lib.hid hc
  clear hS hc
  go_enter Tryd.func16, Tryd.ntmps16
  go_wp2
  go_loopw [3, 4] (fun t3 t4 wr => ∃ (i : Nat) (g : List UInt8), i ≤ n ∧ g.length ≤ 130 * i ∧ t3 = .string (ba g) ∧ t4 = .int .i64 (i : Int) ∧ Hid (g = joinW (l.take i) ∧ Ext w wr)) (fun _ t4 _ => n - (intOf t4).toNat)
  case atStart => exact ⟨0, [], by omega, by simp, rfl, rfl, Lib.hid ⟨rfl, Ext.refl _⟩⟩
  case round =>
    obtain ⟨i, g, hi, hg, rfl, rfl, ST⟩ := hrel
    by_cases hlt : i < n
    · have hlt' : (i : Int) < (n : Int) := by omega
      have CP := check1_parts (check_at2 l false i HC.out (by rw [← HN.out]; exact hlt))
      obtain ⟨b, off, rfl, hb, hok, hcl⟩ := (S.out.ext ST.out.2).at hlt
      have JT := Lib.hid (joinW_take (l := l) (i := i) (by rw [← HN.out]; exact hlt))
      obtain ⟨s, hs⟩ : ∃ s, l.getD i sgR.no = s := ⟨_, rfl⟩
      rw [hs] at hcl
      rw [show l.getD i noS = s from hs] at CP JT
      obtain ⟨⟨kz, ⟨x0, y0⟩, ⟨x1, y1⟩, ⟨x2, y2⟩⟩, hs2⟩ : ∃ s', s = s' := ⟨_, rfl⟩
      subst hs2
      obtain ⟨hk, hop, hzf, hrt⟩ := CP
      dsimp only at hk hop hzf hrt
      obtain ⟨k, rfl⟩ := Int.eq_ofNat_of_zero_le (show 0 ≤ kz by omega)
      obtain ⟨m, hm⟩ : ∃ m, needL (k : Int) = m := ⟨_, rfl⟩
      have hm3 : m ≤ 3 := by rw [← hm]; exact needL_le _
      rw [hm] at hzf hrt
      have RT := Lib.hid (of_decide_eq_true hrt)
      obtain ⟨PS, hPS⟩ : ∃ PS, ptsOf ⟨(k : Int), (x0, y0), (x1, y1), (x2, y2)⟩ m = PS := ⟨_, rfl⟩
      have HPS := Lib.hid hPS
      have PL : Hid (PS.length = m) := Lib.hid (by rw [← hPS]; exact ptsOf_len _ hm3)
      obtain ⟨ch, hch⟩ : ∃ ch, lettersL.getD k 0 = ch := ⟨_, rfl⟩
      have SG : Hid (segT ⟨(k : Int), (x0, y0), (x1, y1), (x2, y2)⟩ = ch :: PS.flatMap ptT) := Lib.hid (by
        unfold segT; dsimp only; rw [hm, hPS, Int.toNat_natCast, hch])
      rw [SG.out] at JT
      have ND := Lib.hid (fun wx => refNeed_any (k : Int) wx)
      rw [hm] at ND
      obtain ⟨k1, hk1⟩ : ∃ k1, k = k1 + 1 := ⟨k - 1, by omega⟩
      have EX : ({ data := #[77, 76, 81, 67, 90] } : ByteArray).extract k1 k = ba [ch] := by
        have h := ba_sub kcs k1 k
        have h2 : (kcs.take k).drop k1 = [ch] := by
          rw [hk1, take_sub (by show k1 < 5; omega), ← hch, ← kcs_at k (by omega), hk1]; rfl
        rw [h2] at h
        exact h
      have wrk : IntKind.i64.wrap ((k : Int) - 1) = (k1 : Int) := by rw [IntKind.wrap_i64]; omega
      have hkk1 : k1 ≤ k := by omega
      have hkk2 : k ≤ 5 := by omega
      have hkk3 : (k1 : Int) ≤ (k : Int) := by omega
      have hkk4 : (k : Int) ≤ 5 := by omega
      have CELL : Hid (∀ wx, Ext wr wx → ∀ j, j < 7 → wx.cell? ⟨b, off + (i * 7 + j), none⟩ = ([.int .i64 (k : Int), .int .i64 x0, .int .i64 y0, .int .i64 x1, .int .i64 y1, .int .i64 x2, .int .i64 y2] : List Value)[j]?) := Lib.hid (fun wx hx j hj => (hx.cell hb).trans (hcl j hj))
      have BL := Lib.hid hb
      have d0 : ∀ gg, (wr.ext gg).cell? ⟨b, off + i * 7, none⟩ = some (.int .i64 (k : Int)) := fun gg => CELL.out _ ⟨gg, rfl⟩ 0 (by decide)
      clear hs hcl hok hop hzf hrt hm hPS hch hb hk1
      obtain ⟨g0, hg0⟩ : ∃ g0, (if i = 0 then ([] : List UInt8) else g ++ [32]) = g0 := ⟨_, rfl⟩
      have JT2 : Hid (joinW (l.take (i + 1)) = g0 ++ ch :: PS.flatMap ptT) := Lib.hid (by rw [JT.out, ← ST.out.1, hg0])
      have ES := Lib.hid ST.out.2
      have zg : (ba g).size ≤ 600000 := by rw [ba_size]; omega
      have zc : (ba [ch]).size = 1 := ba_size _
      clear JT ST
      obtain ⟨WR0, hWR0⟩ : ∃ x, wr = x := ⟨_, rfl⟩
      rw [hWR0] at CELL BL d0 ES ⊢
      clear hWR0
      by_cases h0 : i = 0
      · have hi0 : ¬ 0 < (i : Int) := by omega
        obtain ⟨bg, hbg⟩ : ∃ bg, ba g = bg := ⟨_, rfl⟩
        rw [if_pos h0] at hg0
        have BG : Hid (bg = ba g0) := Lib.hid (by rw [← hbg, ← hg0, List.eq_nil_of_length_eq_zero (l := g) (by omega)])
        have G0L : Hid (g0.length ≤ 130 * i + 1) := Lib.hid (by rw [← hg0]; simp)
        clear h0 hg0
        have zbg : bg.size ≤ 600000 := by rw [BG.out, ba_size]; have := G0L.out; omega
        obtain ⟨b1, hb1⟩ : ∃ b1, bg ++ ba [ch] = b1 := ⟨_, rfl⟩
        have B1 : Hid (b1 = ba (g0 ++ [ch])) := Lib.hid (by rw [← hb1, BG.out, ba_app])
        go_wp2_with fail
        refine region_quiet (by kernel_rfl) (by kernel_rfl) ?_
        iterate 15 (go_big_quiet_step (fail))
        refine wpQuiet_nil ?_
        intro w4 hE4
        have E4 := Lib.hid hE4
        clear hE4 d0 hb1 hbg zg zbg BG
        go_wp2_with fail
        go_loopw [3, 5] (fun t3 t5 wx => ∃ (j : Nat) (h : List UInt8), j ≤ m ∧ h.length ≤ 130 * i + 2 + 36 * j ∧ t3 = .string (ba h) ∧ t5 = .int .i64 (j : Int) ∧ Hid (h = g0 ++ [ch] ++ (PS.take j).flatMap ptT ∧ Ext WR0 wx)) (fun _ t5 _ => m - (intOf t5).toNat)
        case atStart => exact ⟨0, g0 ++ [ch], by omega, by have := G0L.out; simp; omega, by rw [B1.out], rfl, Lib.hid ⟨by simp, E4.out⟩⟩
        case round =>
          obtain ⟨j, h, hj, hh, rfl, rfl, S2⟩ := hrel
          have z0 : wr.cell? ⟨b, off + i * 7, none⟩ = some (.int .i64 (k : Int)) := CELL.out _ S2.out.2 0 (by decide)
          have NDj := Lib.hid (ND.out wr)
          have zh : (ba h).size ≤ 600000 := by rw [ba_size]; omega
          by_cases hjm : j < m
          · rcases (show j = 0 ∨ j = 1 ∨ j = 2 by omega) with rfl | rfl | rfl
            · have hjm2 : (0 : Int) < (m : Int) := by omega
              have RR0 := RT.out.1 (by omega)
              have PT : Hid ((PS.take 1).flatMap ptT = (PS.take 0).flatMap ptT ++ ptT (x0, y0)) := Lib.hid (by
                rw [ptsT_take (i := 0) (by rw [PL.out]; exact hjm), ← HPS.out]
                unfold ptsOf
                rcases (show m = 1 ∨ m = 2 ∨ m = 3 by omega) with rfl | rfl | rfl <;> first | rfl | omega)
              obtain ⟨sx, hsx⟩ : ∃ sx, textA x0 = sx := ⟨_, rfl⟩
              obtain ⟨sy, hsy⟩ : ∃ sy, textA y0 = sy := ⟨_, rfl⟩
              have T1 : Hid (∀ wx, Calls Tryd.prog 26 #[.int .i64 x0] wx fun e w' => e = .returned (.string (ba sx)) ∧ Ext wx w') := Lib.hid (fun wx => by rw [← hsx]; exact refTextA_any x0 wx RR0.1)
              have T2 : Hid (∀ wx, Calls Tryd.prog 26 #[.int .i64 y0] wx fun e w' => e = .returned (.string (ba sy)) ∧ Ext wx w') := Lib.hid (fun wx => by rw [← hsy]; exact refTextA_any y0 wx RR0.2)
              have zx : (ba sx).size ≤ 17 := by rw [ba_size, ← hsx]; exact textA_len _
              have zy : (ba sy).size ≤ 17 := by rw [ba_size, ← hsy]; exact textA_len _
              have PTT : Hid (ptT (x0, y0) = 32 :: (sx ++ 32 :: sy)) := Lib.hid (by unfold ptT; dsimp only; rw [hsx, hsy])
              have CC : Hid (ba h ++ ({ data := #[32] } ++ ba sx ++ { data := #[32] } ++ ba sy) = ba (h ++ (32 :: (sx ++ 32 :: sy)))) := Lib.hid (by
                have e1 : ({ data := #[32] } : ByteArray) = ba [32] := rfl
                rw [e1, ba_app, ba_app, ba_app, ba_app]; simp)
              have NX : Hid (∀ w9, Ext wr w9 → (h ++ (32 :: (sx ++ 32 :: sy))) = g0 ++ [ch] ++ (PS.take 1).flatMap ptT ∧ Ext WR0 w9) := Lib.hid (fun w9 hx => ⟨by rw [S2.out.1, PT.out, PTT.out]; simp, S2.out.2.trans hx⟩)
              have NL : (h ++ (32 :: (sx ++ 32 :: sy))).length ≤ 130 * i + 2 + 36 * 1 := by rw [ba_size] at zx zy; simp only [List.length_append, List.length_cons]; omega
              have CE : Hid (∀ wx, Ext wr wx → wx.cell? ⟨b, off + (i * 7 + 1), none⟩ = some (.int .i64 x0) ∧ wx.cell? ⟨b, off + (i * 7 + 2), none⟩ = some (.int .i64 y0)) := Lib.hid (fun wx hx => ⟨CELL.out _ (S2.out.2.trans hx) 1 (by decide), CELL.out _ (S2.out.2.trans hx) 2 (by decide)⟩)
              clear RR0 hsx hsy
              go_wp2_with fail
              refine NDj.out.mono ?_
              rintro e w5 ⟨rfl, hE5⟩
              have E5 := Lib.hid hE5
              have c1 : ∀ gg, (w5.ext gg).cell? ⟨b, off + (i * 7 + 1), none⟩ = some (.int .i64 x0) := fun gg => (CE.out _ (hE5.trans ⟨gg, rfl⟩)).1
              have c2 : ∀ gg, (w5.ext gg).cell? ⟨b, off + (i * 7 + 2), none⟩ = some (.int .i64 y0) := fun gg => (CE.out _ (hE5.trans ⟨gg, rfl⟩)).2
              clear hE5 NDj z0 S2
              go_wp2_with fail
              refine region_quiet (by kernel_rfl) (by kernel_rfl) ?_
              iterate 10 (go_big_quiet_step (exact calls_ext (T1.out _)))
              iterate 11 (go_big_quiet_step (exact calls_ext (T2.out _)))
              iterate 3 (go_big_quiet_step (fail))
              refine wpQuiet_nil ?_
              intro w6 hE6
              have R := Lib.hid (NX.out w6 (E5.out.trans hE6))
              clear hE6 E5 c1 c2 T1 T2 NX CE
              go_wp2
              go_roundw
              case rel => exact ⟨1, _, by omega, NL, by rw [CC.out], by go_num, R⟩
              case measure => simp [intOf]; omega
            · have hjm2 : (1 : Int) < (m : Int) := by omega
              have RR0 := RT.out.2.1 (by omega)
              have PT : Hid ((PS.take 2).flatMap ptT = (PS.take 1).flatMap ptT ++ ptT (x1, y1)) := Lib.hid (by
                rw [ptsT_take (i := 1) (by rw [PL.out]; exact hjm), ← HPS.out]
                unfold ptsOf
                rcases (show m = 1 ∨ m = 2 ∨ m = 3 by omega) with rfl | rfl | rfl <;> first | rfl | omega)
              obtain ⟨sx, hsx⟩ : ∃ sx, textA x1 = sx := ⟨_, rfl⟩
              obtain ⟨sy, hsy⟩ : ∃ sy, textA y1 = sy := ⟨_, rfl⟩
              have T1 : Hid (∀ wx, Calls Tryd.prog 26 #[.int .i64 x1] wx fun e w' => e = .returned (.string (ba sx)) ∧ Ext wx w') := Lib.hid (fun wx => by rw [← hsx]; exact refTextA_any x1 wx RR0.1)
              have T2 : Hid (∀ wx, Calls Tryd.prog 26 #[.int .i64 y1] wx fun e w' => e = .returned (.string (ba sy)) ∧ Ext wx w') := Lib.hid (fun wx => by rw [← hsy]; exact refTextA_any y1 wx RR0.2)
              have zx : (ba sx).size ≤ 17 := by rw [ba_size, ← hsx]; exact textA_len _
              have zy : (ba sy).size ≤ 17 := by rw [ba_size, ← hsy]; exact textA_len _
              have PTT : Hid (ptT (x1, y1) = 32 :: (sx ++ 32 :: sy)) := Lib.hid (by unfold ptT; dsimp only; rw [hsx, hsy])
              have CC : Hid (ba h ++ ({ data := #[32] } ++ ba sx ++ { data := #[32] } ++ ba sy) = ba (h ++ (32 :: (sx ++ 32 :: sy)))) := Lib.hid (by
                have e1 : ({ data := #[32] } : ByteArray) = ba [32] := rfl
                rw [e1, ba_app, ba_app, ba_app, ba_app]; simp)
              have NX : Hid (∀ w9, Ext wr w9 → (h ++ (32 :: (sx ++ 32 :: sy))) = g0 ++ [ch] ++ (PS.take 2).flatMap ptT ∧ Ext WR0 w9) := Lib.hid (fun w9 hx => ⟨by rw [S2.out.1, PT.out, PTT.out]; simp, S2.out.2.trans hx⟩)
              have NL : (h ++ (32 :: (sx ++ 32 :: sy))).length ≤ 130 * i + 2 + 36 * 2 := by rw [ba_size] at zx zy; simp only [List.length_append, List.length_cons]; omega
              have CE : Hid (∀ wx, Ext wr wx → wx.cell? ⟨b, off + (i * 7 + 3), none⟩ = some (.int .i64 x1) ∧ wx.cell? ⟨b, off + (i * 7 + 4), none⟩ = some (.int .i64 y1)) := Lib.hid (fun wx hx => ⟨CELL.out _ (S2.out.2.trans hx) 3 (by decide), CELL.out _ (S2.out.2.trans hx) 4 (by decide)⟩)
              clear RR0 hsx hsy
              go_wp2_with fail
              refine NDj.out.mono ?_
              rintro e w5 ⟨rfl, hE5⟩
              have E5 := Lib.hid hE5
              have c1 : ∀ gg, (w5.ext gg).cell? ⟨b, off + (i * 7 + 3), none⟩ = some (.int .i64 x1) := fun gg => (CE.out _ (hE5.trans ⟨gg, rfl⟩)).1
              have c2 : ∀ gg, (w5.ext gg).cell? ⟨b, off + (i * 7 + 4), none⟩ = some (.int .i64 y1) := fun gg => (CE.out _ (hE5.trans ⟨gg, rfl⟩)).2
              clear hE5 NDj z0 S2
              go_wp2_with fail
              refine region_quiet (by kernel_rfl) (by kernel_rfl) ?_
              iterate 10 (go_big_quiet_step (exact calls_ext (T1.out _)))
              iterate 11 (go_big_quiet_step (exact calls_ext (T2.out _)))
              iterate 3 (go_big_quiet_step (fail))
              refine wpQuiet_nil ?_
              intro w6 hE6
              have R := Lib.hid (NX.out w6 (E5.out.trans hE6))
              clear hE6 E5 c1 c2 T1 T2 NX CE
              go_wp2
              go_roundw
              case rel => exact ⟨2, _, by omega, NL, by rw [CC.out], by go_num, R⟩
              case measure => simp [intOf]; omega
            · have hjm2 : (2 : Int) < (m : Int) := by omega
              have RR0 := RT.out.2.2 (by omega)
              have PT : Hid ((PS.take 3).flatMap ptT = (PS.take 2).flatMap ptT ++ ptT (x2, y2)) := Lib.hid (by
                rw [ptsT_take (i := 2) (by rw [PL.out]; exact hjm), ← HPS.out]
                unfold ptsOf
                rcases (show m = 1 ∨ m = 2 ∨ m = 3 by omega) with rfl | rfl | rfl <;> first | rfl | omega)
              obtain ⟨sx, hsx⟩ : ∃ sx, textA x2 = sx := ⟨_, rfl⟩
              obtain ⟨sy, hsy⟩ : ∃ sy, textA y2 = sy := ⟨_, rfl⟩
              have T1 : Hid (∀ wx, Calls Tryd.prog 26 #[.int .i64 x2] wx fun e w' => e = .returned (.string (ba sx)) ∧ Ext wx w') := Lib.hid (fun wx => by rw [← hsx]; exact refTextA_any x2 wx RR0.1)
              have T2 : Hid (∀ wx, Calls Tryd.prog 26 #[.int .i64 y2] wx fun e w' => e = .returned (.string (ba sy)) ∧ Ext wx w') := Lib.hid (fun wx => by rw [← hsy]; exact refTextA_any y2 wx RR0.2)
              have zx : (ba sx).size ≤ 17 := by rw [ba_size, ← hsx]; exact textA_len _
              have zy : (ba sy).size ≤ 17 := by rw [ba_size, ← hsy]; exact textA_len _
              have PTT : Hid (ptT (x2, y2) = 32 :: (sx ++ 32 :: sy)) := Lib.hid (by unfold ptT; dsimp only; rw [hsx, hsy])
              have CC : Hid (ba h ++ ({ data := #[32] } ++ ba sx ++ { data := #[32] } ++ ba sy) = ba (h ++ (32 :: (sx ++ 32 :: sy)))) := Lib.hid (by
                have e1 : ({ data := #[32] } : ByteArray) = ba [32] := rfl
                rw [e1, ba_app, ba_app, ba_app, ba_app]; simp)
              have NX : Hid (∀ w9, Ext wr w9 → (h ++ (32 :: (sx ++ 32 :: sy))) = g0 ++ [ch] ++ (PS.take 3).flatMap ptT ∧ Ext WR0 w9) := Lib.hid (fun w9 hx => ⟨by rw [S2.out.1, PT.out, PTT.out]; simp, S2.out.2.trans hx⟩)
              have NL : (h ++ (32 :: (sx ++ 32 :: sy))).length ≤ 130 * i + 2 + 36 * 3 := by rw [ba_size] at zx zy; simp only [List.length_append, List.length_cons]; omega
              have CE : Hid (∀ wx, Ext wr wx → wx.cell? ⟨b, off + (i * 7 + 5), none⟩ = some (.int .i64 x2) ∧ wx.cell? ⟨b, off + (i * 7 + 6), none⟩ = some (.int .i64 y2)) := Lib.hid (fun wx hx => ⟨CELL.out _ (S2.out.2.trans hx) 5 (by decide), CELL.out _ (S2.out.2.trans hx) 6 (by decide)⟩)
              clear RR0 hsx hsy
              go_wp2_with fail
              refine NDj.out.mono ?_
              rintro e w5 ⟨rfl, hE5⟩
              have E5 := Lib.hid hE5
              have c1 : ∀ gg, (w5.ext gg).cell? ⟨b, off + (i * 7 + 5), none⟩ = some (.int .i64 x2) := fun gg => (CE.out _ (hE5.trans ⟨gg, rfl⟩)).1
              have c2 : ∀ gg, (w5.ext gg).cell? ⟨b, off + (i * 7 + 6), none⟩ = some (.int .i64 y2) := fun gg => (CE.out _ (hE5.trans ⟨gg, rfl⟩)).2
              clear hE5 NDj z0 S2
              go_wp2_with fail
              refine region_quiet (by kernel_rfl) (by kernel_rfl) ?_
              iterate 10 (go_big_quiet_step (exact calls_ext (T1.out _)))
              iterate 11 (go_big_quiet_step (exact calls_ext (T2.out _)))
              iterate 3 (go_big_quiet_step (fail))
              refine wpQuiet_nil ?_
              intro w6 hE6
              have R := Lib.hid (NX.out w6 (E5.out.trans hE6))
              clear hE6 E5 c1 c2 T1 T2 NX CE
              go_wp2
              go_roundw
              case rel => exact ⟨3, _, by omega, NL, by rw [CC.out], by go_num, R⟩
              case measure => simp [intOf]; omega
          · have hjm' : ¬ (j : Int) < (m : Int) := by omega
            have FIN : Hid (∀ w9, Ext wr w9 → h = joinW (l.take (i + 1)) ∧ Ext w w9) := Lib.hid (fun w9 hx => ⟨by rw [S2.out.1, JT2.out, List.take_of_length_le (by rw [PL.out]; omega)]; simp, ES.out.trans (S2.out.2.trans hx)⟩)
            have HL : h.length ≤ 130 * (i + 1) := by omega
            go_wp2_with fail
            refine NDj.out.mono ?_
            rintro e w5 ⟨rfl, hE5⟩
            have R := Lib.hid (FIN.out w5 hE5)
            clear hE5 NDj S2 FIN
            go_wp2
            go_roundw
            case rel => exact ⟨i + 1, h, by omega, HL, rfl, by go_num, R⟩
            case measure => simp [intOf]; omega
      · have hi0 : 0 < (i : Int) := by omega
        obtain ⟨bg, hbg⟩ : ∃ bg, ba g ++ { data := #[32] } = bg := ⟨_, rfl⟩
        rw [if_neg h0] at hg0
        have BG : Hid (bg = ba g0) := Lib.hid (by rw [← hbg, ← hg0]; exact ba_app g [32])
        have G0L : Hid (g0.length ≤ 130 * i + 1) := Lib.hid (by rw [← hg0]; simp; omega)
        clear h0 hg0
        have zbg : bg.size ≤ 600000 := by rw [BG.out, ba_size]; have := G0L.out; omega
        obtain ⟨b1, hb1⟩ : ∃ b1, bg ++ ba [ch] = b1 := ⟨_, rfl⟩
        have B1 : Hid (b1 = ba (g0 ++ [ch])) := Lib.hid (by rw [← hb1, BG.out, ba_app])
        go_wp2_with fail
        refine region_quiet (by kernel_rfl) (by kernel_rfl) ?_
        iterate 15 (go_big_quiet_step (fail))
        refine wpQuiet_nil ?_
        intro w4 hE4
        have E4 := Lib.hid hE4
        clear hE4 d0 hb1 hbg zg zbg BG
        go_wp2_with fail
        go_loopw [3, 5] (fun t3 t5 wx => ∃ (j : Nat) (h : List UInt8), j ≤ m ∧ h.length ≤ 130 * i + 2 + 36 * j ∧ t3 = .string (ba h) ∧ t5 = .int .i64 (j : Int) ∧ Hid (h = g0 ++ [ch] ++ (PS.take j).flatMap ptT ∧ Ext WR0 wx)) (fun _ t5 _ => m - (intOf t5).toNat)
        case atStart => exact ⟨0, g0 ++ [ch], by omega, by have := G0L.out; simp; omega, by rw [B1.out], rfl, Lib.hid ⟨by simp, E4.out⟩⟩
        case round =>
          obtain ⟨j, h, hj, hh, rfl, rfl, S2⟩ := hrel
          have z0 : wr.cell? ⟨b, off + i * 7, none⟩ = some (.int .i64 (k : Int)) := CELL.out _ S2.out.2 0 (by decide)
          have NDj := Lib.hid (ND.out wr)
          have zh : (ba h).size ≤ 600000 := by rw [ba_size]; omega
          by_cases hjm : j < m
          · rcases (show j = 0 ∨ j = 1 ∨ j = 2 by omega) with rfl | rfl | rfl
            · have hjm2 : (0 : Int) < (m : Int) := by omega
              have RR0 := RT.out.1 (by omega)
              have PT : Hid ((PS.take 1).flatMap ptT = (PS.take 0).flatMap ptT ++ ptT (x0, y0)) := Lib.hid (by
                rw [ptsT_take (i := 0) (by rw [PL.out]; exact hjm), ← HPS.out]
                unfold ptsOf
                rcases (show m = 1 ∨ m = 2 ∨ m = 3 by omega) with rfl | rfl | rfl <;> first | rfl | omega)
              obtain ⟨sx, hsx⟩ : ∃ sx, textA x0 = sx := ⟨_, rfl⟩
              obtain ⟨sy, hsy⟩ : ∃ sy, textA y0 = sy := ⟨_, rfl⟩
              have T1 : Hid (∀ wx, Calls Tryd.prog 26 #[.int .i64 x0] wx fun e w' => e = .returned (.string (ba sx)) ∧ Ext wx w') := Lib.hid (fun wx => by rw [← hsx]; exact refTextA_any x0 wx RR0.1)
              have T2 : Hid (∀ wx, Calls Tryd.prog 26 #[.int .i64 y0] wx fun e w' => e = .returned (.string (ba sy)) ∧ Ext wx w') := Lib.hid (fun wx => by rw [← hsy]; exact refTextA_any y0 wx RR0.2)
              have zx : (ba sx).size ≤ 17 := by rw [ba_size, ← hsx]; exact textA_len _
              have zy : (ba sy).size ≤ 17 := by rw [ba_size, ← hsy]; exact textA_len _
              have PTT : Hid (ptT (x0, y0) = 32 :: (sx ++ 32 :: sy)) := Lib.hid (by unfold ptT; dsimp only; rw [hsx, hsy])
              have CC : Hid (ba h ++ ({ data := #[32] } ++ ba sx ++ { data := #[32] } ++ ba sy) = ba (h ++ (32 :: (sx ++ 32 :: sy)))) := Lib.hid (by
                have e1 : ({ data := #[32] } : ByteArray) = ba [32] := rfl
                rw [e1, ba_app, ba_app, ba_app, ba_app]; simp)
              have NX : Hid (∀ w9, Ext wr w9 → (h ++ (32 :: (sx ++ 32 :: sy))) = g0 ++ [ch] ++ (PS.take 1).flatMap ptT ∧ Ext WR0 w9) := Lib.hid (fun w9 hx => ⟨by rw [S2.out.1, PT.out, PTT.out]; simp, S2.out.2.trans hx⟩)
              have NL : (h ++ (32 :: (sx ++ 32 :: sy))).length ≤ 130 * i + 2 + 36 * 1 := by rw [ba_size] at zx zy; simp only [List.length_append, List.length_cons]; omega
              have CE : Hid (∀ wx, Ext wr wx → wx.cell? ⟨b, off + (i * 7 + 1), none⟩ = some (.int .i64 x0) ∧ wx.cell? ⟨b, off + (i * 7 + 2), none⟩ = some (.int .i64 y0)) := Lib.hid (fun wx hx => ⟨CELL.out _ (S2.out.2.trans hx) 1 (by decide), CELL.out _ (S2.out.2.trans hx) 2 (by decide)⟩)
              clear RR0 hsx hsy
              go_wp2_with fail
              refine NDj.out.mono ?_
              rintro e w5 ⟨rfl, hE5⟩
              have E5 := Lib.hid hE5
              have c1 : ∀ gg, (w5.ext gg).cell? ⟨b, off + (i * 7 + 1), none⟩ = some (.int .i64 x0) := fun gg => (CE.out _ (hE5.trans ⟨gg, rfl⟩)).1
              have c2 : ∀ gg, (w5.ext gg).cell? ⟨b, off + (i * 7 + 2), none⟩ = some (.int .i64 y0) := fun gg => (CE.out _ (hE5.trans ⟨gg, rfl⟩)).2
              clear hE5 NDj z0 S2
              go_wp2_with fail
              refine region_quiet (by kernel_rfl) (by kernel_rfl) ?_
              iterate 10 (go_big_quiet_step (exact calls_ext (T1.out _)))
              iterate 11 (go_big_quiet_step (exact calls_ext (T2.out _)))
              iterate 3 (go_big_quiet_step (fail))
              refine wpQuiet_nil ?_
              intro w6 hE6
              have R := Lib.hid (NX.out w6 (E5.out.trans hE6))
              clear hE6 E5 c1 c2 T1 T2 NX CE
              go_wp2
              go_roundw
              case rel => exact ⟨1, _, by omega, NL, by rw [CC.out], by go_num, R⟩
              case measure => simp [intOf]; omega
            · have hjm2 : (1 : Int) < (m : Int) := by omega
              have RR0 := RT.out.2.1 (by omega)
              have PT : Hid ((PS.take 2).flatMap ptT = (PS.take 1).flatMap ptT ++ ptT (x1, y1)) := Lib.hid (by
                rw [ptsT_take (i := 1) (by rw [PL.out]; exact hjm), ← HPS.out]
                unfold ptsOf
                rcases (show m = 1 ∨ m = 2 ∨ m = 3 by omega) with rfl | rfl | rfl <;> first | rfl | omega)
              obtain ⟨sx, hsx⟩ : ∃ sx, textA x1 = sx := ⟨_, rfl⟩
              obtain ⟨sy, hsy⟩ : ∃ sy, textA y1 = sy := ⟨_, rfl⟩
              have T1 : Hid (∀ wx, Calls Tryd.prog 26 #[.int .i64 x1] wx fun e w' => e = .returned (.string (ba sx)) ∧ Ext wx w') := Lib.hid (fun wx => by rw [← hsx]; exact refTextA_any x1 wx RR0.1)
              have T2 : Hid (∀ wx, Calls Tryd.prog 26 #[.int .i64 y1] wx fun e w' => e = .returned (.string (ba sy)) ∧ Ext wx w') := Lib.hid (fun wx => by rw [← hsy]; exact refTextA_any y1 wx RR0.2)
              have zx : (ba sx).size ≤ 17 := by rw [ba_size, ← hsx]; exact textA_len _
              have zy : (ba sy).size ≤ 17 := by rw [ba_size, ← hsy]; exact textA_len _
              have PTT : Hid (ptT (x1, y1) = 32 :: (sx ++ 32 :: sy)) := Lib.hid (by unfold ptT; dsimp only; rw [hsx, hsy])
              have CC : Hid (ba h ++ ({ data := #[32] } ++ ba sx ++ { data := #[32] } ++ ba sy) = ba (h ++ (32 :: (sx ++ 32 :: sy)))) := Lib.hid (by
                have e1 : ({ data := #[32] } : ByteArray) = ba [32] := rfl
                rw [e1, ba_app, ba_app, ba_app, ba_app]; simp)
              have NX : Hid (∀ w9, Ext wr w9 → (h ++ (32 :: (sx ++ 32 :: sy))) = g0 ++ [ch] ++ (PS.take 2).flatMap ptT ∧ Ext WR0 w9) := Lib.hid (fun w9 hx => ⟨by rw [S2.out.1, PT.out, PTT.out]; simp, S2.out.2.trans hx⟩)
              have NL : (h ++ (32 :: (sx ++ 32 :: sy))).length ≤ 130 * i + 2 + 36 * 2 := by rw [ba_size] at zx zy; simp only [List.length_append, List.length_cons]; omega
              have CE : Hid (∀ wx, Ext wr wx → wx.cell? ⟨b, off + (i * 7 + 3), none⟩ = some (.int .i64 x1) ∧ wx.cell? ⟨b, off + (i * 7 + 4), none⟩ = some (.int .i64 y1)) := Lib.hid (fun wx hx => ⟨CELL.out _ (S2.out.2.trans hx) 3 (by decide), CELL.out _ (S2.out.2.trans hx) 4 (by decide)⟩)
              clear RR0 hsx hsy
              go_wp2_with fail
              refine NDj.out.mono ?_
              rintro e w5 ⟨rfl, hE5⟩
              have E5 := Lib.hid hE5
              have c1 : ∀ gg, (w5.ext gg).cell? ⟨b, off + (i * 7 + 3), none⟩ = some (.int .i64 x1) := fun gg => (CE.out _ (hE5.trans ⟨gg, rfl⟩)).1
              have c2 : ∀ gg, (w5.ext gg).cell? ⟨b, off + (i * 7 + 4), none⟩ = some (.int .i64 y1) := fun gg => (CE.out _ (hE5.trans ⟨gg, rfl⟩)).2
              clear hE5 NDj z0 S2
              go_wp2_with fail
              refine region_quiet (by kernel_rfl) (by kernel_rfl) ?_
              iterate 10 (go_big_quiet_step (exact calls_ext (T1.out _)))
              iterate 11 (go_big_quiet_step (exact calls_ext (T2.out _)))
              iterate 3 (go_big_quiet_step (fail))
              refine wpQuiet_nil ?_
              intro w6 hE6
              have R := Lib.hid (NX.out w6 (E5.out.trans hE6))
              clear hE6 E5 c1 c2 T1 T2 NX CE
              go_wp2
              go_roundw
              case rel => exact ⟨2, _, by omega, NL, by rw [CC.out], by go_num, R⟩
              case measure => simp [intOf]; omega
            · have hjm2 : (2 : Int) < (m : Int) := by omega
              have RR0 := RT.out.2.2 (by omega)
              have PT : Hid ((PS.take 3).flatMap ptT = (PS.take 2).flatMap ptT ++ ptT (x2, y2)) := Lib.hid (by
                rw [ptsT_take (i := 2) (by rw [PL.out]; exact hjm), ← HPS.out]
                unfold ptsOf
                rcases (show m = 1 ∨ m = 2 ∨ m = 3 by omega) with rfl | rfl | rfl <;> first | rfl | omega)
              obtain ⟨sx, hsx⟩ : ∃ sx, textA x2 = sx := ⟨_, rfl⟩
              obtain ⟨sy, hsy⟩ : ∃ sy, textA y2 = sy := ⟨_, rfl⟩
              have T1 : Hid (∀ wx, Calls Tryd.prog 26 #[.int .i64 x2] wx fun e w' => e = .returned (.string (ba sx)) ∧ Ext wx w') := Lib.hid (fun wx => by rw [← hsx]; exact refTextA_any x2 wx RR0.1)
              have T2 : Hid (∀ wx, Calls Tryd.prog 26 #[.int .i64 y2] wx fun e w' => e = .returned (.string (ba sy)) ∧ Ext wx w') := Lib.hid (fun wx => by rw [← hsy]; exact refTextA_any y2 wx RR0.2)
              have zx : (ba sx).size ≤ 17 := by rw [ba_size, ← hsx]; exact textA_len _
              have zy : (ba sy).size ≤ 17 := by rw [ba_size, ← hsy]; exact textA_len _
              have PTT : Hid (ptT (x2, y2) = 32 :: (sx ++ 32 :: sy)) := Lib.hid (by unfold ptT; dsimp only; rw [hsx, hsy])
              have CC : Hid (ba h ++ ({ data := #[32] } ++ ba sx ++ { data := #[32] } ++ ba sy) = ba (h ++ (32 :: (sx ++ 32 :: sy)))) := Lib.hid (by
                have e1 : ({ data := #[32] } : ByteArray) = ba [32] := rfl
                rw [e1, ba_app, ba_app, ba_app, ba_app]; simp)
              have NX : Hid (∀ w9, Ext wr w9 → (h ++ (32 :: (sx ++ 32 :: sy))) = g0 ++ [ch] ++ (PS.take 3).flatMap ptT ∧ Ext WR0 w9) := Lib.hid (fun w9 hx => ⟨by rw [S2.out.1, PT.out, PTT.out]; simp, S2.out.2.trans hx⟩)
              have NL : (h ++ (32 :: (sx ++ 32 :: sy))).length ≤ 130 * i + 2 + 36 * 3 := by rw [ba_size] at zx zy; simp only [List.length_append, List.length_cons]; omega
              have CE : Hid (∀ wx, Ext wr wx → wx.cell? ⟨b, off + (i * 7 + 5), none⟩ = some (.int .i64 x2) ∧ wx.cell? ⟨b, off + (i * 7 + 6), none⟩ = some (.int .i64 y2)) := Lib.hid (fun wx hx => ⟨CELL.out _ (S2.out.2.trans hx) 5 (by decide), CELL.out _ (S2.out.2.trans hx) 6 (by decide)⟩)
              clear RR0 hsx hsy
              go_wp2_with fail
              refine NDj.out.mono ?_
              rintro e w5 ⟨rfl, hE5⟩
              have E5 := Lib.hid hE5
              have c1 : ∀ gg, (w5.ext gg).cell? ⟨b, off + (i * 7 + 5), none⟩ = some (.int .i64 x2) := fun gg => (CE.out _ (hE5.trans ⟨gg, rfl⟩)).1
              have c2 : ∀ gg, (w5.ext gg).cell? ⟨b, off + (i * 7 + 6), none⟩ = some (.int .i64 y2) := fun gg => (CE.out _ (hE5.trans ⟨gg, rfl⟩)).2
              clear hE5 NDj z0 S2
              go_wp2_with fail
              refine region_quiet (by kernel_rfl) (by kernel_rfl) ?_
              iterate 10 (go_big_quiet_step (exact calls_ext (T1.out _)))
              iterate 11 (go_big_quiet_step (exact calls_ext (T2.out _)))
              iterate 3 (go_big_quiet_step (fail))
              refine wpQuiet_nil ?_
              intro w6 hE6
              have R := Lib.hid (NX.out w6 (E5.out.trans hE6))
              clear hE6 E5 c1 c2 T1 T2 NX CE
              go_wp2
              go_roundw
              case rel => exact ⟨3, _, by omega, NL, by rw [CC.out], by go_num, R⟩
              case measure => simp [intOf]; omega
          · have hjm' : ¬ (j : Int) < (m : Int) := by omega
            have FIN : Hid (∀ w9, Ext wr w9 → h = joinW (l.take (i + 1)) ∧ Ext w w9) := Lib.hid (fun w9 hx => ⟨by rw [S2.out.1, JT2.out, List.take_of_length_le (by rw [PL.out]; omega)]; simp, ES.out.trans (S2.out.2.trans hx)⟩)
            have HL : h.length ≤ 130 * (i + 1) := by omega
            go_wp2_with fail
            refine NDj.out.mono ?_
            rintro e w5 ⟨rfl, hE5⟩
            have R := Lib.hid (FIN.out w5 hE5)
            clear hE5 NDj S2 FIN
            go_wp2
            go_roundw
            case rel => exact ⟨i + 1, h, by omega, HL, rfl, by go_num, R⟩
            case measure => simp [intOf]; omega
    · have hlt' : ¬ (i : Int) < (n : Int) := by omega
      have FIN : Hid (ba g = ba (joinW l) ∧ Ext w wr) := Lib.hid ⟨by rw [ST.out.1, List.take_of_length_le (by rw [← HN.out]; omega)], ST.out.2⟩
      clear ST
      go_wp2
      go_ret
      exact ⟨by rw [FIN.out.1] <;> rfl, FIN.out.2⟩
end Go.Proofs.YtakebbphielbfaaDoor
