import Derived.Test.YtakebbphielbfaaDoorQWe
namespace Go.Proofs.YtakebbphielbfaaDoor
open Go.RowKit
set_option linter.unusedVariables false
set_option linter.unusedSimpArgs false
set_option maxRecDepth 100000
set_option maxHeartbeats 6400000

theorem ba_isEmpty (l : List UInt8) : (ba l).toList.isEmpty = l.isEmpty := by rw [ba_list]

/-- own words, and one more: what an append wants, and what it leaves -/
theorem own_str_ext {B : Nat} {w w' : World} {A : Option Addr} {n c : Nat} {l : List (List UInt8)} (h : OwnR strR 9 B w (.slice A n c) l) (hn : l.length = n) (he : Ext w w') : OwnR strR 9 B w' (.slice A n c) l := h.ext he

structure WR (B : Nat) (w0 w : World) (A : Option Addr) (n c : Nat) (l : List (List UInt8)) : Prop where
  own : OwnR strR 9 B w (.slice A n c) l
  len : l.length = n
  few : n ≤ 60002
  ext : Ext w0 w
  base : w0.heap.size = B

theorem WR.push {B : Nat} {w0 w w9 : World} {A : Option Addr} {n c : Nat} {l : List (List UInt8)} {x : List UInt8} {v9 : Value} (h : WR B w0 w A n c l) (hn : n ≤ 60001) (hw : w9.heap.size ≥ w.heap.size) {w1 : World} (h1 : Ext w w1) (hO : OwnR strR 9 B w9 v9 (l ++ [x])) (hg : w1.grownBy w9 (Value.slice A n c).ownBlock) : ∃ A9 c9, v9 = .slice A9 (n + 1) c9 ∧ WR B w0 w9 A9 (n + 1) c9 (l ++ [x]) := by
  obtain ⟨A9, c9, e9⟩ := hO.slice
  rw [show (l ++ [x]).length = n + 1 by rw [List.length_append, h.len]; rfl] at e9
  subst e9
  exact ⟨A9, c9, rfl, hO, by rw [List.length_append, h.len]; rfl, by omega, Keep.toExt (h.ext.trans h1) (Keep.grown hg) (fun k hk => by have := h.own.row k hk; have := h.base; omega), h.base⟩

theorem WR.ready {B : Nat} {w0 w : World} {A : Option Addr} {n c : Nat} {l : List (List UInt8)} (x : List UInt8) (h : WR B w0 w A n c l) (hx : x.length ≤ 100000) :
    OwnR strR 9 B (w.alloc (.cells #[.string (ba x)] 9)) (.slice A n c) l ∧ Sl strR (w.alloc (.cells #[.string (ba x)] 9)) (.slice (some ⟨w.heap.size, 0, none⟩) 1 1) [x] ∧ l.length + ([x] : List (List UInt8)).length ≤ 1000000 ∧ B ≤ (w.alloc (.cells #[.string (ba x)] 9)).heap.size ∧ Ext w (w.alloc (.cells #[.string (ba x)] 9)) := by
  refine ⟨h.own.ext ((Ext.refl _).alloc _), sl_one (by simp) hx (by intro j hj; rcases j with _ | j <;> (first | (simp [go_sem, strR]; done) | (exfalso; have : strR.n = 1 := rfl; omega))), by rw [h.len]; have := h.few; simp; omega, ?_, (Ext.refl _).alloc _⟩
  have := h.ext.size
  have := h.base
  simp [go_sem]; omega

/-- where the loop stands -/
def wsa (s : List UInt8) (i : Nat) : Wst := if i ≤ s.length then wat (s.take i) else (wordsL s, [])
theorem wsa_le {s : List UInt8} {i : Nat} (h : i ≤ s.length) : wsa s i = wat (s.take i) := if_pos h
theorem wsa_end (s : List UInt8) : wsa s (s.length + 1) = ((wsa s s.length).1 ++ flush (wsa s s.length).2, []) := by
  rw [wsa, if_neg (by omega), wsa_le (Nat.le_refl _), List.take_length]; rfl
theorem wsa_cur (s : List UInt8) (i : Nat) : (wsa s i).2.length ≤ s.length ∧ (wsa s i).1.length ≤ s.length := by
  unfold wsa
  split
  · have h := wInv (s.take i)
    have h1 := h.len
    have h3 : (s.take i).length ≤ s.length := by simp; omega
    exact ⟨by omega, wlen_le i⟩
  · exact ⟨by simp, wordsL_len s⟩

theorem refWords_any (s : List UInt8) (w : World) (hs : s.length ≤ 60000) :
    Calls Tryd.prog 8 #[.string (ba s)] w fun e w' => ∃ v, e = .returned v ∧ OwnR strR 9 w.heap.size w' v (wordsL s) ∧ Ext w w' := by
  have sz : (ba s).size = s.length := ba_size s
  obtain ⟨n, hn⟩ : ∃ n, w.heap.size = n := ⟨_, rfl⟩
  have HN := Lib.hid hn
  clear hn
  obtain ⟨N, hN⟩ : ∃ N, s.length = N := ⟨_, rfl⟩
  have HS := Lib.hid hN
  rw [hN] at sz hs
  have BY : Hid (∀ i, (h : i < (ba s).size) → (ba s)[i] = s.getD i 0) := Lib.hid (fun i h => by
    have : (ba s)[i] = s[i]'(by rw [ba_size] at h; exact h) := rfl
    rw [this, List.getD_eq_getElem?_getD, List.getElem?_eq_getElem (by rw [ba_size] at h; exact h)]; rfl)
  have LET := Lib.hid (fun c wx => refLet_any c wx)
  clear hN
  go_enter Tryd.func8, Tryd.ntmps8
  go_wp2
  go_loopw [3, 4, 5] (fun t3 t4 t5 wr => ∃ (i : Nat) (A : Option Addr) (k c : Nat) (cur : List UInt8), i ≤ N + 1 ∧ cur.length ≤ 60000 ∧ t3 = .slice A k c ∧ t4 = .string (ba cur) ∧ t5 = .int .i64 (i : Int) ∧ Hid (wsa s i = ((wsa s i).1, cur) ∧ WR n w wr A k c (wsa s i).1)) (fun _ _ t5 _ => N + 1 - (intOf t5).toNat)
  case atStart => exact ⟨0, none, 0, 0, [], by omega, by simp, rfl, rfl, rfl, Lib.hid ⟨by rw [wsa_le (Nat.zero_le _)]; rfl, by rw [wsa_le (Nat.zero_le _)]; exact ⟨OwnR.nil _ _ _ _, rfl, by omega, Ext.refl _, HN.out⟩⟩⟩
  case round =>
    obtain ⟨i, A, k, c, cur, hi, hcl, rfl, rfl, rfl, ST⟩ := hrel
    by_cases hle : i ≤ N
    · have hle' : (i : Int) ≤ (N : Int) := by omega
      obtain ⟨L, hL⟩ : ∃ L, (wsa s i).1 = L := ⟨_, rfl⟩
      rw [hL] at ST
      have HL := Lib.hid hL
      clear hL
      have hk : k ≤ 60000 := by
        have h1 := (wsa_cur s i).2
        rw [HL.out, HS.out] at h1
        have := ST.out.2.len
        omega
      -- the rest, once the word under way is put away
      by_cases hlt : i < N
      · have hlt' : (i : Int) < (N : Int) := by omega
        have hne : ((i : Int) == (N : Int)) = false := by simp; omega
        have hby := BY.out i (by omega)
        obtain ⟨ch, hc⟩ : ∃ c, s.getD i 0 = c := ⟨_, rfl⟩
        rw [hc] at hby
        have WT : Hid (wsa s (i + 1) = wst (L, cur) ch) := Lib.hid (by rw [wsa_le (by rw [HS.out]; omega), wat_take (by rw [HS.out]; exact hlt), hc, ← wsa_le (by rw [HS.out]; omega), ST.out.1])
        have CS := Lib.hid (sepB_nat ch)
        have LT := Lib.hid (LET.out ch)
        obtain ⟨m, hm⟩ : ∃ m, ch.toNat = m := ⟨_, rfl⟩
        rw [hm] at CS LT
        by_cases hsep : m = 32 ∨ m = 44 ∨ m = 10
        · have SEP : sepB ch = true := by rw [CS.out]; simpa [or_assoc] using hsep
          have NX : Hid (wsa s (i + 1) = (L ++ flush cur, [])) := Lib.hid (by rw [WT.out, wst, if_pos SEP])
          have W0 := Lib.hid ST.out.2
          clear WT CS LT SEP ST
          by_cases hcur : cur = []
          · have EM : (ba cur).toList.isEmpty = true := by rw [ba_isEmpty, hcur]; rfl
            have R : Hid (wsa s (i + 1) = ((wsa s (i + 1)).1, []) ∧ WR n w wr A k c (wsa s (i + 1)).1) := Lib.hid (by rw [NX.out, hcur]; exact ⟨rfl, by simpa [flush] using W0.out⟩)
            clear W0 NX hcur
            rcases hsep with h | h | h <;> subst h
            all_goals (
              go_wp2
              go_roundw
              case rel => exact ⟨i + 1, A, k, c, [], by omega, by simp, rfl, rfl, by go_num, R⟩
              case measure => simp [intOf]; omega)
          · have EM : (ba cur).toList.isEmpty = false := by rw [ba_isEmpty]; cases cur with
              | nil => exact absurd rfl hcur
              | cons x y => rfl
            obtain ⟨r1, r2, r3, r4, r5⟩ := W0.out.ready cur (by omega)
            have O := Lib.hid r1
            have Y := Lib.hid r2
            have Z := Lib.hid r3
            have B := Lib.hid r4
            have X := Lib.hid r5
            have FL : Hid (flush cur = [cur]) := Lib.hid (by rw [flush, if_neg hcur])
            clear r1 r2 r3 r4 r5 hcur
            rcases hsep with h | h | h <;> subst h
            all_goals (
              go_wp2_with (at_builtin; refine wpList_rs strT rfl (.tmp 42) (.tmp 44) rfl rfl rfl O.out Y.out Z.out B.out ?_)
              intro v9 w9 hO9 hg9 hown9
              obtain ⟨A9, c9, rfl, hW⟩ := W0.out.push (w9 := w9) (by omega) (Nat.le_trans X.out.size hg9.size) X.out hO9 hg9
              have R : Hid (wsa s (i + 1) = ((wsa s (i + 1)).1, []) ∧ WR n w w9 A9 (k + 1) c9 (wsa s (i + 1)).1) := Lib.hid (by rw [NX.out, FL.out]; exact ⟨rfl, hW⟩)
              clear hO9 hg9 hown9 hW W0 O Y Z B X NX FL
              go_wp2
              go_roundw
              case rel => exact ⟨i + 1, A9, k + 1, c9, [], by omega, by simp, rfl, rfl, by go_num, R⟩
              case measure => simp [intOf]; omega)
        · have SEP : sepB ch = false := by rw [CS.out]; simpa [or_assoc, and_assoc] using hsep
          have e1 : ((m : Int) == 32) = false := by simp; omega
          have e2 : ((m : Int) == 44) = false := by simp; omega
          have e3 : ((m : Int) == 10) = false := by simp; omega
          clear CS hsep
          obtain ⟨i1, hi1⟩ : ∃ i1, i + 1 = i1 := ⟨_, rfl⟩
          have wr1 : IntKind.i64.wrap ((i : Int) + 1) = (i1 : Int) := by rw [IntKind.wrap_i64]; omega
          have hi2 : i ≤ i1 := by omega
          have hi3 : i1 ≤ N := by omega
          have EX := ba_sub s i (i + 1)
          rw [take_sub (by rw [HS.out]; exact hlt), hc, hi1] at EX
          rw [hi1] at WT
          have HI1 := Lib.hid hi1
          have HM1 : Hid (N + 1 - i1 < N + 1 - i) := Lib.hid (by omega)
          cases hl : letB ch with
          | true =>
            rw [hl] at LT
            have NX : Hid (wsa s i1 = (L ++ flush cur ++ [[ch]], [])) := Lib.hid (by rw [WT.out, wst, if_neg (by simp [SEP]), if_pos hl])
            have W0 := Lib.hid ST.out.2
            clear WT ST SEP hl hi1
            by_cases hcur : cur = []
            · have EM : (ba cur).toList.isEmpty = true := by rw [ba_isEmpty, hcur]; rfl
              have NX2 : Hid (wsa s i1 = (L ++ [[ch]], [])) := Lib.hid (by rw [NX.out, hcur]; simp [flush])
              clear NX hcur
              go_wp2_with fail
              refine (LT.out _).mono ?_
              rintro e w1 ⟨rfl, hE1⟩
              have W1 : Hid (WR n w w1 A k c L) := Lib.hid ⟨W0.out.own.ext hE1, W0.out.len, W0.out.few, W0.out.ext.trans hE1, W0.out.base⟩
              clear hE1 W0
              go_wp2_with fail
              refine (LT.out _).mono ?_
              rintro e w2 ⟨rfl, hE2⟩
              have W2 : Hid (WR n w w2 A k c L) := Lib.hid ⟨W1.out.own.ext hE2, W1.out.len, W1.out.few, W1.out.ext.trans hE2, W1.out.base⟩
              clear hE2 W1 LT
              obtain ⟨r1, r2, r3, r4, r5⟩ := W2.out.ready [ch] (by simp)
              have O := Lib.hid r1
              have Y := Lib.hid r2
              have Z := Lib.hid r3
              have B := Lib.hid r4
              have X := Lib.hid r5
              clear r1 r2 r3 r4 r5
              go_wp2_with (at_builtin; refine wpList_rs strT rfl (.tmp 56) (.tmp 62) rfl rfl rfl O.out Y.out Z.out B.out ?_)
              intro v9 w9 hO9 hg9 hown9
              obtain ⟨A9, c9, rfl, hW⟩ := W2.out.push (w9 := w9) (by omega) (Nat.le_trans X.out.size hg9.size) X.out hO9 hg9
              have R : Hid (wsa s i1 = ((wsa s i1).1, []) ∧ WR n w w9 A9 (k + 1) c9 (wsa s i1).1) := Lib.hid (by rw [NX2.out]; exact ⟨rfl, hW⟩)
              clear hO9 hg9 hown9 hW W2 O Y Z B X NX2
              go_wp2
              go_roundw
              case rel => exact ⟨i1, A9, k + 1, c9, [], by omega, by simp, rfl, rfl, by go_num, R⟩
              case measure => have := HM1.out; simp [intOf]; omega
            · have EM : (ba cur).toList.isEmpty = false := by rw [ba_isEmpty]; cases cur with
                | nil => exact absurd rfl hcur
                | cons x y => rfl
              have NX2 : Hid (wsa s i1 = (L ++ [cur] ++ [[ch]], [])) := Lib.hid (by rw [NX.out, flush, if_neg hcur])
              clear NX hcur
              go_wp2_with fail
              refine (LT.out _).mono ?_
              rintro e w1 ⟨rfl, hE1⟩
              have W1 : Hid (WR n w w1 A k c L) := Lib.hid ⟨W0.out.own.ext hE1, W0.out.len, W0.out.few, W0.out.ext.trans hE1, W0.out.base⟩
              clear hE1 W0
              obtain ⟨r1, r2, r3, r4, r5⟩ := W1.out.ready cur (by omega)
              have O := Lib.hid r1
              have Y := Lib.hid r2
              have Z := Lib.hid r3
              have B := Lib.hid r4
              have X := Lib.hid r5
              clear r1 r2 r3 r4 r5
              go_wp2_with (at_builtin; refine wpList_rs strT rfl (.tmp 42) (.tmp 44) rfl rfl rfl O.out Y.out Z.out B.out ?_)
              intro v9 w9 hO9 hg9 hown9
              obtain ⟨A9, c9, rfl, hW⟩ := W1.out.push (w9 := w9) (by omega) (Nat.le_trans X.out.size hg9.size) X.out hO9 hg9
              have W9 := Lib.hid hW
              clear hO9 hg9 hown9 hW W1 O Y Z B X
              go_wp2_with fail
              refine (LT.out _).mono ?_
              rintro e w2 ⟨rfl, hE2⟩
              have W2 : Hid (WR n w w2 A9 (k + 1) c9 (L ++ [cur])) := Lib.hid ⟨W9.out.own.ext hE2, W9.out.len, W9.out.few, W9.out.ext.trans hE2, W9.out.base⟩
              clear hE2 W9 LT
              obtain ⟨r1, r2, r3, r4, r5⟩ := W2.out.ready [ch] (by simp)
              have O := Lib.hid r1
              have Y := Lib.hid r2
              have Z := Lib.hid r3
              have B := Lib.hid r4
              have X := Lib.hid r5
              clear r1 r2 r3 r4 r5
              go_wp2_with (at_builtin; refine wpList_rs strT rfl (.tmp 56) (.tmp 62) rfl rfl rfl O.out Y.out Z.out B.out ?_)
              intro v8 w8 hO8 hg8 hown8
              rw [show L ++ [cur, [ch]] = L ++ [cur] ++ [[ch]] by simp] at hO8
              obtain ⟨A8, c8, rfl, hW⟩ := W2.out.push (w9 := w8) (by omega) (Nat.le_trans X.out.size hg8.size) X.out hO8 hg8
              have R : Hid (wsa s i1 = ((wsa s i1).1, []) ∧ WR n w w8 A8 (k + 1 + 1) c8 (wsa s i1).1) := Lib.hid (by rw [NX2.out]; exact ⟨rfl, hW⟩)
              clear hO8 hg8 hown8 hW W2 O Y Z B X NX2
              go_wp2
              go_roundw
              case rel => exact ⟨i1, A8, k + 1 + 1, c8, [], by omega, by simp, rfl, rfl, by go_num, R⟩
              case measure => have := HM1.out; simp [intOf]; omega
          | false =>
            rw [hl] at LT
            have NX : Hid (wsa s i1 = (L, cur ++ [ch])) := Lib.hid (by rw [WT.out, wst, if_neg (by simp [SEP]), if_neg (by simp [hl])])
            have NC : (cur ++ [ch]).length ≤ 60000 := by
              have := (wsa_cur s i1).1
              rw [NX.out, HS.out] at this
              dsimp only at this
              omega
            have W0 := Lib.hid ST.out.2
            clear WT ST SEP hl hi1
            have CC : ba cur ++ ba [ch] = ba (cur ++ [ch]) := ba_app _ _
            have zc : (ba cur).size ≤ 60000 := by rw [ba_size]; exact hcl
            have zd : (ba [ch]).size = 1 := ba_size _
            go_wp2_with fail
            refine (LT.out _).mono ?_
            rintro e w2 ⟨rfl, hE2⟩
            have W2 : Hid (wsa s i1 = ((wsa s i1).1, cur ++ [ch]) ∧ WR n w w2 A k c (wsa s i1).1) := Lib.hid (by rw [NX.out]; exact ⟨rfl, W0.out.own.ext hE2, W0.out.len, W0.out.few, W0.out.ext.trans hE2, W0.out.base⟩)
            clear hE2 W0 LT NX
            go_wp2
            go_roundw
            case rel => exact ⟨i1, A, k, c, cur ++ [ch], by omega, NC, rfl, rfl, by go_num, W2⟩
            case measure => have := HM1.out; simp [intOf]; omega
      · obtain rfl : i = N := by omega
        have NX : Hid (wsa s (i + 1) = (L ++ flush cur, [])) := Lib.hid (by
          have := wsa_end s
          rw [HS.out, ST.out.1] at this
          exact this)
        have W0 := Lib.hid ST.out.2
        clear ST hlt
        by_cases hcur : cur = []
        · have EM : (ba cur).toList.isEmpty = true := by rw [ba_isEmpty, hcur]; rfl
          have R : Hid (wsa s (i + 1) = ((wsa s (i + 1)).1, []) ∧ WR n w wr A k c (wsa s (i + 1)).1) := Lib.hid (by rw [NX.out, hcur]; exact ⟨rfl, by simpa [flush] using W0.out⟩)
          clear W0 NX hcur
          go_wp2
          go_roundw
          case rel => exact ⟨i + 1, A, k, c, [], by omega, by simp, rfl, rfl, by go_num, R⟩
          case measure => simp [intOf]
        · have EM : (ba cur).toList.isEmpty = false := by rw [ba_isEmpty]; cases cur with
            | nil => exact absurd rfl hcur
            | cons x y => rfl
          obtain ⟨r1, r2, r3, r4, r5⟩ := W0.out.ready cur (by omega)
          have O := Lib.hid r1
          have Y := Lib.hid r2
          have Z := Lib.hid r3
          have B := Lib.hid r4
          have X := Lib.hid r5
          have FL : Hid (flush cur = [cur]) := Lib.hid (by rw [flush, if_neg hcur])
          clear r1 r2 r3 r4 r5 hcur
          go_wp2_with (at_builtin; refine wpList_rs strT rfl (.tmp 42) (.tmp 44) rfl rfl rfl O.out Y.out Z.out B.out ?_)
          intro v9 w9 hO9 hg9 hown9
          obtain ⟨A9, c9, rfl, hW⟩ := W0.out.push (w9 := w9) (by omega) (Nat.le_trans X.out.size hg9.size) X.out hO9 hg9
          have R : Hid (wsa s (i + 1) = ((wsa s (i + 1)).1, []) ∧ WR n w w9 A9 (k + 1) c9 (wsa s (i + 1)).1) := Lib.hid (by rw [NX.out, FL.out]; exact ⟨rfl, hW⟩)
          clear hO9 hg9 hown9 hW W0 O Y Z B X NX FL
          go_wp2
          go_roundw
          case rel => exact ⟨i + 1, A9, k + 1, c9, [], by omega, by simp, rfl, rfl, by go_num, R⟩
          case measure => simp [intOf]
    · have hle' : ¬ (i : Int) ≤ (N : Int) := by omega
      have FIN : Hid (OwnR strR 9 w.heap.size wr (.slice A k c) (wordsL s) ∧ Ext w wr) := Lib.hid (by
        have h1 := ST.out.2
        rw [wsa, if_neg (by rw [HS.out]; omega)] at h1
        rw [HN.out]
        exact ⟨h1.own, h1.ext⟩)
      clear ST
      go_wp2
      go_ret
      exact ⟨_, rfl, FIN.out⟩
end Go.Proofs.YtakebbphielbfaaDoor
