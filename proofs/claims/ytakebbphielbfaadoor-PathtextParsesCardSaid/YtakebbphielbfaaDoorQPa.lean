import Derived.Test.YtakebbphielbfaaDoorQAw
namespace Go.Proofs.YtakebbphielbfaaDoor
open Go.RowKit
set_option linter.unusedVariables false
set_option linter.unusedSimpArgs false
set_option maxRecDepth 100000
set_option maxHeartbeats 6400000

/-- what Parse answers -/
def parseS (s : List UInt8) : Int × List Sg := if (readS s).1 ≠ 0 then (20, []) else if showT (readS s).2.2 = s then (0, (readS s).2.2) else (20, [])

theorem readS_ok {s : List UInt8} (h : (readS s).1 = 0) : checkL false (readS s).2.2 = 0 ∧ (readS s).2.2.length ≤ s.length := by
  have hz : (readT (wordsL s)).1 = 0 := h
  have h2 := (readT_ok (wordsL s)).2 hz
  have e : (readS s).2.2 = (readT (wordsL s)).2.p := by unfold readS; dsimp only; rw [if_pos hz]
  rw [e]
  have := h2.few
  have := h2.le
  have := wordsL_len s
  exact ⟨h2.ok, by omega⟩

theorem bytes_eq (a b : List UInt8) : ((ba a).toList == (ba b).toList) = decide (a = b) := by
  rw [ba_list, ba_list]
  by_cases h : a = b
  · subst h; simp
  · simp [h]

theorem parseP_any (s : List UInt8) (w : World) (hs : s.length ≤ 2000) (hI : IV w) :
    Calls Tryd.prog 15 #[.string (ba s)] w fun e w' => ∃ v, e = .returned (.tuple #[v, .int .i64 (parseS s).1]) ∧ OwnR sgR 42 w.heap.size w' v (parseS s).2 ∧ Ext w w' := by
  have RD := Lib.hid (read_any s w hs hI)
  have HI := Lib.hid hI
  have RO := Lib.hid (@readS_ok s)
  obtain ⟨⟨er, at_, p⟩, hr⟩ : ∃ z, readS s = z := ⟨_, rfl⟩
  have PS : Hid (parseS s = if er ≠ 0 then (20, []) else if showT p = s then (0, p) else (20, [])) := Lib.hid (by unfold parseS; rw [hr])
  rw [hr] at RD RO
  dsimp only at RD RO
  clear hI hr
  go_enter Tryd.func15, Tryd.ntmps15
  go_wp2_with fail
  refine RD.out.mono ?_
  rintro e w1 ⟨v, rfl, hO, hE⟩
  by_cases he : er = 0
  · subst he
    rw [if_neg (by simp)] at PS
    obtain ⟨A, c, rfl⟩ := hO.slice
    have SH := Lib.hid (show_any A p.length c p w1 hO.sl (HI.out.ext hE) (by have := (RO.out rfl).2; omega))
    rw [(RO.out rfl).1] at SH
    have O1 := Lib.hid hO
    have E1 := Lib.hid hE
    clear hE hO RD
    obtain ⟨t, ht⟩ : ∃ t, showT p = t := ⟨_, rfl⟩
    rw [ht] at SH PS
    have BE := bytes_eq t s
    go_wp2_with fail
    refine SH.out.mono ?_
    rintro e w2 ⟨rfl, hE⟩
    have E2 := Lib.hid (E1.out.trans hE)
    have O2 := Lib.hid (O1.out.ext hE)
    clear hE SH O1
    by_cases hts : t = s
    · rw [decide_eq_true hts] at BE
      rw [if_pos hts] at PS
      clear hts ht
      go_wp2
      go_ret2
      exact ⟨_, by rw [PS.out] <;> rfl, by rw [PS.out]; exact O2.out, E2.out⟩
    · rw [decide_eq_false hts] at BE
      rw [if_neg hts] at PS
      clear ht
      go_wp2
      go_ret2
      exact ⟨_, by rw [PS.out] <;> rfl, by rw [PS.out]; exact OwnR.nil _ _ _ _, E2.out⟩
  · have hne : (er == 0) = false := by simpa using he
    rw [if_pos he] at PS
    have E1 := Lib.hid hE
    clear hE hO RD
    go_wp2
    go_ret2
    exact ⟨_, by rw [PS.out] <;> rfl, by rw [PS.out]; exact OwnR.nil _ _ _ _, E1.out⟩

theorem refNeed_any (k : Int) (w : World) : Calls Tryd.prog 11 #[.int .i64 k] w fun e w' => e = .returned (.int .i64 (needL k : Int)) ∧ Ext w w' := by
  by_cases h1 : k = 1
  · subst h1
    go_enter Tryd.func11, Tryd.ntmps11
    go_wp2
    go_ret
    exact ⟨by rfl, Ext.refl _⟩
  by_cases h2 : k = 2
  · subst h2
    go_enter Tryd.func11, Tryd.ntmps11
    go_wp2
    go_ret
    exact ⟨by rfl, Ext.refl _⟩
  by_cases h3 : k = 3
  · subst h3
    go_enter Tryd.func11, Tryd.ntmps11
    go_wp2
    go_ret
    exact ⟨by rfl, Ext.refl _⟩
  by_cases h4 : k = 4
  · subst h4
    go_enter Tryd.func11, Tryd.ntmps11
    go_wp2
    go_ret
    exact ⟨by rfl, Ext.refl _⟩
  have e1 : (k == 1) = false := by simpa using h1
  have e2 : (k == 2) = false := by simpa using h2
  have e3 : (k == 3) = false := by simpa using h3
  have e4 : (k == 4) = false := by simpa using h4
  have NL : Hid (needL k = 0) := Lib.hid (by unfold needL; rw [if_neg (by omega), if_neg h3, if_neg h4])
  go_enter Tryd.func11, Tryd.ntmps11
  go_wp2
  go_ret
  exact ⟨by rw [NL.out] <;> rfl, Ext.refl _⟩
end Go.Proofs.YtakebbphielbfaaDoor
