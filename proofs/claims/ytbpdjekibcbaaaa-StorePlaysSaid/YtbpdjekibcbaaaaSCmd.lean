import Derived.Test.YtbpdjekibcbaaaaSDisk
namespace Go.Proofs.Ytbpdjekibcbaaaa
open Go.RowKit
set_option linter.unusedVariables false
set_option linter.unusedSimpArgs false

def DS.checkI (S : DS) (i : Int) : Int := if S.down then 40 else if i < 0 ∨ (S.safe.length : Int) ≤ i then 30 else 0
def DS.cmd (S : DS) : DS × Int := if S.left = 0 then ({ S with down := true }, 40) else if 0 < S.left then ({ S with left := S.left - 1, done := S.done + 1 }, 0) else ({ S with done := S.done + 1 }, 0)

set_option maxRecDepth 100000 in
set_option maxHeartbeats 3200000 in
theorem check_any {base : Nat} {D : Nat} {SA : Option Addr} {sc : Nat} {WA : Option Addr} {wc : Nat} {RA : Option Addr} {rc : Nat} {S : DS} (i : Int) (w : World) (h : DiskAt base w D SA sc WA wc RA rc S) :
    Calls Try.prog 42 #[.pointer (some ⟨D, 0, none⟩), .int .i64 i] w fun e w' => e = .returned (.int .i64 (S.checkI i)) ∧ w' = w := by
  have c0 := h.cell 0
  have c6 := h.cell 6
  obtain ⟨safe, size, wait, reads, left, done, down⟩ := S
  simp only [fields, List.getElem?_toArray, List.getElem?_cons_zero, List.getElem?_cons_succ] at c0 c6
  obtain ⟨n, hn⟩ : ∃ n, safe.length = n := ⟨_, rfl⟩
  rw [hn] at c0
  unfold DS.checkI
  simp only [hn]
  clear hn h
  cases down with
  | true =>
    go_enter Try.func42, Try.ntmps42
    go_wp2
    go_ret
    exact ⟨rfl, rfl⟩
  | false =>
    by_cases h1 : i < 0
    · rw [if_neg (by simp), if_pos (.inl h1)]
      go_enter Try.func42, Try.ntmps42
      go_wp2
      go_ret
      exact ⟨rfl, rfl⟩
    · by_cases h2 : (n : Int) ≤ i
      · rw [if_neg (by simp), if_pos (.inr h2)]
        go_enter Try.func42, Try.ntmps42
        go_wp2
        go_ret
        exact ⟨rfl, rfl⟩
      · rw [if_neg (by simp), if_neg (by omega)]
        have h3 : decide ((n : Int) ≤ i) = false := by simp; omega
        go_enter Try.func42, Try.ntmps42
        go_wp2
        go_ret
        exact ⟨rfl, rfl⟩

set_option maxRecDepth 100000 in
set_option maxHeartbeats 3200000 in
theorem command_any {base : Nat} {D : Nat} {SA : Option Addr} {sc : Nat} {WA : Option Addr} {wc : Nat} {RA : Option Addr} {rc : Nat} {S : DS} (w : World) (h : DiskAt base w D SA sc WA wc RA rc S) (hl : -9223372036854775808 ≤ S.left ∧ S.left ≤ 9223372036854775807) (hd : S.done ≤ 1000000) :
    Calls Try.prog 43 #[.pointer (some ⟨D, 0, none⟩)] w fun e w' => e = .returned (.int .i64 S.cmd.2) ∧ DiskAt base w' D SA sc WA wc RA rc S.cmd.1 ∧ Keep w w' (Tch base w) := by
  have H := Lib.hid h
  have c4 := h.cell 4
  have c5 := h.cell 5
  have c6 := h.cell 6
  have cf := fun j => h.frozen j
  obtain ⟨safe, size, wait, reads, left, done, down⟩ := S
  simp only [fields, List.getElem?_toArray, List.getElem?_cons_zero, List.getElem?_cons_succ] at c4 c5 c6
  simp only at hl hd
  unfold DS.cmd
  simp only
  by_cases h0 : left = 0
  · subst h0
    simp only [if_pos]
    go_enter Try.func43, Try.ntmps43
    go_wp2
    go_ret
    exact ⟨rfl, h.put 6 (.bool true) _ _ _ _ _ _ _ rfl h.rows h.waits h.rds h.oks h.okw⟩
  · rw [if_neg h0]
    have hb0 : (left == 0) = false := by simpa using h0
    by_cases h1 : 0 < left
    · rw [if_pos h1]
      obtain ⟨HA, KA⟩ := h.put 4 (.int .i64 (left - 1)) { safe := safe, size := size, wait := wait, reads := reads, left := left - 1, done := done, down := down } SA sc WA wc RA rc rfl h.rows h.waits h.rds h.oks h.okw
      obtain ⟨HB, KB⟩ := HA.put 5 (.int .i64 ((done + 1 : Nat) : Int)) { safe := safe, size := size, wait := wait, reads := reads, left := left - 1, done := done + 1, down := down } SA sc WA wc RA rc rfl HA.rows HA.waits HA.rds HA.oks HA.okw
      have HX := Lib.hid (And.intro HB (KA.trans KB (fun k hk ht => by
        obtain ⟨h1, c, t, f, h2, h3⟩ := ht
        by_cases e : k = D
        · subst e; exact H.out.tchD
        · have hw : (w.setCell ⟨D, 4, none⟩ (.int .i64 (left - 1))).heap[k]? = w.heap[k]? := setCell_heap (by exact e)
          exact ⟨h1, c, t, f, by rw [← hw]; exact h2, h3⟩)))
      rw [show (((done + 1 : Nat)) : Int) = (done : Int) + 1 by omega] at HX
      clear HA HB KA KB h
      go_enter Try.func43, Try.ntmps43
      go_wp2
      go_ret
      exact ⟨rfl, HX.out.1, HX.out.2⟩
    · rw [if_neg h1]
      obtain ⟨HB, KB⟩ := h.put 5 (.int .i64 ((done + 1 : Nat) : Int)) { safe := safe, size := size, wait := wait, reads := reads, left := left, done := done + 1, down := down } SA sc WA wc RA rc rfl h.rows h.waits h.rds h.oks h.okw
      have HX := Lib.hid (And.intro HB KB)
      rw [show (((done + 1 : Nat)) : Int) = (done : Int) + 1 by omega] at HX
      clear HB KB h
      go_enter Try.func43, Try.ntmps43
      go_wp2
      go_ret
      exact ⟨rfl, HX.out.1, HX.out.2⟩

end Go.Proofs.Ytbpdjekibcbaaaa
