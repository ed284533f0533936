import Derived.Test.YtbpdjekibcbaaaaSNow
namespace Go.Proofs.Ytbpdjekibcbaaaa
open Go.RowKit
set_option linter.unusedVariables false
set_option linter.unusedSimpArgs false

def DS.bump (S : DS) (i : Nat) : DS := { S with reads := S.reads.set i (S.reads.getD i 0 + 1) }

theorem nowOf_mem (i : Nat) : ∀ (r : List (Nat × Sec)) (d : Sec), nowOf d i r = d ∨ ∃ x ∈ r, nowOf d i r = x.2 := by
  intro r
  induction r with
  | nil => intro d; exact .inl rfl
  | cons z r ih =>
    intro d
    obtain ⟨j, x⟩ := z
    unfold nowOf
    by_cases h : j = i
    · rw [if_pos h]
      rcases ih x with e | ⟨y, hy, e⟩
      · exact .inr ⟨(j, x), by simp, e⟩
      · exact .inr ⟨y, by simp [hy], e⟩
    · rw [if_neg h]
      rcases ih d with e | ⟨y, hy, e⟩
      · exact .inl e
      · exact .inr ⟨y, by simp [hy], e⟩

section
variable {base : Nat} {w w' : World} {D : Nat} {SA : Option Addr} {sc : Nat} {WA : Option Addr} {wc : Nat} {RA : Option Addr} {rc : Nat} {S : DS}

theorem DiskAt.nowOk (h : DiskAt base w D SA sc WA wc RA rc S) {i : Nat} (hi : i < S.safe.length) : SecOk base w (S.now i) := by
  have e : S.safe.getD i (none, 0, []) = S.safe[i] := by simp [List.getD_eq_getElem?_getD, List.getElem?_eq_getElem hi]
  unfold DS.now
  rcases nowOf_mem i S.wait (S.safe.getD i (none, 0, [])) with e' | ⟨y, hy, e'⟩
  · rw [e', e]; exact h.oks _ (List.getElem_mem hi)
  · rw [e']; exact h.okw _ hy

/-- a read is counted -/
theorem bump_mem {i n : Nat} (h : DiskAt base w D SA sc WA wc RA rc S) (hi : i < S.reads.length) :
    ∃ g, RA = some ⟨g, 0, none⟩ ∧ w.cell? ⟨g, i, none⟩ = some (natV (S.reads.getD i 0)) ∧ w.frozen? ⟨g, i, none⟩ = false ∧ g < w.heap.size ∧ DiskAt base (w.setCell ⟨g, i, none⟩ (natV n)) D SA sc WA wc RA rc { S with reads := S.reads.set i n } ∧ Keep w (w.setCell ⟨g, i, none⟩ (natV n)) (Tch base w) := by
  obtain ⟨g, rfl⟩ := own_some h.rds (by omega)
  have K : Keep w (w.setCell ⟨g, i, none⟩ (natV n)) (fun k => k = g) := Keep.setCell
  have own : Value.ownBlock (.slice (some ⟨g, 0, none⟩) S.reads.length rc) = some g := rfl
  obtain ⟨cur, hcur⟩ := row_type h.rds own
  have ne : ∀ {e size : Nat} {v : Value} {n : Nat} {xs : List Value}, w.ownsRow base e size v n xs → e ≠ 3 → ∀ k, v.ownBlock = some k → ¬ k = g := fun hr hne k hk e => by
    subst e
    obtain ⟨c, hc⟩ := row_type hr hk
    exact hne (type_ne hc hcur)
  have hDg : ¬ D = g := fun e => by subst e; exact absurd (type_ne h.blk hcur) (by decide)
  refine ⟨g, rfl, ?_, h.rds.frozenAt i, (h.rds.lt g own).2, ⟨?_, h.lo, row_keep h.rows K (ne h.rows (by decide)), row_keep h.waits K (ne h.waits (by decide)), ?_, fun y hy => Own.keep (h.oks y hy) K (ne (h.oks y hy).2.1 (by decide)), fun y hy => Own.keep (h.okw y hy) K (ne (h.okw y hy).2.1 (by decide))⟩, K.mono fun k e => by subst e; exact ⟨(h.rds.lt k own).1, _, _, _, hcur, .inr (.inr (.inr rfl))⟩⟩
  · rw [h.rds.cellAt i (by omega), List.getElem?_map, List.getElem?_eq_getElem hi]; simp [List.getD_eq_getElem?_getD, List.getElem?_eq_getElem hi]
  · rw [K.block D h.lt hDg, h.blk]
    simp [fields]
  · have := (h.rds.stored i (natV n)).1
    rw [← List.map_set] at this
    simpa using this
end

set_option maxRecDepth 100000 in
set_option maxHeartbeats 6400000 in
theorem read_ok {base : Nat} {D : Nat} {SA : Option Addr} {sc : Nat} {WA : Option Addr} {wc : Nat} {RA : Option Addr} {rc : Nat} {S : DS} (i : Nat) (w : World) (h : DiskAt base w D SA sc WA wc RA rc S)
    (hc : S.checkI (i : Int) = 0) (hi : i < S.safe.length) (hr : S.reads.length = S.safe.length) (hs : S.safe.length ≤ 10000) (hw : S.wait.length ≤ 1000) (hrd : S.reads.getD i 0 ≤ 1000000) (hbl : (S.now i).2.2.length ≤ 1000) :
    Calls Try.prog 35 #[.pointer (some ⟨D, 0, none⟩), .int .i64 (i : Int)] w fun e w' => ∃ A cap, e = .returned (.tuple #[.slice A (S.now i).2.2.length cap, .int .i64 0]) ∧ Own w.heap.size w' A (S.now i).2.2.length cap (S.now i).2.2 ∧ DiskAt base w' D SA sc WA wc RA rc (S.bump i) ∧ Keep w w' (Tch base w) := by
  have H := Lib.hid h
  have CK := Lib.hid (check_any (i : Int) w h)
  rw [hc] at CK
  obtain ⟨g, rfl, b0, b1, b2, b3, b4⟩ := bump_mem (i := i) (n := S.reads.getD i 0 + 1) h (by omega)
  have B := Lib.hid (And.intro b3 b4)
  have c3 := h.cell 3
  simp only [fields, List.getElem?_toArray, List.getElem?_cons_zero, List.getElem?_cons_succ] at c3
  obtain ⟨R, hR⟩ : ∃ R, S.reads.length = R := ⟨_, rfl⟩
  rw [hR] at c3
  have hiR : (i : Int) < (R : Int) := by omega
  obtain ⟨m, hm⟩ : ∃ m, S.reads.getD i 0 = m := ⟨_, rfl⟩
  rw [hm] at b0 hrd
  have HM := Lib.hid hm
  have HI := Lib.hid (And.intro hi (And.intro hs (And.intro hw hbl)))
  have hDl := h.lt
  unfold natV at b0 B
  rw [hm, Int.natCast_add, Int.natCast_one] at B
  clear h b3 b4 hr hc hm hi hs hw hbl
  go_enter Try.func35, Try.ntmps35
  go_wp2_with fail
  refine CK.out.mono ?_
  rintro e w1 ⟨rfl, rfl⟩
  go_wp2_with fail
  obtain ⟨wn, hwn⟩ : ∃ wn, w1.setCell ⟨g, i, none⟩ (.int .i64 ((m : Int) + 1)) = wn := ⟨_, rfl⟩
  rw [hwn] at B ⊢
  have hsz : wn.heap.size = w1.heap.size := by rw [← hwn]; simp [World.setCell]
  have HSZ := Lib.hid hsz
  have hB : Hid (DiskAt base wn D SA sc WA wc (some ⟨g, 0, none⟩) rc (S.bump i) ∧ Keep w1 wn (Tch base w1)) := Lib.hid ⟨by unfold DS.bump; rw [HM.out]; exact B.out.1, B.out.2⟩
  have OK := Lib.hid (hB.out.1.nowOk (i := i) HI.out.1)
  rw [show (S.bump i).now i = S.now i from rfl] at OK
  clear hwn hsz b0 b1 b2 c3 B CK
  refine (now_any i wn hB.out.1 HI.out.1 HI.out.2.1 HI.out.2.2.1).mono ?_
  rw [show (S.bump i).now i = S.now i from rfl]
  rintro e w2 ⟨rfl, hE2⟩
  have E2 := Lib.hid hE2
  clear hE2
  unfold secV
  go_wp2_with fail
  refine (clone_sec _ (S.now i).2.2 w2 ((OK.out.ext E2.out).bytes) (by have := HI.out.2.2.2; omega)).mono ?_
  rintro e w3 ⟨A, cap, rfl, hO, hE3⟩
  have O3 := Lib.hid hO
  have E3 := Lib.hid hE3
  clear hO hE3
  go_wp2
  exact bodyPost_ret (v := .tuple #[.slice A (S.now i).2.2.length cap, .int .i64 0]) (by simp [results, Try.results35, go_sem]) rfl ⟨A, cap, rfl, Own.mono O3.out (by have := E2.out.size; rw [HSZ.out] at this; exact this), hB.out.1.ext (E2.out.trans E3.out), hB.out.2.tch (Keep.ofExt (E2.out.trans E3.out) _)⟩

end Go.Proofs.Ytbpdjekibcbaaaa
