import Derived.Test.YtbpdjekibcbaaaaSOpn
namespace Go.Proofs.Ytbpdjekibcbaaaa
open Go.RowKit
set_option linter.unusedVariables false
set_option linter.unusedSimpArgs false

theorem foldl_beR (n : Nat) : ∀ k a, (beR n k).foldl (fun n c => n * 256 + c) a = a * 256 ^ k + n % 256 ^ k := by
  intro k
  induction k with
  | zero => intro a; simp [beR, Nat.mod_one]
  | succ k ih =>
    intro a
    simp only [beR, List.foldl_cons]
    rw [ih, Nat.pow_succ, Nat.mod_mul]
    have e : (a * 256 + n / 256 ^ k % 256) * 256 ^ k = a * (256 ^ k * 256) + 256 ^ k * (n / 256 ^ k % 256) := by
      rw [Nat.add_mul, Nat.mul_assoc, Nat.mul_comm 256, Nat.mul_comm (n / 256 ^ k % 256)]
    rw [e]
    omega
theorem beV_beR (n k : Nat) (h : n < 256 ^ k) : beV (beR n k) = n := by
  unfold beV
  rw [foldl_beR, Nat.mod_eq_of_lt h]
  simp

theorem hdr_parts (gen half snap log size : Nat) (h1 : gen < 18446744073709551616) (h2 : snap < 4294967296) (h3 : log < 4294967296) :
    fGen (hdrL gen half snap log size) = gen ∧ fHalf (hdrL gen half snap log size) = half ∧ fSnap (hdrL gen half snap log size) = snap ∧ fLog (hdrL gen half snap log size) = log := by
  have e8 : (beR gen 8).length = 8 := beR_len _ _
  have e4 : (beR snap 4).length = 4 := beR_len _ _
  have f4 : (beR log 4).length = 4 := beR_len _ _
  refine ⟨?_, ?_, ?_, ?_⟩
  · unfold fGen hdrL
    rw [List.take_left' e8]
    exact beV_beR _ _ h1
  · unfold fHalf hdrL
    rw [List.getD_eq_getElem?_getD, List.getElem?_append_right (by omega), e8]
    rfl
  · unfold fSnap hdrL
    rw [show (9 : Nat) = 8 + 1 by rfl, ← List.drop_drop, List.drop_left' e8, List.drop_one, List.tail_cons, List.take_left' e4]
    exact beV_beR _ _ h2
  · unfold fLog hdrL
    rw [show (13 : Nat) = 8 + (1 + 4) by rfl, ← List.drop_drop, List.drop_left' e8, ← List.drop_drop, List.drop_one, List.tail_cons, List.drop_left' e4, List.take_left' f4]
    exact beV_beR _ _ h3
theorem hdr_ok (gen half snap log size : Nat) (cap : Int) (h0 : 32 ≤ size) (h1 : 1 ≤ gen ∧ gen ≤ 9223372036854775807) (hh : half ≤ 1) (h2 : snap ≤ 2147483648) (h3 : log ≤ 2147483648) (h4 : (snap : Int) + (log : Int) ≤ cap) : HdrOk (hdrL gen half snap log size) cap := by
  obtain ⟨e1, e2, e3, e4⟩ := hdr_parts gen half snap log size (by omega) (by omega) (by omega)
  unfold HdrOk
  rw [e1, e2, e3, e4, hdr_len _ _ _ _ _ h0]
  exact ⟨h0, h1.1, h1.2, hh, h2, h3, by omega, by omega, rfl⟩
theorem zeros_bad (n : Nat) (cap : Int) : ¬ HdrOk (List.replicate n 0) cap := by
  intro h
  have h1 := h.2.1
  have : ∀ k, beV (List.replicate k 0) = 0 := by
    intro k
    unfold beV
    induction k with
    | zero => rfl
    | succ k ih => simpa [List.replicate_succ] using ih
  unfold fGen at h1
  rw [List.take_replicate, this] at h1
  omega

theorem now_wait (m : DM) (h : m.W = []) (i : Nat) : m.now i = m.B.getD i [] := by
  unfold DM.now; rw [h]; rfl
theorem stepH_no {m : DM} {c : Hd} {i : Nat} (h : ¬ HdrOk (m.now i) (m.cap : Int)) : stepH m c i = c := by
  unfold stepH; rw [if_neg (fun h2 => h h2.1)]
theorem stepH_yes {m : DM} {c : Hd} {i : Nat} {l : List Nat} (e : m.now i = l) (h : HdrOk l (m.cap : Int)) (h2 : c.gen < fGen l) : stepH m c i = ⟨fGen l, fHalf l, fSnap l, fLog l⟩ := by
  subst e; unfold stepH; rw [if_pos ⟨h, h2⟩]
theorem foldH_new (n size : Nat) (hn : 4 ≤ n) : foldH (DM.new n size) 2 = ⟨0, 0, 0, 0⟩ := by
  have e : ∀ i, i < n → (DM.new n size).now i = List.replicate size 0 := by
    intro i hi
    rw [now_wait _ rfl]
    simp only [DM.new]
    rw [List.getD_eq_getElem?_getD, List.getElem?_replicate, if_pos hi]; rfl
  simp only [foldH]
  rw [stepH_no (i := 0) (by rw [e 0 (by omega)]; exact zeros_bad _ _), stepH_no (i := 1) (by rw [e 1 (by omega)]; exact zeros_bad _ _)]
theorem fmt_eq (m : DM) (hs : 0 < m.sz) (hb : 4 ≤ m.B.length) : m.fmt.W = [] ∧ m.fmt.cap = m.cap ∧ m.fmt.hs = m.hs ∧ m.fmt.sz = m.sz ∧ m.fmt.B = (m.B.set 0 (List.replicate m.sz 0)).set 1 (hdrL 1 0 0 0 m.sz) := by
  have h0 : cnt 0 m.sz 0 = 0 := by unfold cnt; rw [Nat.div_eq_of_lt (by omega)]
  unfold DM.fmt DM.saved
  rw [h0]
  refine ⟨rfl, ?_, ?_, rfl, rfl⟩
  · unfold DM.cap DM.hs; simp only [List.length_set, layB_len]
  · unfold DM.hs; simp only [List.length_set, layB_len]
theorem foldH_fmt (m : DM) (hs : 32 ≤ m.sz) (hb : 4 ≤ m.B.length) : foldH m.fmt 2 = ⟨1, 0, 0, 0⟩ := by
  obtain ⟨e1, e2, e3, e4, e5⟩ := fmt_eq m (by omega) hb
  have n0 : m.fmt.now 0 = List.replicate m.sz 0 := by
    rw [now_wait _ e1, e5, List.getD_eq_getElem?_getD, List.getElem?_set_ne (by omega), List.getElem?_set_self (by omega)]; rfl
  have n1 : m.fmt.now 1 = hdrL 1 0 0 0 m.sz := by
    rw [now_wait _ e1, e5, List.getD_eq_getElem?_getD, List.getElem?_set_self (by simp; omega)]; rfl
  simp only [foldH]
  obtain ⟨p1, p2, p3, p4⟩ := hdr_parts 1 0 0 0 m.sz (by omega) (by omega) (by omega)
  rw [stepH_no (i := 0) (by rw [n0]; exact zeros_bad _ _), stepH_yes n1 (hdr_ok 1 0 0 0 m.sz _ hs (by omega) (by omega) (by omega) (by omega) (by omega)) (by rw [p1]; decide), p1, p2, p3, p4]

def madeM (n size : Nat) : DM := bumps (DM.new n size).fmt 2
theorem rest_new (n size : Nat) (hn : 4 ≤ n ∧ n ≤ 60) (hs : 32 ≤ size ∧ size ≤ 512) : Rest (DM.new n size) 0 :=
  ⟨DM.Ok.new n size (by omega) (by omega), rfl, rfl, rfl, hs.1, by simp only [DM.new, List.length_replicate]; exact hn⟩

theorem Keep.fresh {w0 w : World} (h : Keep w0 w (TchS w0.heap.size w0)) : Ext w0 w := Keep.toExt (Ext.refl w0) h (fun k hk => by
  rcases hk with h | h
  · exact h.1
  · exact h.1)
theorem Keep.more {w0 w w' : World} (h0 : Ext w0 w) (h : Keep w w' (TchS w0.heap.size w)) : Ext w0 w' := Keep.toExt h0 h (fun k hk => by
  rcases hk with h | h
  · exact h.1
  · exact h.1)

set_option maxRecDepth 100000 in
set_option maxHeartbeats 6400000 in
theorem made_any (n size : Nat) (w : World) (hn : 4 ≤ n ∧ n ≤ 60) (hs : 32 ≤ size ∧ size ≤ 512) :
    Calls Try.prog 15 #[.int .i64 (n : Int), .int .i64 (size : Int)] w fun e w' => ∃ s D, e = .returned (.tuple #[.pointer (some ⟨s, 0, none⟩), .pointer (some ⟨D, 0, none⟩)]) ∧ StOk w.heap.size w' s D (madeM n size) ⟨1, 0, 0, 0⟩ [] 210 ∧ Ext w w' := by
  have R0 := Lib.hid (rest_new n size hn hs)
  have NW := Lib.hid (new_d n size w (by omega) (by omega))
  have FH : Hid (foldH (DM.new n size).fmt 2 = ⟨1, 0, 0, 0⟩) := Lib.hid (foldH_fmt _ hs.1 (by simp only [DM.new, List.length_replicate]; exact hn.1))
  clear hn hs
  go_enter Try.func15, Try.ntmps15
  go_wp2_with fail
  refine NW.out.mono ?_
  rintro e w1 ⟨D, rfl, hD, hE⟩
  have D1 := Lib.hid hD
  have E1 := Lib.hid hE
  clear hD hE NW
  go_wp2_with fail
  refine (format_yes D1.out R0.out (by omega) E1.out.size).mono ?_
  rintro e w2 ⟨rfl, hD, hR, hK⟩
  have D2 := Lib.hid hD
  have R2 := Lib.hid hR
  have E2 := Lib.hid (Keep.more E1.out hK)
  clear hD hR hK D1 E1
  have OP := open_all D2.out R2.out (by omega) E2.out.size (by rw [FH.out]; simp)
  rw [FH.out] at OP
  have OPH := Lib.hid OP
  clear OP
  go_wp2_with fail
  refine OPH.out.mono ?_
  rintro e w3 ⟨x, rfl, hK, -, h2⟩
  obtain ⟨s, m', A, k, cap, rfl, hsl, hD, hR, rfl, hS⟩ := h2 (by simp)
  have E3 := Lib.hid (Keep.more E2.out hK)
  have P : Hid (StOk w.heap.size w3 s D (madeM n size) ⟨1, 0, 0, 0⟩ [] 210) := Lib.hid ⟨hD, ⟨A, k, cap, hS⟩, hR.mono (by omega), rfl, by simp, by simp, by simp, E3.out.size⟩
  clear hK hD hR hS h2 hsl D2 R2 E2 OPH
  rw [if_neg (by simp)]
  go_wp2
  go_ret2
  exact ⟨s, D, rfl, P.out, E3.out⟩

end Go.Proofs.Ytbpdjekibcbaaaa
