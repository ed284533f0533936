import Derived.Test.YtobnbdoehobigaaDoorInInt
namespace Go.Proofs.YtobnbdoehobigaaDoor
open Go.RowKit
set_option linter.unusedVariables false
set_option linter.unusedSimpArgs false

/-- what reads and has found nothing -/
def InBad (w w' : World) (gi : Nat) (A : Option Addr) : Prop := ∃ A' n' c' l', InAt w' gi A' n' c' l' true ∧ Keep w w' (fun k => k = gi) ∧ A'.map (·.block) = A.map (·.block)
/-- what reads, and what is left -/
def InLeft (w w' : World) (gi : Nat) (A : Option Addr) (l : List Nat) : Prop := ∃ A' n' c', InAt w' gi A' n' c' l false ∧ Keep w w' (fun k => k = gi) ∧ A'.map (·.block) = A.map (·.block)

def TextPost (w w' : World) (gi : Nat) (A : Option Addr) (o : Option (Nat × List Nat)) (e : Ending) : Prop :=
  match o with
  | some (z, rest) => if 0 ≤ unzig z ∧ unzig z ≤ (rest.length : Int) then ∃ v, e = .returned v ∧ Bytes w' v (rest.take (unzig z).toNat) ∧ InLeft w w' gi A (rest.drop (unzig z).toNat)
      else e = .returned (.slice none 0 0) ∧ InBad w w' gi A
  | none => e = .returned (.slice none 0 0) ∧ InBad w w' gi A

theorem Bytes.take {w : World} {A : Option Addr} {N c : Nat} {l : List Nat} (h : Bytes w (.slice A N c) l) (n : Nat) (hn : n ≤ l.length) : Bytes w (.slice A n n) (l.take n) := by
  obtain ⟨A', cap, e, h2, h3, h4, h5, h6⟩ := h
  simp only [Value.slice.injEq] at e
  obtain ⟨rfl, rfl, rfl⟩ := e
  have hl : (l.take n).length = n := by simp; omega
  refine ⟨A, n, by rw [hl], by omega, by omega, fun e => by have := h4 e; omega, fun i => ?_, fun hp => ?_⟩
  · rw [List.getD_eq_getElem?_getD, List.getElem?_take]
    split
    · rw [← List.getD_eq_getElem?_getD]; exact h5 i
    · decide
  · obtain ⟨b, off, rfl, q1, q2⟩ := h6 (by omega)
    refine ⟨b, off, rfl, q1, fun i hi => ?_⟩
    rw [q2 i (by omega), List.getD_eq_getElem?_getD, List.getD_eq_getElem?_getD, List.getElem?_take, if_pos (by omega)]

theorem Bytes.drop {w : World} {b off N c : Nat} {l : List Nat} (h : Bytes w (.slice (some ⟨b, off, none⟩) N c) l) (n : Nat) (hn : n ≤ l.length) :
    Bytes w (.slice (some ⟨b, off + n, none⟩) (N - n) (c - n)) (l.drop n) ∧ (c = n → Bytes w (.slice (some ⟨b, off, none⟩) (N - n) 0) (l.drop n)) := by
  obtain ⟨A, cap, e, h2, h3, h4, h5, h6⟩ := h
  simp only [Value.slice.injEq] at e
  obtain ⟨rfl, rfl, rfl⟩ := e
  have hl : (l.drop n).length = l.length - n := by simp
  have hb : ∀ i, (l.drop n).getD i 0 < 256 := fun i => by
    rw [List.getD_eq_getElem?_getD, List.getElem?_drop, ← List.getD_eq_getElem?_getD]; exact h5 _
  refine ⟨⟨_, _, by rw [hl], by omega, by omega, (fun h => by cases h), hb, fun hp => ?_⟩, fun hc => ⟨_, _, by rw [hl], by omega, by omega, (fun h => by cases h), hb, fun hp => by omega⟩⟩
  obtain ⟨b', off', e, q1, q2⟩ := h6 (by omega)
  simp only [Option.some.injEq, Addr.mk.injEq, and_true] at e
  obtain ⟨rfl, rfl⟩ := e
  refine ⟨b, off + n, rfl, q1, fun i hi => ?_⟩
  have := q2 (n + i) (by omega)
  rw [Nat.add_assoc, this, List.getD_eq_getElem?_getD, List.getD_eq_getElem?_getD, List.getElem?_drop]

set_option maxRecDepth 100000 in
set_option maxHeartbeats 3200000 in
theorem newIn_any (v : Value) (l : List Nat) (w : World) (hb : Bytes w v l) (hl : l.length ≤ 4294967296) :
    Calls Tryd.prog 16 #[v] w fun e w' => ∃ gi A n c, e = .returned (.pointer (some ⟨gi, 0, none⟩)) ∧ w.heap.size ≤ gi ∧ InAt w' gi A n c l false ∧ (∀ a, A = some a → w.heap.size ≤ a.block) ∧ Ext w w' := by
  have C := Lib.hid (clone_any v l w hb hl)
  clear hb
  go_enter Tryd.func16, Tryd.ntmps16
  go_wp2_with fail
  refine C.out.mono ?_
  rintro e w1 ⟨A, n, cap, rfl, hO, hE⟩
  have O := Lib.hid hO
  have E := Lib.hid hE
  clear hO hE
  go_wp2
  go_ret
  have hs := E.out.size
  have hap : ∀ a, A = some a → w.heap.size ≤ a.block ∧ a.block < w1.heap.size := by
    rintro a rfl
    rcases O.out.2.1.2 with ⟨e, _⟩ | ⟨g, c', cur, e, hb, hg, _⟩
    · simp at e
    · simp only [Value.slice.injEq, Option.some.injEq] at e
      rw [e.1]
      exact ⟨hb, (Array.getElem?_eq_some_iff.1 hg).1⟩
  have hx : Ext w (w1.alloc (Obj.cells #[Value.slice A n cap, Value.bool false] 66)) := E.out.alloc _
  refine ⟨w1.heap.size, A, n, cap, rfl, hs, ⟨by simp, by simp [go_sem], by simp [go_sem], by simp [go_sem], by simp [go_sem], O.out.bytes.ext ((Ext.refl w1).alloc _), fun a e => by have := (hap a e).2; omega⟩, fun a e => (hap a e).1, hx⟩

set_option maxRecDepth 100000 in
set_option maxHeartbeats 3200000 in
theorem inDone_any (gi : Nat) (A : Option Addr) (n c : Nat) (l : List Nat) (bad : Bool) (w : World) (h : InAt w gi A n c l bad) :
    Calls Tryd.prog 19 #[.pointer (some ⟨gi, 0, none⟩)] w fun e w' => e = .returned (.bool (!bad && decide (l = []))) ∧ w' = w := by
  have x0 := h.c0
  have x1 := h.c1
  have hg := h.hi
  have hl := h.bytes.len
  clear h
  cases bad with
  | true =>
    clear hl
    go_enter Tryd.func19, Tryd.ntmps19
    go_wp2
    go_ret
    exact ⟨rfl, rfl⟩
  | false =>
    cases l with
    | nil =>
      have hn : n = 0 := hl
      subst hn
      clear hl
      go_enter Tryd.func19, Tryd.ntmps19
      go_wp2
      go_ret
      exact ⟨rfl, rfl⟩
    | cons x t =>
      have hn : ¬ (n : Int) = 0 := by simp at hl; omega
      clear hl
      go_enter Tryd.func19, Tryd.ntmps19
      go_wp2
      go_ret
      exact ⟨by simp; omega, rfl⟩

set_option maxRecDepth 100000 in
set_option maxHeartbeats 3200000 in
theorem inBad_any (gi : Nat) (A : Option Addr) (n c : Nat) (l : List Nat) (bad : Bool) (w : World) (h : InAt w gi A n c l bad) :
    Calls Tryd.prog 20 #[.pointer (some ⟨gi, 0, none⟩)] w fun e w' => e = .returned (.bool bad) ∧ w' = w := by
  have x1 := h.c1
  have hg := h.hi
  clear h
  go_enter Tryd.func20, Tryd.ntmps20
  go_wp2
  go_ret
  exact ⟨rfl, rfl⟩

set_option maxRecDepth 100000 in
set_option maxHeartbeats 3200000 in
/-- bad once, bad on -/
theorem inInt_bad (gi : Nat) (A : Option Addr) (n c : Nat) (l : List Nat) (w : World) (h : InAt w gi A n c l true) :
    Calls Tryd.prog 17 #[.pointer (some ⟨gi, 0, none⟩)] w fun e w' => e = .returned (.int .i64 0) ∧ InBad w w' gi A := by
  have H := Lib.hid h
  have x0 := h.c0
  have x1 := h.c1
  have y0 := h.f0
  have y1 := h.f1
  have hg := h.hi
  clear h
  go_enter Tryd.func17, Tryd.ntmps17
  go_wp2
  refine wp_loop_rounds 1 ?_
  rw [rounds_succ]
  go_wp2
  go_ret
  exact ⟨rfl, A, n, c, l, H.out.setBad, Keep.setCell, rfl⟩

theorem inBad_of (gi : Nat) (A : Option Addr) (w w' : World) (e : Ending) (h : InPost w w' gi A none e) : e = .returned (.int .i64 0) ∧ InBad w w' gi A := h

set_option maxRecDepth 100000 in
set_option maxHeartbeats 3200000 in
theorem inText_bad (gi : Nat) (A : Option Addr) (n c : Nat) (l : List Nat) (w : World) (h : InAt w gi A n c l true) :
    Calls Tryd.prog 18 #[.pointer (some ⟨gi, 0, none⟩)] w fun e w' => e = .returned (.slice none 0 0) ∧ InBad w w' gi A := by
  have C := Lib.hid (inInt_bad gi A n c l w h)
  clear h
  go_enter Tryd.func18, Tryd.ntmps18
  go_wp2_with fail
  refine C.out.mono ?_
  rintro e w' ⟨rfl, A', n', c', l', hI, hK, hA⟩
  have I := Lib.hid hI
  have K := Lib.hid (And.intro hK hA)
  have x1 := hI.c1
  have y1 := hI.f1
  have hg := hI.hi
  clear hI hK hA
  go_wp2
  go_ret
  exact ⟨rfl, A', n', c', l', I.out.setBad, K.out.1.trans Keep.setCell (fun _ _ h => h), K.out.2⟩

set_option maxRecDepth 100000 in
set_option maxHeartbeats 3200000 in
theorem inText_any (gi : Nat) (A : Option Addr) (n c : Nat) (l : List Nat) (w : World) (h : InAt w gi A n c l false) :
    Calls Tryd.prog 18 #[.pointer (some ⟨gi, 0, none⟩)] w fun e w' => TextPost w w' gi A (dec 0 0 l) e := by
  have C := Lib.hid (inInt_any gi A n c l w h)
  clear h
  generalize dec 0 0 l = D at C
  go_enter Tryd.func18, Tryd.ntmps18
  go_wp2_with fail
  refine C.out.mono ?_
  rintro e w' hp
  cases D with
  | none =>
    obtain ⟨rfl, A', n', c', l', hI, hK, hA⟩ := hp
    have I := Lib.hid hI
    have K := Lib.hid (And.intro hK hA)
    have x1 := hI.c1
    have y1 := hI.f1
    have hg := hI.hi
    clear hI hK hA
    go_wp2
    go_ret
    exact ⟨rfl, A', n', c', l', I.out.setBad, K.out.1.trans Keep.setCell (fun _ _ h => h), K.out.2⟩
  | some p =>
    obtain ⟨z, rest⟩ := p
    obtain ⟨rfl, A', n', c', hI, hK, hA⟩ := hp
    have I := Lib.hid hI
    have K := Lib.hid (And.intro hK hA)
    have x0 := hI.c0
    have x1 := hI.c1
    have y0 := hI.f0
    have y1 := hI.f1
    have hg := hI.hi
    have hn := hI.bytes.len
    obtain ⟨v, hv⟩ : ∃ v, unzig z = v := ⟨_, rfl⟩
    rw [hv]
    have HV := Lib.hid hv
    clear hI hK hA hv
    by_cases h0 : v < 0
    · have HF := Lib.hid (show ¬ (0 ≤ v ∧ v ≤ (rest.length : Int)) by omega)
      clear hn
      go_wp2
      go_ret
      unfold TextPost
      simp only
      rw [HV.out, if_neg HF.out]
      exact ⟨rfl, A', n', c', rest, I.out.setBad, K.out.1.trans Keep.setCell (fun _ _ h => h), K.out.2⟩
    · by_cases h1 : v ≤ (n' : Int)
      · obtain ⟨m, rfl⟩ : ∃ m : Nat, v = m := ⟨v.toNat, by omega⟩
        have hm : m ≤ n' := by omega
        have HF := Lib.hid (show 0 ≤ (m : Int) ∧ (m : Int) ≤ (rest.length : Int) by omega)
        have HN := Lib.hid hn
        clear hn
        by_cases hm0 : m = 0
        · subst hm0
          go_wp2
          go_ret
          unfold TextPost
          simp only
          rw [HV.out, if_pos HF.out]
          exact ⟨_, rfl, (I.out.bytes.take 0 (by omega)).keep Keep.setCell (fun a e => I.out.apart a e), A', n', c', I.out.setRest I.out.bytes rfl, K.out.1.trans Keep.setCell (fun _ _ h => h), K.out.2⟩
        · have hn2 := HN.out
          subst hn2
          obtain ⟨X, cap, e, g2, g3, g4, g5, g6⟩ := I.out.bytes
          simp only [Value.slice.injEq] at e
          obtain ⟨rfl, _, rfl⟩ := e
          obtain ⟨b, off, rfl, q1, q2⟩ := g6 (by have := HN.out; omega)
          have HM := Lib.hid hm
          have hmc : m ≤ c' := by have := HN.out; omega
          have hbg : ¬ b = gi := I.out.apart ⟨b, off, none⟩ rfl
          clear g2 g3 g4 g5 g6 q2
          by_cases hc : c' = m
          · subst hc
            go_wp2
            go_ret
            unfold TextPost
            simp only
            rw [HV.out, if_pos HF.out, Int.toNat_natCast]
            exact ⟨_, rfl, (I.out.bytes.take _ (by have := HN.out; have := HM.out; omega)).keep Keep.setCell (fun a e => I.out.apart a e), _, _, _, I.out.setRest ((I.out.bytes.drop _ HM.out).2 rfl) rfl, K.out.1.trans Keep.setCell (fun _ _ h => h), K.out.2⟩
          · go_wp2
            go_ret
            unfold TextPost
            simp only
            rw [HV.out, if_pos HF.out, Int.toNat_natCast]
            exact ⟨_, rfl, (I.out.bytes.take _ (by have := HN.out; have := HM.out; omega)).keep Keep.setCell (fun a e => I.out.apart a e), _, _, _, I.out.setRest ((I.out.bytes.drop m HM.out).1) rfl, K.out.1.trans Keep.setCell (fun _ _ h => h), K.out.2⟩
      · have h1' : (n' : Int) < v := by omega
        have HF := Lib.hid (show ¬ (0 ≤ v ∧ v ≤ (rest.length : Int)) by omega)
        clear hn
        go_wp2
        go_ret
        unfold TextPost
        simp only
        rw [HV.out, if_neg HF.out]
        exact ⟨rfl, A', n', c', rest, I.out.setBad, K.out.1.trans Keep.setCell (fun _ _ h => h), K.out.2⟩

def CountPost (w w' : World) (gi : Nat) (A : Option Addr) (most : Int) (o : Option (Nat × List Nat)) (e : Ending) : Prop :=
  match o with
  | some (z, rest) => if 0 ≤ unzig z ∧ unzig z ≤ most then e = .returned (.int .i64 (unzig z)) ∧ InLeft w w' gi A rest else e = .returned (.int .i64 0) ∧ InBad w w' gi A
  | none => e = .returned (.int .i64 0) ∧ InBad w w' gi A

set_option maxRecDepth 100000 in
set_option maxHeartbeats 3200000 in
theorem inCount_bad (gi : Nat) (A : Option Addr) (n c : Nat) (l : List Nat) (w : World) (most : Int) (h : InAt w gi A n c l true) :
    Calls Tryd.prog 22 #[.pointer (some ⟨gi, 0, none⟩), .int .i64 most] w fun e w' => e = .returned (.int .i64 0) ∧ InBad w w' gi A := by
  have C := Lib.hid (inInt_bad gi A n c l w h)
  clear h
  go_enter Tryd.func22, Tryd.ntmps22
  go_wp2_with fail
  refine C.out.mono ?_
  rintro e w' ⟨rfl, A', n', c', l', hI, hK, hA⟩
  have I := Lib.hid hI
  have K := Lib.hid (And.intro hK hA)
  have x1 := hI.c1
  have y1 := hI.f1
  have hg := hI.hi
  clear hI hK hA
  by_cases hm : most < 0
  · go_wp2
    go_ret
    exact ⟨rfl, A', n', c', l', I.out.setBad, K.out.1.trans Keep.setCell (fun _ _ h => h), K.out.2⟩
  · go_wp2
    go_ret
    exact ⟨rfl, A', n', c', l', I.out, K.out.1, K.out.2⟩

set_option maxRecDepth 100000 in
set_option maxHeartbeats 3200000 in
theorem inCount_any (gi : Nat) (A : Option Addr) (n c : Nat) (l : List Nat) (w : World) (most : Int) (h : InAt w gi A n c l false) :
    Calls Tryd.prog 22 #[.pointer (some ⟨gi, 0, none⟩), .int .i64 most] w fun e w' => CountPost w w' gi A most (dec 0 0 l) e := by
  have C := Lib.hid (inInt_any gi A n c l w h)
  clear h
  generalize dec 0 0 l = D at C
  go_enter Tryd.func22, Tryd.ntmps22
  go_wp2_with fail
  refine C.out.mono ?_
  rintro e w' hp
  cases D with
  | none =>
    obtain ⟨rfl, A', n', c', l', hI, hK, hA⟩ := hp
    have I := Lib.hid hI
    have K := Lib.hid (And.intro hK hA)
    have x1 := hI.c1
    have y1 := hI.f1
    have hg := hI.hi
    clear hI hK hA
    by_cases hm : most < 0
    · go_wp2
      go_ret
      exact ⟨rfl, A', n', c', l', I.out.setBad, K.out.1.trans Keep.setCell (fun _ _ h => h), K.out.2⟩
    · go_wp2
      go_ret
      exact ⟨rfl, A', n', c', l', I.out, K.out.1, K.out.2⟩
  | some p =>
    obtain ⟨z, rest⟩ := p
    obtain ⟨rfl, A', n', c', hI, hK, hA⟩ := hp
    have I := Lib.hid hI
    have K := Lib.hid (And.intro hK hA)
    have x1 := hI.c1
    have y1 := hI.f1
    have hg := hI.hi
    obtain ⟨v, hv⟩ : ∃ v, unzig z = v := ⟨_, rfl⟩
    rw [hv]
    have HV := Lib.hid hv
    clear hI hK hA hv
    by_cases h0 : v < 0
    · have HF := Lib.hid (show ¬ (0 ≤ v ∧ v ≤ most) by omega)
      go_wp2
      go_ret
      unfold CountPost
      simp only
      rw [HV.out, if_neg HF.out]
      exact ⟨rfl, A', n', c', rest, I.out.setBad, K.out.1.trans Keep.setCell (fun _ _ h => h), K.out.2⟩
    · by_cases h1 : most < v
      · have HF := Lib.hid (show ¬ (0 ≤ v ∧ v ≤ most) by omega)
        go_wp2
        go_ret
        unfold CountPost
        simp only
        rw [HV.out, if_neg HF.out]
        exact ⟨rfl, A', n', c', rest, I.out.setBad, K.out.1.trans Keep.setCell (fun _ _ h => h), K.out.2⟩
      · have HF := Lib.hid (show (0 ≤ v ∧ v ≤ most) by omega)
        go_wp2
        go_ret
        unfold CountPost
        simp only
        rw [HV.out, if_pos HF.out]
        exact ⟨rfl, A', n', c', I.out, K.out.1, K.out.2⟩

end Go.Proofs.YtobnbdoehobigaaDoor
