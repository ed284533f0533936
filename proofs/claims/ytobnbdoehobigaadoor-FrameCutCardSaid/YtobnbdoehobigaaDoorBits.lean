import Derived.Test.YtobnbdoehobigaaDoorDec
set_option linter.unusedVariables false
set_option linter.unusedSimpArgs false
namespace Go.Proofs.YtobnbdoehobigaaDoor
open Go

theorem andNot_128 (y : Nat) (h : y < 256) : Go.bits .andNot .u8 (y : Int) 128 = ((y % 128 : Nat) : Int) := by
  have h' : ∀ m : Nat, m < 256 → Go.bits .andNot .u8 (m : Int) 128 = ((m % 128 : Nat) : Int) := by decide +kernel
  exact h' y h

theorem or_u64 (a b : Nat) (ha : a < 18446744073709551616) (hb : b < 18446744073709551616) : Go.bits .or .u64 (a : Int) (b : Int) = ((a ||| b : Nat) : Int) :=
  bits_or_u64_nat a b ha hb

theorem or_shift (a p k : Nat) (ha : a < 2 ^ k) (h2 : a < 18446744073709551616) (hp : p * 2 ^ k < 18446744073709551616) : Go.bits .or .u64 (a : Int) ((p * 2 ^ k : Nat) : Int) = ((a + p * 2 ^ k : Nat) : Int) := by
  rw [or_u64 _ _ h2 hp]
  have := Nat.two_pow_add_eq_or_of_lt ha p
  rw [Nat.or_comm, Nat.mul_comm p, ← this, Nat.add_comm]

/-- what is behind the first byte: where the capacity ends the address stays -/
theorem Bytes.tail {w : World} {b off c : Nat} {x : Nat} {t : List Nat} (h : Bytes w (.slice (some ⟨b, off, none⟩) (t.length + 1) c) (x :: t)) :
    Bytes w (.slice (some ⟨b, off + 1, none⟩) t.length (c - 1)) t ∧ (c = 1 → Bytes w (.slice (some ⟨b, off, none⟩) t.length 0) t) := by
  obtain ⟨A, cap, e, h2, h3, h4, h5, h6⟩ := h
  simp only [Value.slice.injEq] at e
  obtain ⟨rfl, _, rfl⟩ := e
  have hb : ∀ i, t.getD i 0 < 256 := fun i => by simpa using h5 (i + 1)
  simp only [List.length_cons] at h2
  refine ⟨⟨_, c - 1, rfl, by omega, by omega, (fun h => by cases h), hb, fun hp => ?_⟩, fun hc => ⟨_, 0, rfl, by omega, by omega, (fun h => by cases h), hb, fun hp => by omega⟩⟩
  obtain ⟨b', off', e, q1, q2⟩ := h6 (by simp)
  simp only [Option.some.injEq, Addr.mk.injEq, and_true] at e
  obtain ⟨rfl, rfl⟩ := e
  refine ⟨b, off + 1, rfl, q1, fun i hi => ?_⟩
  have := q2 (i + 1) (by simpa using hi)
  rw [Nat.add_assoc, Nat.add_comm 1 i]
  simpa using this

/-- what reads: its two cells, and the bytes that are left -/
structure InAt (w : World) (gi : Nat) (A : Option Addr) (n c : Nat) (l : List Nat) (bad : Bool) : Prop where
  hi : gi < w.heap.size
  c0 : w.cell? ⟨gi, 0, none⟩ = some (.slice A n c)
  c1 : w.cell? ⟨gi, 1, none⟩ = some (.bool bad)
  f0 : w.frozen? ⟨gi, 0, none⟩ = false
  f1 : w.frozen? ⟨gi, 1, none⟩ = false
  bytes : Bytes w (.slice A n c) l
  apart : ∀ a, A = some a → a.block ≠ gi

theorem Bytes.keep {w w' : World} {A : Option Addr} {n c : Nat} {l : List Nat} {S : Nat → Prop} (h : Bytes w (.slice A n c) l) (hk : Keep w w' S) (hS : ∀ a, A = some a → ¬ S a.block) : Bytes w' (.slice A n c) l := by
  obtain ⟨A', cap, e, h2, h3, h4, h5, h6⟩ := h
  simp only [Value.slice.injEq] at e
  obtain ⟨rfl, rfl, rfl⟩ := e
  refine ⟨A, c, rfl, h2, h3, h4, h5, fun hp => ?_⟩
  obtain ⟨b, off, e, q1, q2⟩ := h6 hp
  exact ⟨b, off, e, Nat.lt_of_lt_of_le q1 hk.size, fun i hi => by rw [hk.cell q1 (hS _ e)]; exact q2 i hi⟩

end Go.Proofs.YtobnbdoehobigaaDoor
