import Derived.Test.YtobnbdoehobigaaDoorNums
set_option linter.unusedVariables false
set_option linter.unusedSimpArgs false
namespace Go.Proofs.YtobnbdoehobigaaDoor
open Go

theorem zig_unzig (z : Nat) : zig (unzig z) = z := by
  unfold zig unzig
  split <;> split <;> omega

theorem unzig_bounds (z : Nat) (h : z < 18446744073709551616) : -9223372036854775808 ≤ unzig z ∧ unzig z ≤ 9223372036854775807 := by
  unfold unzig; split <;> omega

/-- what is read was put so -/
theorem dec_sound : ∀ (l : List Nat) (k acc z : Nat) (rest : List Nat), (∀ x ∈ l, x < 256) → dec k acc l = some (z, rest) →
    k ≤ 9 ∧ ∃ z1, l = uvarF (10 - k) z1 ++ rest ∧ z = acc + z1 * 2 ^ (7 * k) ∧ z1 * 2 ^ (7 * k) < 18446744073709551616 ∧ (0 < k → 0 < z1) ∧ z1 < 128 ^ (10 - k) := by
  intro l
  induction l with
  | nil => intro k acc z rest _ h; simp [dec] at h
  | cons c l ih =>
    intro k acc z rest hb h
    have hc := hb c (by simp)
    unfold dec at h
    split at h
    · cases h
    · rename_i hk
      have hk9 : k ≤ 9 := by omega
      have hov : c % 128 * 2 ^ (7 * k) < 18446744073709551616 := by omega
      split at h
      · rename_i h128
        split at h
        · cases h
        · rename_i hz
          simp only [Option.some.injEq, Prod.mk.injEq] at h
          obtain ⟨rfl, rfl⟩ := h
          have e : c % 128 = c := Nat.mod_eq_of_lt h128
          rw [e] at hov
          refine ⟨hk9, c, ?_, by rw [e], hov, fun h0 => by omega, ?_⟩
          · obtain ⟨f, hf⟩ : ∃ f, 10 - k = f + 1 := ⟨9 - k, by omega⟩
            rw [hf, uvarF, if_pos h128]; rfl
          · exact Nat.lt_of_lt_of_le h128 (by
              have := Nat.pow_le_pow_right (n := 128) (by omega) (show 1 ≤ 10 - k by omega)
              simpa using this)
      · rename_i h128
        obtain ⟨q1, z1, q2, q3, q4, q5, q6⟩ := ih (k + 1) _ z rest (fun x hx => hb x (by simp [hx])) h
        have hz1 := q5 (by omega)
        have e7 : 2 ^ (7 * (k + 1)) = 128 * 2 ^ (7 * k) := by rw [show 7 * (k + 1) = 7 + 7 * k by omega, Nat.pow_add]
        have hpow : (c % 128 + 128 * z1) * 2 ^ (7 * k) = c % 128 * 2 ^ (7 * k) + z1 * 2 ^ (7 * (k + 1)) := by
          rw [e7, Nat.add_mul, Nat.mul_comm 128 z1, Nat.mul_assoc]
        refine ⟨hk9, c % 128 + 128 * z1, ?_, ?_, ?_, fun _ => by omega, ?_⟩
        · obtain ⟨f, hf⟩ : ∃ f, 10 - k = f + 1 := ⟨9 - k, by omega⟩
          have hf2 : 10 - (k + 1) = f := by omega
          rw [hf, uvarF, if_neg (by omega), q2, hf2]
          have e1 : (c % 128 + 128 * z1) % 128 + 128 = c := by omega
          have e2 : (c % 128 + 128 * z1) / 128 = z1 := by omega
          rw [e1, e2]; rfl
        · rw [q3, hpow]; omega
        · rw [hpow]
          -- both parts: the first is below 2^(7(k+1)), the second a multiple of it, below 2^64
          have hlt : c % 128 * 2 ^ (7 * k) < 2 ^ (7 * (k + 1)) := by
            rw [e7]; exact Nat.mul_lt_mul_of_pos_right (by omega) (Nat.two_pow_pos _)
          have hk8 : k + 1 ≤ 9 := q1
          have hdvd : 2 ^ (7 * (k + 1)) ∣ 18446744073709551616 := by
            have : (18446744073709551616 : Nat) = 2 ^ (7 * (k + 1)) * 2 ^ (64 - 7 * (k + 1)) := by
              rw [← Nat.pow_add, show 7 * (k + 1) + (64 - 7 * (k + 1)) = 64 by omega]
            exact ⟨_, this⟩
          obtain ⟨M, hM⟩ := hdvd
          have hz1M : z1 < M := by
            rw [hM, Nat.mul_comm] at q4
            exact Nat.lt_of_mul_lt_mul_left q4
          rw [hM]
          have : (z1 + 1) * 2 ^ (7 * (k + 1)) ≤ M * 2 ^ (7 * (k + 1)) := Nat.mul_le_mul_right _ hz1M
          rw [Nat.add_mul, Nat.one_mul] at this
          rw [Nat.mul_comm (2 ^ (7 * (k + 1))) M]
          omega
        · obtain ⟨f, hf⟩ : ∃ f, 10 - k = f + 1 := ⟨9 - k, by omega⟩
          have hf2 : 10 - (k + 1) = f := by omega
          rw [hf2] at q6
          rw [hf, Nat.pow_succ]
          omega

/-- a number's bytes: all but the last are 128 or more -/
theorem uvarF_shape (f : Nat) : ∀ z, z < 128 ^ f → 1 ≤ f → ∃ q x, uvarF f z = q ++ [x] ∧ x < 128 ∧ ∀ y ∈ q, 128 ≤ y := by
  induction f with
  | zero => intro z _ h; omega
  | succ f ih =>
    intro z hz _
    unfold uvarF
    by_cases h : z < 128
    · rw [if_pos h]; exact ⟨[], z, rfl, h, fun y hy => by cases hy⟩
    · rw [if_neg h]
      rw [Nat.pow_succ] at hz
      have hf : 1 ≤ f := by
        cases f with
        | zero => simp at hz; omega
        | succ _ => omega
      obtain ⟨q, x, h1, h2, h3⟩ := ih (z / 128) (Nat.div_lt_of_lt_mul (by rwa [Nat.mul_comm])) hf
      refine ⟨(z % 128 + 128) :: q, x, by rw [h1]; rfl, h2, fun y hy => ?_⟩
      rcases List.mem_cons.1 hy with rfl | hy
      · omega
      · exact h3 y hy

/-- the number that bytes are, the lowest seven bits first -/
def val : List Nat → Nat
  | [] => 0
  | c :: l => c % 128 + 128 * val l

theorem val_uvarF (f : Nat) : ∀ z, z < 128 ^ f → 1 ≤ f → val (uvarF f z) = z := by
  induction f with
  | zero => intro z _ h; omega
  | succ f ih =>
    intro z hz _
    unfold uvarF
    by_cases h : z < 128
    · rw [if_pos h]; simp [val]; omega
    · rw [if_neg h]
      rw [Nat.pow_succ] at hz
      have hf : 1 ≤ f := by
        cases f with
        | zero => simp at hz; omega
        | succ _ => omega
      rw [val, ih (z / 128) (Nat.div_lt_of_lt_mul (by rwa [Nat.mul_comm])) hf]
      omega

theorem first_eq {q q' : List Nat} {x x' : Nat} {r r' : List Nat} (h : q ++ x :: r = q' ++ x' :: r') (hx : x < 128) (hx' : x' < 128) (hq : ∀ y ∈ q, 128 ≤ y) (hq' : ∀ y ∈ q', 128 ≤ y) : q = q' ∧ x = x' ∧ r = r' := by
  induction q generalizing q' with
  | nil =>
    cases q' with
    | nil => simp at h; exact ⟨rfl, h⟩
    | cons a q' => simp at h; have := hq' a (by simp); omega
  | cons a q ih =>
    cases q' with
    | nil => simp at h; have := hq a (by simp); omega
    | cons b q' =>
      simp only [List.cons_append, List.cons.injEq] at h
      obtain ⟨rfl, h⟩ := h
      obtain ⟨rfl, rfl, rfl⟩ := ih h (fun y hy => hq y (by simp [hy])) (fun y hy => hq' y (by simp [hy]))
      exact ⟨rfl, rfl, rfl⟩

theorem pow64 : (18446744073709551616 : Nat) ≤ 128 ^ 10 := by decide

/-- THE LAW OF Read: n bytes, of which just the last is below 128, are a number just if it is put so -/
theorem dec_first {q r : List Nat} {x : Nat} (hb : ∀ y ∈ q ++ x :: r, y < 256) (hx : x < 128) (hq : ∀ y ∈ q, 128 ≤ y) :
    dec 0 0 (q ++ x :: r) = if intL (unzig (val (q ++ [x]) % 18446744073709551616)) = q ++ [x] then some (val (q ++ [x]) % 18446744073709551616, r) else none := by
  obtain ⟨z, hz⟩ : ∃ z, val (q ++ [x]) % 18446744073709551616 = z := ⟨_, rfl⟩
  have hz64 : z < 18446744073709551616 := by omega
  rw [hz]
  have hi : intL (unzig z) = uvarF 10 z := by unfold intL; rw [zig_unzig]
  split
  · rename_i h
    have h1 := dec_intL (unzig z) r (unzig_bounds z hz64).1 (unzig_bounds z hz64).2
    rw [h, zig_unzig] at h1
    simpa using h1
  · rename_i h
    cases hd : dec 0 0 (q ++ x :: r) with
    | none => rfl
    | some p =>
      obtain ⟨z', rest⟩ := p
      obtain ⟨_, z1, h1, h2, h3, _, h5⟩ := dec_sound _ 0 0 z' rest hb hd
      simp only [Nat.mul_zero, Nat.pow_zero, Nat.mul_one, Nat.zero_add, Nat.sub_zero] at h1 h2 h3 h5
      subst h2
      obtain ⟨q', x', e1, e2, e3⟩ := uvarF_shape 10 z' h5 (by omega)
      rw [e1, List.append_assoc] at h1
      obtain ⟨rfl, rfl, rfl⟩ := first_eq h1 hx e2 hq e3
      have := val_uvarF 10 z' h5 (by omega)
      rw [e1] at this
      rw [this, Nat.mod_eq_of_lt h3] at hz
      subst hz
      exact absurd (hi.trans e1) h

/-- ten bytes of 128 and more, or all: no number -/
theorem dec_long {l : List Nat} (hb : ∀ y ∈ l, y < 256) (h : ∀ j, j < 10 → j < l.length → 128 ≤ l.getD j 0) : dec 0 0 l = none := by
  cases hd : dec 0 0 l with
  | none => rfl
  | some p =>
    obtain ⟨z', rest⟩ := p
    obtain ⟨_, z1, h1, h2, h3, _, h5⟩ := dec_sound _ 0 0 z' rest hb hd
    simp only [Nat.sub_zero] at h1 h5
    obtain ⟨q', x', e1, e2, e3⟩ := uvarF_shape 10 z1 h5 (by omega)
    have hl := uvarF_len 10 z1
    rw [e1] at hl h1
    simp at hl
    have := h q'.length (by omega) (by rw [h1]; simp)
    rw [h1] at this
    simp at this
    omega

end Go.Proofs.YtobnbdoehobigaaDoor
