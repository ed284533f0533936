/- The texts of coordinates, as lists of bytes: plain laws of limnerlaw01's FixedTexts and FixedParses. No program in sight. -/
import Derived.Lib.ItoaNum
import Derived.Lib.AtoiAll
set_option linter.unusedVariables false
namespace Go.Proofs.YtakebbphielbfaaDoor
open Go

def fracF : Nat → Nat → List UInt8
  | 0, _ => []
  | f + 1, r => if r = 0 then [] else UInt8.ofNat (48 + r * 10 / 256) :: fracF f (r * 10 % 256)
/-- the digits behind the point of r 256ths -/
def fracL (r : Nat) : List UInt8 := fracF 8 r
/-- a coordinate's text -/
def textL (a : Int) : List UInt8 := (if a < 0 then [45] else []) ++ (Lib.decDigits (a.natAbs / 256) ++ (if a.natAbs % 256 = 0 then [] else 46 :: fracL (a.natAbs % 256)))

theorem frac_step' : ∀ r : Fin 256, r.val ≠ 0 → fracL r.val = UInt8.ofNat (48 + r.val * 10 / 256) :: fracL (r.val * 10 % 256) := by decide +kernel
theorem frac_step {r : Nat} (h : r < 256) (h0 : r ≠ 0) : fracL r = UInt8.ofNat (48 + r * 10 / 256) :: fracL (r * 10 % 256) := frac_step' ⟨r, h⟩ h0
theorem frac_zero : fracL 0 = [] := rfl
theorem frac_len' : ∀ r : Fin 256, (fracL r.val).length ≤ 8 ∧ (r.val ≠ 0 → 0 < (fracL r.val).length ∧ (fracL r.val).getLast? ≠ some 48) := by decide +kernel
theorem frac_less {r : Nat} (h : r < 256) (h0 : r ≠ 0) : (fracL (r * 10 % 256)).length < (fracL r).length := by
  rw [frac_step h h0]; simp

/-- decimal digits, by a bound on their number -/
def digF : Nat → Nat → List UInt8
  | 0, u => [UInt8.ofNat (48 + u % 10)]
  | f + 1, u => if u < 10 then [UInt8.ofNat (48 + u)] else digF f (u / 10) ++ [UInt8.ofNat (48 + u % 10)]
theorem dec_fuel : ∀ f u, u < 10 ^ (f + 1) → Lib.decDigits u = digF f u := by
  intro f
  induction f with
  | zero =>
    intro u h
    unfold Lib.decDigits digF
    rw [dif_pos (by simpa using h), Nat.mod_eq_of_lt (by simpa using h)]
  | succ f ih =>
    intro u h
    unfold Lib.decDigits digF
    split
    · rfl
    · rw [ih (u / 10) (by rw [Nat.pow_succ] at h; omega)]
theorem pad' : ∀ r : Fin 256, digF 8 (100000000 + r.val * 390625) = 49 :: (fracL r.val ++ List.replicate (8 - (fracL r.val).length) 48) := by decide +kernel
/-- the document's digits: a one, the digits behind the point, zeros -/
theorem pad {r : Nat} (h : r < 256) : Lib.decDigits (100000000 + r * 390625) = 49 :: (fracL r ++ List.replicate (8 - (fracL r).length) 48) := by
  rw [dec_fuel 8 _ (by omega)]; exact pad' ⟨r, h⟩

/-- what Parse reckons behind the point -/
def lowV (l : List UInt8) : Int := l.foldl (fun n c => n * 10 + (c.toNat : Int) - 48) 0
theorem low' : ∀ r : Fin 256, (lowV (fracL r.val) * 256).tdiv ((10 ^ (fracL r.val).length : Nat) : Int) = (r.val : Int) := by decide +kernel
theorem low_back {r : Nat} (h : r < 256) : (lowV (fracL r) * 256).tdiv ((10 ^ (fracL r).length : Nat) : Int) = (r : Int) := low' ⟨r, h⟩

/-- all bytes of a number's text are digits -/
def isDig (c : UInt8) : Prop := 48 ≤ c.toNat ∧ c.toNat ≤ 57
theorem dig_of (k : Nat) (h : k < 10) : isDig (UInt8.ofNat (48 + k)) := by
  unfold isDig
  rw [UInt8.toNat_ofNat']
  omega
theorem dec_dig : ∀ u, ∀ c ∈ Lib.decDigits u, isDig c := by
  intro u
  induction u using Nat.strongRecOn with
  | _ u ih =>
    unfold Lib.decDigits
    split
    · rename_i h
      intro c hc
      simp only [List.mem_singleton] at hc
      subst hc
      exact dig_of u h
    · rename_i h
      intro c hc
      simp only [List.mem_append, List.mem_singleton] at hc
      rcases hc with hc | rfl
      · exact ih (u / 10) (by omega) c hc
      · exact dig_of _ (by omega)
theorem dec_ne (u : Nat) : Lib.decDigits u ≠ [] := by
  unfold Lib.decDigits
  split <;> simp
theorem frac_dig' : ∀ r : Fin 256, ∀ c ∈ fracL r.val, 48 ≤ c.toNat ∧ c.toNat ≤ 57 := by decide +kernel

theorem parse_one (acc k : Nat) (rest : List UInt8) (hk : k < 10) (h : acc * 10 + k < 18446744073709551610) : Lib.parseUint10 acc (UInt8.ofNat (48 + k) :: rest) = Lib.parseUint10 (acc * 10 + k) rest := by
  have hd := dig_of k hk
  have hn : (UInt8.ofNat (48 + k)).toNat = 48 + k := by rw [UInt8.toNat_ofNat']; omega
  unfold isDig at hd
  conv => lhs; unfold Lib.parseUint10
  rw [if_pos hd, if_neg (by omega), if_neg (by omega), hn]
  congr 1
  omega
/-- digits are read as their number -/
theorem parse_dec : ∀ u rest, u < 18446744073709551610 → Lib.parseUint10 0 (Lib.decDigits u ++ rest) = Lib.parseUint10 u rest := by
  intro u
  induction u using Nat.strongRecOn with
  | _ u ih =>
    intro rest h
    by_cases hu : u < 10
    · have e : Lib.decDigits u = [UInt8.ofNat (48 + u)] := by unfold Lib.decDigits; rw [dif_pos hu]
      rw [e]
      have := parse_one 0 u rest hu (by omega)
      simpa using this
    · have e : Lib.decDigits u = Lib.decDigits (u / 10) ++ [UInt8.ofNat (48 + u % 10)] := by rw [Lib.decDigits, dif_neg hu]
      rw [e, List.append_assoc, ih (u / 10) (by omega) _ (by omega)]
      have h2 := parse_one (u / 10) (u % 10) rest (by omega) (by omega)
      simp only [List.cons_append, List.nil_append]
      rw [h2, show u / 10 * 10 + u % 10 = u by omega]
theorem atoi_dec (u : Nat) (h : u ≤ 9223372036854775807) : Lib.atoiAll (Lib.decDigits u) = .ok (u : Int) := by
  have hp := parse_dec u [] (by omega)
  rw [List.append_nil] at hp
  have hd := dec_dig u
  cases he : Lib.decDigits u with
  | nil => exact absurd he (dec_ne u)
  | cons c r =>
    have hc : isDig c := hd c (by rw [he]; simp)
    unfold isDig at hc
    unfold Lib.atoiAll
    dsimp only
    rw [if_neg (by omega)]
    unfold Lib.parseMag
    rw [if_neg (by simp), ← he, hp]
    simp only [Lib.parseUint10]
    rw [if_neg (by omega), if_neg (by omega), if_neg (by omega)]

/-- how long a text is -/
theorem dec_len : ∀ f u, u < 10 ^ (f + 1) → (Lib.decDigits u).length ≤ f + 1 := by
  intro f
  induction f with
  | zero => intro u h; unfold Lib.decDigits; rw [dif_pos (by simpa using h)]; simp
  | succ f ih =>
    intro u h
    unfold Lib.decDigits
    split
    · simp
    · have := ih (u / 10) (by rw [Nat.pow_succ] at h; omega)
      simp; omega
theorem text_len {a : Int} (h : a.natAbs ≤ 2147483648) : (textL a).length ≤ 17 := by
  have h1 := dec_len 6 (a.natAbs / 256) (by omega)
  have h2 := (frac_len' ⟨a.natAbs % 256, by omega⟩).1
  unfold textL
  split <;> split <;> simp <;> (try simp only [] at h2) <;> omega

end Go.Proofs.YtakebbphielbfaaDoor
