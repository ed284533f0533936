import Derived.Test.YtncphiphgkjflaaICrop
import Derived.Test.YtncphiphgkjflaaIRep
import Derived.Test.YtncphiphgkjflaaIBytes
namespace Go.Proofs.Ytncphiphgkjflaa
open Go.RowKit Go.Shelf
set_option linter.unusedVariables false
set_option linter.unusedSimpArgs false

/-- the colour in a run's five bytes -/
def pxOf (b : List Nat) : Px := (b.getD 1 0, b.getD 2 0, b.getD 3 0, b.getD 4 0)
/-- k runs read, behind what is there; none if there is enough ahead of one -/
def parseL (M : Nat) : Nat → List Px → List Nat → Option (List Px)
  | 0, acc, _ => some acc
  | k + 1, acc, b => if M ≤ acc.length then none else parseL M k (acc ++ List.replicate (b.getD 0 0 + 1) (pxOf b)) (b.drop 5)
/-- what was read is an image's if its bytes are those read -/
def judgeF (W H : Nat) (b : List Nat) : Option (List Px) → Option (Nat × Nat × List Px)
  | none => none
  | some l => if rightI (W : Int) (H : Int) l = true ∧ bytesL (W : Int) (H : Int) l = b then some (W, H, l) else none
/-- what bytes are an image's -/
def parseF (b : List Nat) : Option (Nat × Nat × List Px) :=
  if b.length < 2 ∨ (b.length - 2) % 5 ≠ 0 then none else
    judgeF (b.getD 0 0 + 1) (b.getD 1 0 + 1) b (parseL ((b.getD 0 0 + 1) * (b.getD 1 0 + 1)) ((b.length - 2) / 5) [] (b.drop 2))

def noImg : Value := .tuple #[.agg #[.int .i64 0, .int .i64 0, .slice none 0 0], .int .i64 20]
def ParseOk (b : List Nat) (w : World) (e : Ending) (w' : World) : Prop :=
  Ext w w' ∧ match parseF b with
    | none => e = .returned noImg
    | some x => ∃ v, e = .returned (.tuple #[.agg #[.int .i64 (x.1 : Int), .int .i64 (x.2.1 : Int), v], .int .i64 0]) ∧ Pix .u8 w' v x.2.2

set_option maxRecDepth 100000 in
set_option maxHeartbeats 3200000 in
theorem parse_few (v : Value) (b : List Nat) (w : World) (hb : Bytes w v b) (hf : b.length < 2) :
    Calls Try.prog 27 #[v] w fun e w' => e = .returned noImg ∧ Ext w w' := by
  obtain ⟨X, c, rfl, h2, h3, h4, h5, h6⟩ := hb
  obtain ⟨n, hn⟩ : ∃ n, b.length = n := ⟨_, rfl⟩
  rw [hn] at hf ⊢
  have hlt : (n : Int) < 2 := by omega
  go_enter Try.func27, Try.ntmps27
  go_wp2
  refine bodyPost_ret (v := noImg) (by simp [results, Try.results27, go_sem, noImg]) rfl ⟨rfl, ?_⟩
  (repeat (first | exact Ext.refl _ | apply Ext.alloc | apply Ext.ext | (refine Ext.setCell ?_ (by simp) _)))

set_option maxRecDepth 100000 in
set_option maxHeartbeats 3200000 in
theorem parse_odd (v : Value) (b : List Nat) (w : World) (hb : Bytes w v b) (hf : 2 ≤ b.length) (hr : (b.length - 2) % 5 ≠ 0) :
    Calls Try.prog 27 #[v] w fun e w' => e = .returned noImg ∧ Ext w w' := by
  obtain ⟨X, c, rfl, h2, h3, h4, h5, h6⟩ := hb
  obtain ⟨n, hn⟩ : ∃ n, b.length = n := ⟨_, rfl⟩
  rw [hn] at hf hr h2 ⊢
  have hlt : ¬ (n : Int) < 2 := by omega
  have hr1 : ¬ ((n : Int) - 2).tmod 5 = 0 := by rw [Int.tmod_eq_emod_of_nonneg (by omega)]; omega
  go_enter Try.func27, Try.ntmps27
  go_wp2
  refine bodyPost_ret (v := noImg) (by simp [results, Try.results27, go_sem, noImg]) rfl ⟨rfl, ?_⟩
  (repeat (first | exact Ext.refl _ | apply Ext.alloc | apply Ext.ext | (refine Ext.setCell ?_ (by simp) _)))

theorem bequal_any (v v' : Value) (a b : List Nat) (w : World) (ha : Bytes w v a) (hb : Bytes w v' b) :
    Calls Try.prog 45 #[v, v'] w fun e w' => e = .returned (.bool (decide (a = b))) ∧ w' = w := by
  have C1 := conv_bytes ha
  have C2 := conv_bytes hb
  have S := str_eq a b (by obtain ⟨_, _, _, _, _, _, h, _⟩ := ha; exact h) (by obtain ⟨_, _, _, _, _, _, h, _⟩ := hb; exact h)
  obtain ⟨A, c, rfl, _⟩ := ha
  obtain ⟨B, d, rfl, _⟩ := hb
  obtain ⟨s1, hs1⟩ : ∃ s, strOf a = s := ⟨_, rfl⟩
  obtain ⟨s2, hs2⟩ : ∃ s, strOf b = s := ⟨_, rfl⟩
  rw [hs1] at C1 S
  rw [hs2] at C2 S
  go_enter Try.func45, Try.ntmps45
  go_wp2
  go_ret
  exact ⟨rfl, rfl⟩

end Go.Proofs.Ytncphiphgkjflaa
