
import Derived.Test.YtobnbdoehobigaaDoorOut
import Derived.Laws.IdiomStrings
import Derived.Lib.SlBytesConst
namespace Go.Proofs.YtobnbdoehobigaaDoor
open Go.RowKit
set_option linter.unusedVariables false
set_option linter.unusedSimpArgs false

/-- bytes as a text -/
def strOf (l : List Nat) : ByteArray := ⟨(l.map UInt8.ofNat).toArray⟩

theorem conv_bytes {w : World} {v : Value} {l : List Nat} (h : Bytes w v l) : (convert 22 9 v).run Tryd.prog w = .ok (.string (strOf l)) w := by
  obtain ⟨A, cap, rfl, hn, hcap, hnil, hb, hc⟩ := h
  cases A with
  | none =>
    have hc0 := hnil rfl
    subst hc0
    have : l = [] := List.eq_nil_of_length_eq_zero (by omega)
    subst this
    exact (fun w => (by kernel_rfl : (convert 22 9 (.slice none 0 0)).run Tryd.prog w = .ok (.string ⟨#[]⟩) w)) w
  | some a =>
    have h := run_convert_bytes_back (P := Tryd.prog) w 22 9 5 a cap (l.map UInt8.ofNat) Tryd.underlying22 Tryd.underlying5 Tryd.underlying9 (fun j hj => by
      have hj' : j < l.length := by simpa using hj
      obtain ⟨b, off, e1, e2, e3⟩ := hc (by omega)
      simp only [Option.some.injEq] at e1
      subst e1
      have e4 := e3 j hj'
      rw [show (⟨b, off, none⟩ : Addr).add j = ⟨b, off + j, none⟩ by unfold Addr.add; split <;> simp_all]
      rw [e4]
      have hbj := hb j
      rw [List.getD_eq_getElem?_getD, List.getElem?_eq_getElem hj'] at hbj ⊢
      simp only [Option.getD_some] at hbj ⊢
      simp [Nat.mod_eq_of_lt hbj])
    simpa [strOf] using h

/-- all that was put -/
theorem outBytes_any (base gb : Nat) (A : Option Addr) (n cap : Nat) (l : List Nat) (w : World) (ho : OutAt base w gb A n cap l) (hl : l.length ≤ 4294967296) :
    Calls Tryd.prog 15 #[.pointer (some ⟨gb, 0, none⟩)] w fun e w' => ∃ A n cap, e = .returned (.slice A n cap) ∧ Own w.heap.size w' A n cap l ∧ Ext w w' := by
  have hx := ho.cell
  have hgb := ho.hi
  have C := Lib.hid (clone_any (.slice A n cap) l w ho.own.bytes hl)
  clear ho
  go_enter Tryd.func15, Tryd.ntmps15
  go_wp2_with fail
  refine C.out.mono ?_
  rintro e w' ⟨A', n', cap', rfl, hO, hE⟩
  go_wp2
  go_ret
  exact ⟨A', n', cap', rfl, hO, hE⟩

theorem conv_const (w : World) (C : Array Value) (n c k : Nat) (hk : k = w.heap.size) : (convert 22 22 (.slice (some ⟨k, 0, none⟩) n c)).run Tryd.prog (w.alloc (.cells C 5)) = .ok (.slice (some ⟨k, 0, none⟩) n c) (w.alloc (.cells C 5 (C.size, C.size + 1))) := by
  subst hk
  exact Lib.run_convert_bytes_const (P := Tryd.prog) w 22 5 C n c Tryd.underlying22 Tryd.underlying5

theorem cell_marked (w : World) (C : Array Value) (t : TypeId) (fr : Nat × Nat) (i k : Nat) (hk : k = w.heap.size) : (w.alloc (.cells C t fr)).cell? ⟨k, i, none⟩ = C[i]? := by
  subst hk
  exact cell_of_row _ _ _ _ _ _ (heap_alloc_new w _)

theorem bytes_lit (w : World) (l : List Nat) (k : Nat) (fr : Nat × Nat) (hk : k = w.heap.size) (hb : ∀ i, l.getD i 0 < 256) (hm : l.length ≤ 9223372036854775807) :
    Bytes (w.alloc (.cells (l.map byteV).toArray 5 fr)) (.slice (some ⟨k, 0, none⟩) l.length l.length) l := by
  refine bytes_at (by subst hk; simp) hb hm fun i hi => ?_
  rw [cell_marked _ _ _ _ _ _ hk]
  simp [hi, byteV]

theorem lt_of_all {l : List Nat} (h : l.all (fun x => decide (x < 256)) = true) : ∀ i, l.getD i 0 < 256 := by
  intro i
  rw [List.getD_eq_getElem?_getD]
  by_cases hi : i < l.length
  · rw [List.getElem?_eq_getElem hi]
    have := List.all_eq_true.1 h _ (List.getElem_mem hi)
    simpa using this
  · rw [List.getElem?_eq_none (by omega)]; decide

set_option maxRecDepth 100000 in
set_option maxHeartbeats 6400000 in
theorem awake_any (w : World) (hT : Tab w) : Calls Tryd.prog 9 #[] w fun e w' => e = .returned (.bool true) ∧ Ext w w' := by
  have T := Lib.hid hT
  clear hT
  have F := Lib.hid (fun (w' : World) (h : Ext w w') (v : Value) (hb : Bytes w' v [120]) => frame_any 1 2 v [120] w' (T.out.ext h) hb (by omega) (by omega) (by decide))
  have hcs := conv_const
  have Y : Hid (Bytes ((w.alloc (.cells #[.slice none 0 0] 31)).alloc (.cells #[.int .u8 120] 5 (1, 2))) (.slice (some ⟨w.heap.size + 1, 0, none⟩) 1 1) [120]) :=
    bytes_lit (w.alloc (.cells #[.slice none 0 0] 31)) [120] (w.heap.size + 1) (1, 2) (by simp) (lt_of_all (by decide)) (by decide)
  have E0 : Hid (Ext w ((w.alloc (.cells #[.slice none 0 0] 31)).alloc (.cells #[.int .u8 120] 5 (1, 2)))) := ((Ext.refl w).alloc _).alloc _
  go_enter Tryd.func9, Tryd.ntmps9
  go_wp2_with fail
  refine (F.out _ E0.out _ Y.out).mono ?_
  rintro e w1 ⟨A, n, cap, rfl, hO, g, rfl⟩
  have hn : n = 18 := hO.1
  subst hn
  clear hO
  go_wp2_with fail
  have E1 : Hid (Ext w ((((w.alloc (.cells #[.slice none 0 0] 31)).alloc (.cells #[.int .u8 120] 5 (1, 2))).ext g).alloc (.cells #[.int .u8 49, .int .u8 50, .int .u8 51, .int .u8 52, .int .u8 53, .int .u8 54, .int .u8 55, .int .u8 56, .int .u8 57] 5 (9, 10)))) := (E0.out.ext g).alloc _
  have Y1 : Hid (Bytes ((((w.alloc (.cells #[.slice none 0 0] 31)).alloc (.cells #[.int .u8 120] 5 (1, 2))).ext g).alloc (.cells #[.int .u8 49, .int .u8 50, .int .u8 51, .int .u8 52, .int .u8 53, .int .u8 54, .int .u8 55, .int .u8 56, .int .u8 57] 5 (9, 10))) (.slice (some ⟨w.heap.size + (2 + g.blocks.size), 0, none⟩) 9 9) [49, 50, 51, 52, 53, 54, 55, 56, 57]) :=
    bytes_lit (((w.alloc (.cells #[.slice none 0 0] 31)).alloc (.cells #[.int .u8 120] 5 (1, 2))).ext g) [49, 50, 51, 52, 53, 54, 55, 56, 57] _ (9, 10) (by simp; omega) (lt_of_all (by decide)) (by decide)
  refine (sum_any _ _ _ Y1.out (T.out.ext E1.out)).mono ?_
  rintro e w2 ⟨rfl, g2, rfl⟩
  have hsum : ((4294967295 - crc 4294967295 [49, 50, 51, 52, 53, 54, 55, 56, 57] : Nat) : Int) = 3421780262 := by decide +kernel
  rw [hsum]
  clear hsum Y Y1
  go_wp2_with fail
  have E2 : Hid (Ext w (((((w.alloc (.cells #[.slice none 0 0] 31)).alloc (.cells #[.int .u8 120] 5 (1, 2))).ext g).alloc (.cells #[.int .u8 49, .int .u8 50, .int .u8 51, .int .u8 52, .int .u8 53, .int .u8 54, .int .u8 55, .int .u8 56, .int .u8 57] 5 (9, 10))).ext g2)) := E1.out.ext g2
  have hOut : OutAt w.heap.size (((((w.alloc (.cells #[.slice none 0 0] 31)).alloc (.cells #[.int .u8 120] 5 (1, 2))).ext g).alloc (.cells #[.int .u8 49, .int .u8 50, .int .u8 51, .int .u8 52, .int .u8 53, .int .u8 54, .int .u8 55, .int .u8 56, .int .u8 57] 5 (9, 10))).ext g2) w.heap.size none 0 0 [] :=
    ⟨Nat.le_refl _, by simp; omega, by simp [go_sem], by simp [go_sem], Own.nil _ _, by simp [Value.ownBlock]⟩
  refine (outInt_any w.heap.size w.heap.size none 0 0 [] (-3) _ hOut E2.out.size (by simp) (by omega) (by omega)).mono ?_
  rintro e w3 ⟨rfl, A1, n1, c1, hO1, hK1, hA1⟩
  have E3 := Lib.hid (hK1.toExt E2.out (fun k hk => by
    rcases hk with rfl | hk
    · exact Nat.le_refl _
    · simp [Value.ownBlock] at hk))
  have O1 := Lib.hid hO1
  clear hO1 hK1 hA1 hOut
  go_wp2_with fail
  refine (outInt_any w.heap.size w.heap.size A1 n1 c1 ([] ++ intL (-3)) 64 _ O1.out E3.out.size (by decide) (by omega) (by omega)).mono ?_
  rintro e w4 ⟨rfl, A2, n2, c2, hO2, hK2, hA2⟩
  have E4 := Lib.hid (hK2.toExt E3.out (fun k hk => by
    rcases hk with rfl | hk
    · exact Nat.le_refl _
    · exact O1.out.own.row k hk))
  have O2 := Lib.hid hO2
  clear hO2 hK2 hA2
  go_wp2_with fail
  refine (outBytes_any _ _ _ _ _ _ _ O2.out (by decide)).mono ?_
  rintro e w5 ⟨A3, n3, c3, rfl, hO3, hE3⟩
  have E5 := Lib.hid (E4.out.trans hE3)
  have hcv := conv_bytes hO3.bytes
  rw [show strOf ([] ++ intL (-3) ++ intL 64) = ⟨#[5, 128, 1]⟩ by decide +kernel] at hcv
  clear hO3 hE3
  go_wp2
  go_ret
  exact ⟨rfl, E5.out⟩

end Go.Proofs.YtobnbdoehobigaaDoor
