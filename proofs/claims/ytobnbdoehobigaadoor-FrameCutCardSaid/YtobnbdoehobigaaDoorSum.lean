import Derived.Test.YtobnbdoehobigaaDoorRows
import Derived.Test.YtobnbdoehobigaaDoorExt
import Derived.Test.YtobnbdoehobigaaDoorCrc
import Derived.Deep.Slices
import Derived.Deep.CutBlock
import Derived.Deep.DeepCutAuto
set_option linter.unusedVariables false
set_option linter.unusedSimpArgs false
namespace Go.Proofs.YtobnbdoehobigaaDoor
open Go.RowKit

theorem Ext.cell {w w' : World} (h : Ext w w') {b i : Nat} (hb : b < w.heap.size) : w'.cell? ⟨b, i, none⟩ = w.cell? ⟨b, i, none⟩ := (below_of_ext h).cell (p := ⟨b, i, none⟩) hb

/-- the table lies where the program has it -/
def Tab (w : World) : Prop := 0 < w.heap.size ∧ ∀ j, j < 16 → w.cell? ⟨0, j, none⟩ = some (.int .u32 ((halfs.getD j 0 : Nat) : Int))

theorem Tab.ext {w w' : World} (h : Tab w) (he : Ext w w') : Tab w' :=
  ⟨Nat.lt_of_lt_of_le h.1 he.size, fun j hj => by rw [he.cell h.1]; exact h.2 j hj⟩

/-- a slice of bytes, in memory -/
def Bytes (w : World) (v : Value) (l : List Nat) : Prop :=
  ∃ (A : Option Addr) (cap : Nat), v = .slice A l.length cap ∧ l.length ≤ cap ∧ cap ≤ 9223372036854775807 ∧ (A = none → cap = 0) ∧ (∀ i, l.getD i 0 < 256) ∧
    (0 < l.length → ∃ b off, A = some ⟨b, off, none⟩ ∧ b < w.heap.size ∧ ∀ i, i < l.length → w.cell? ⟨b, off + i, none⟩ = some (.int .u8 ((l.getD i 0 : Nat) : Int)))

theorem Bytes.ext {w w' : World} {v : Value} {l : List Nat} (h : Bytes w v l) (he : Ext w w') : Bytes w' v l := by
  obtain ⟨A, cap, h1, h2, h3, h4, h5, h6⟩ := h
  refine ⟨A, cap, h1, h2, h3, h4, h5, fun hn => ?_⟩
  obtain ⟨b, off, e1, e2, e3⟩ := h6 hn
  exact ⟨b, off, e1, Nat.lt_of_lt_of_le e2 he.size, fun i hi => by rw [he.cell e2]; exact e3 i hi⟩

theorem xor_u32 (a b : Nat) (ha : a < 4294967296) (hb : b < 4294967296) : Go.bits .xor .u32 (a : Int) (b : Int) = ((a ^^^ b : Nat) : Int) := by
  have hx : a ^^^ b < 2 ^ 32 := Nat.xor_lt_two_pow (by omega) (by omega)
  have h1 : (BitVec.ofInt 32 (a : Int)).toNat = a := by
    rw [BitVec.ofInt_natCast, BitVec.toNat_ofNat]; exact Nat.mod_eq_of_lt (by omega)
  have h2 : (BitVec.ofInt 32 (b : Int)).toNat = b := by
    rw [BitVec.ofInt_natCast, BitVec.toNat_ofNat]; exact Nat.mod_eq_of_lt (by omega)
  show IntKind.u32.wrap ((BitVec.ofInt 32 (a : Int) ^^^ BitVec.ofInt 32 (b : Int)).toNat : Int) = _
  rw [BitVec.toNat_xor, h1, h2, IntKind.wrap_u32]
  omega

theorem and15_u32 (a : Nat) (ha : a < 4294967296) : Go.bits .and .u32 (a : Int) 15 = ((a % 16 : Nat) : Int) := by
  have h1 : (BitVec.ofInt 32 (a : Int)).toNat = a := by
    rw [BitVec.ofInt_natCast, BitVec.toNat_ofNat]; exact Nat.mod_eq_of_lt (by omega)
  have h2 : (BitVec.ofInt 32 15).toNat = 2 ^ 4 - 1 := by decide
  show IntKind.u32.wrap ((BitVec.ofInt 32 (a : Int) &&& BitVec.ofInt 32 15).toNat : Int) = _
  rw [BitVec.toNat_and, h1, h2, Nat.and_two_pow_sub_one_eq_mod, IntKind.wrap_u32]
  omega

theorem not_u32 (a : Nat) (ha : a < 4294967296) : Go.bits .xor .u32 4294967295 (a : Int) = ((4294967295 - a : Nat) : Int) := by
  have h := xor_u32 4294967295 a (by omega) ha
  rw [show ((4294967295 : Nat) : Int) = 4294967295 by rfl] at h
  rw [h]
  congr 1
  apply Nat.eq_of_testBit_eq
  intro i
  have h1 := Nat.testBit_two_pow_sub_succ (n := 32) ha i
  have h2 := Nat.testBit_two_pow_sub_one 32 i
  rw [show (2:Nat) ^ 32 - (a + 1) = 4294967295 - a by omega] at h1
  rw [show (2:Nat) ^ 32 - 1 = 4294967295 by rfl] at h2
  rw [Nat.testBit_xor, h1, h2]
  by_cases hi : i < 32
  · simp [hi]
  · have : a.testBit i = false := Nat.testBit_lt_two_pow (Nat.lt_of_lt_of_le ha (Nat.pow_le_pow_right (n := 2) (by omega) (by omega : 32 ≤ i)))
    simp [hi, this]

theorem getD_halfs (c : Nat) : halfs[c % 16]! = halfs.getD (c % 16) 0 := by
  rw [List.getD_eq_getElem?_getD, getElem!_def]
  split <;> simp_all

/-- four bits fall out, as the program has it -/
theorem four_facts (d : Nat) (hd : d < 4294967296) : ∃ q m h e : Nat, (d : Int) / 16 = (q : Int) ∧ Go.bits .and .u32 (d : Int) 15 = (m : Int) ∧ m < 16 ∧ halfs.getD m 0 = h ∧ Go.bits .xor .u32 (q : Int) (h : Int) = (e : Int) ∧ e < 4294967296 ∧ e = bits 4 d := by
  have hq : halfs.getD (d % 16) 0 < 4294967296 := by
    have : ∀ m, m < 16 → halfs.getD m 0 < 4294967296 := by decide
    exact this _ (Nat.mod_lt _ (by decide))
  refine ⟨d / 16, d % 16, halfs.getD (d % 16) 0, bits 4 d, by omega, and15_u32 d hd, Nat.mod_lt _ (by decide), rfl, ?_, bits_lt 4 d hd, rfl⟩
  rw [bits_four, getD_halfs]
  exact xor_u32 _ _ (by omega) hq

theorem crc_take (l : List Nat) (k : Nat) (hk : k < l.length) (c : Nat) : crc c (l.take (k + 1)) = byteIn (crc c (l.take k)) (l.getD k 0) := by
  rw [List.take_succ_eq_append_getElem hk, crc_append, List.getD_eq_getElem?_getD, List.getElem?_eq_getElem hk]
  rfl

theorem crc_take_lt (l : List Nat) (k : Nat) (hb : ∀ i, l.getD i 0 < 256) : crc 4294967295 (l.take k) < 4294967296 := by
  refine crc_lt _ _ (by decide) fun x hx => ?_
  obtain ⟨i, hi, rfl⟩ := List.getElem_of_mem (List.mem_of_mem_take hx)
  have := hb i
  rwa [List.getD_eq_getElem?_getD, List.getElem?_eq_getElem hi] at this

set_option maxRecDepth 100000 in
set_option maxHeartbeats 3200000 in
theorem sum_any (v : Value) (l : List Nat) (w : World) (hl : Bytes w v l) (hT : Tab w) :
    Calls Tryd.prog 10 #[v] w fun e w' => e = .returned (.int .u32 ((4294967295 - crc 4294967295 l : Nat) : Int)) ∧ Ext w w' := by
  obtain ⟨A, cap, rfl, hn, hcap, -, hb, hc⟩ := hl
  have hn2 : l.length ≤ 9223372036854775807 := by omega
  have HB := Lib.hid hb
  have HC := Lib.hid hc
  have HT := Lib.hid hT
  clear hb hc hT
  go_enter Tryd.func10, Tryd.ntmps10
  go_wp2
  go_loopw [3, 8] (fun t3 t8 wr => ∃ k : Nat, k ≤ l.length ∧ t8 = .int .i64 k ∧ t3 = .int .u32 ((crc 4294967295 (l.take k) : Nat) : Int) ∧ Ext w wr) (fun _ t8 _ => l.length - (intOf t8).toNat)
  case atStart => exact ⟨0, Nat.zero_le _, rfl, by simp [crc], Ext.refl _⟩
  case round =>
    obtain ⟨k, hk, rfl, rfl, hE⟩ := hrel
    have HK := Lib.hid (crc_take_lt l k HB.out)
    by_cases hkn : k < l.length
    · obtain ⟨b, off, rfl, hbs, hc⟩ := HC.out (by omega)
      have c0 := hc k hkn
      rw [← hE.cell hbs] at c0
      have HX := Lib.hid (HB.out k)
      have HS := Lib.hid (crc_take l k hkn 4294967295)
      have HT2 := Lib.hid (HT.out.ext hE)
      have HE := Lib.hid hE
      have hbw : b < wr.heap.size := Nat.lt_of_lt_of_le hbs hE.size
      clear hE hc
      generalize hcv : crc 4294967295 (l.take k) = c at *
      generalize hxv : l.getD k 0 = x at *
      have x1 : (x : Int) ≤ 255 := by have := HX.out; omega
      obtain ⟨d, hd⟩ : ∃ d, c ^^^ x = d := ⟨_, rfl⟩
      have hdl : d < 4294967296 := by rw [← hd]; exact Nat.xor_lt_two_pow (n := 32) HK.out (by have := HX.out; omega)
      have f1 : Go.bits .xor .u32 (c : Int) (x : Int) = (d : Int) := by rw [← hd]; exact xor_u32 _ _ HK.out (by have := HX.out; omega)
      obtain ⟨q, m, h, e, g1, g2, g3, g4, g5, g6, g7⟩ := four_facts d hdl
      obtain ⟨q', m', h', e', g1', g2', g3', g4', g5', g6', g7'⟩ := four_facts e g6
      have t1 := HT2.out.2 m g3
      have t2 := HT2.out.2 m' g3'
      rw [g4] at t1
      rw [g4'] at t2
      have HD := Lib.hid hd
      have H7 := Lib.hid g7
      have H7' := Lib.hid g7'
      have i1 : (m : Int) < 16 := by omega
      have i2 : (m' : Int) < 16 := by omega
      clear hd g7 g7' hcv hxv g4 g4' hdl
      go_wp2
      go_roundw
      case rel =>
        refine ⟨k + 1, by omega, by go_num, ?_, HE.out⟩
        rw [HS.out, byteIn_two, HD.out, ← H7.out, ← H7'.out]
      case measure => simp [intOf]; omega
    · have hkn' : ¬ ((k : Int) < (l.length : Int)) := by omega
      have HK2 := Lib.hid (show k = l.length by omega)
      have HE := Lib.hid hE
      have hnot := not_u32 _ HK.out
      clear hE
      have HN := Lib.hid hnot
      clear hnot
      go_wp2
      go_ret
      refine ⟨ret_int (HN.out.trans ?_), HE.out⟩
      rw [HK2.out, List.take_length]

/-- the document's sum, bit by bit -/
theorem bit_facts (c : Nat) (hc : c < 4294967296) : ∃ o h e : Nat, (c : Int) % 2 = (o : Int) ∧ (c : Int) / 2 = (h : Int) ∧ h < 4294967296 ∧ bit1 c < 4294967296 ∧
    ((o = 0 ∧ bit1 c = h) ∨ (o = 1 ∧ Go.bits .xor .u32 (h : Int) 3988292384 = (e : Int) ∧ bit1 c = e)) := by
  refine ⟨c % 2, c / 2, bit1 c, by omega, by omega, by omega, bit1_lt c hc, ?_⟩
  rcases Nat.mod_two_eq_zero_or_one c with h | h
  · exact .inl ⟨h, by simp [bit1, h]⟩
  · refine .inr ⟨h, ?_, rfl⟩
    have := xor_u32 (c / 2) 3988292384 (by omega) (by omega)
    rw [show ((3988292384 : Nat) : Int) = 3988292384 by rfl] at this
    rw [this]
    simp [bit1, h]

set_option maxRecDepth 100000 in
set_option maxHeartbeats 3200000 in
theorem refSum_any (v : Value) (l : List Nat) (w : World) (hl : Bytes w v l) :
    Calls Tryd.prog 11 #[v] w fun e w' => e = .returned (.int .u32 ((4294967295 - crc 4294967295 l : Nat) : Int)) ∧ Ext w w' := by
  obtain ⟨A, cap, rfl, hn, hcap, -, hb, hc⟩ := hl
  have hn2 : l.length ≤ 9223372036854775807 := by omega
  have HB := Lib.hid hb
  have HC := Lib.hid hc
  clear hb hc
  go_enter Tryd.func11, Tryd.ntmps11
  go_wp2
  go_loopw [3, 4] (fun t3 t4 wr => ∃ k : Nat, k ≤ l.length ∧ t4 = .int .i64 k ∧ t3 = .int .u32 ((crc 4294967295 (l.take k) : Nat) : Int) ∧ Ext w wr) (fun _ t4 _ => l.length - (intOf t4).toNat)
  case atStart => exact ⟨0, Nat.zero_le _, rfl, by simp [crc], Ext.refl _⟩
  case round =>
    obtain ⟨k, hk, rfl, rfl, hE⟩ := hrel
    have HK := Lib.hid (crc_take_lt l k HB.out)
    by_cases hkn : k < l.length
    · obtain ⟨b, off, rfl, hbs, hc⟩ := HC.out (by omega)
      have c0 := hc k hkn
      rw [← hE.cell hbs] at c0
      have HX := Lib.hid (HB.out k)
      have HS := Lib.hid (crc_take l k hkn 4294967295)
      have HE := Lib.hid hE
      have hbw : b < wr.heap.size := Nat.lt_of_lt_of_le hbs hE.size
      clear hE hc
      generalize hcv : crc 4294967295 (l.take k) = c at *
      generalize hxv : l.getD k 0 = x at *
      have x1 : (x : Int) ≤ 255 := by have := HX.out; omega
      obtain ⟨d, hd⟩ : ∃ d, c ^^^ x = d := ⟨_, rfl⟩
      have hdl : d < 4294967296 := by rw [← hd]; exact Nat.xor_lt_two_pow (n := 32) HK.out (by have := HX.out; omega)
      have f1 : Go.bits .xor .u32 (c : Int) (x : Int) = (d : Int) := by rw [← hd]; exact xor_u32 _ _ HK.out (by have := HX.out; omega)
      have HD := Lib.hid hd
      have HDL := Lib.hid hdl
      clear hd hcv hxv hdl
      go_wp2
      go_loopw [3, 5] (fun t3 t5 wx => ∃ j : Nat, j ≤ 8 ∧ t5 = .int .i64 j ∧ t3 = .int .u32 ((bits j d : Nat) : Int) ∧ Ext w wx) (fun _ t5 _ => 8 - (intOf t5).toNat)
      case atStart => exact ⟨0, by omega, rfl, rfl, HE.out⟩
      case round =>
        obtain ⟨j, hj, rfl, rfl, hE2⟩ := hrel
        have HE2 := Lib.hid hE2
        clear hE2
        by_cases hj8 : j < 8
        · have HJ := Lib.hid (show bits (j + 1) d = bit1 (bits j d) from bits_add j 1 d)
          have hlt := bits_lt j d HDL.out
          generalize bits j d = z at *
          obtain ⟨o, h, e, g1, g2, g3, g4, g5⟩ := bit_facts z hlt
          rcases g5 with ⟨rfl, g5⟩ | ⟨rfl, g5, g6⟩
          · have G5 := Lib.hid g5
            clear g5
            go_wp2
            go_roundw
            case rel => exact ⟨j + 1, by omega, by go_num, by rw [HJ.out, G5.out], HE2.out⟩
            case measure => simp [intOf]; omega
          · have G6 := Lib.hid g6
            clear g6
            go_wp2
            go_roundw
            case rel => exact ⟨j + 1, by omega, by go_num, by rw [HJ.out, G6.out], HE2.out⟩
            case measure => simp [intOf]; omega
        · have HJ8 := Lib.hid (show j = 8 by omega)
          have hj8' : ¬ ((j : Int) < 8) := by omega
          go_wp2
          go_roundw
          case rel =>
            refine ⟨k + 1, by omega, by go_num, ?_, HE2.out⟩
            rw [HS.out, HJ8.out, byteIn, HD.out]
          case measure => simp [intOf]; omega
    · have hkn' : ¬ ((k : Int) < (l.length : Int)) := by omega
      have HK2 := Lib.hid (show k = l.length by omega)
      have HE := Lib.hid hE
      have hlt : ((crc 4294967295 (l.take k) : Nat) : Int) ≤ 4294967295 := by have := HK.out; omega
      clear hE
      go_wp2
      go_ret
      refine ⟨ret_int ?_, HE.out⟩
      have h2 := HK2.out
      have h3 := HK.out
      rw [h2, List.take_length] at h3 ⊢
      show (4294967295 : Int) - _ = _
      omega

end Go.Proofs.YtobnbdoehobigaaDoor
