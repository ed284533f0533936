import Derived.Test.YtblfplkocljlgaaTDelF
namespace Go.Proofs.Ytblfplkocljlgaa
open Go.RowKit Go.ChangeMaps
set_option linter.unusedVariables false
set_option linter.unusedSimpArgs false

/-- a cache: how many tiles it keeps at most; its tiles, in the order in which they came -/
structure TM where
  most : Nat
  l : List (KK × List Px)

def TM.keys (m : TM) : List KK := m.l.map (·.1)
def TM.gone (m : TM) (k : KK) : TM := { m with l := m.l.filter (fun t => decide (t.1 ≠ k)) }

theorem TM.keys_gone (m : TM) (k : KK) : (m.gone k).keys = dropK m.keys k := by
  unfold TM.keys TM.gone dropK
  rw [List.filter_map]; rfl

/-- a tile of the cache, in memory -/
def ImgAt (w : World) (S : Nat → Prop) (v : Value) (px : List Px) : Prop := ∃ pv, v = .agg #[.int .i64 8, .int .i64 8, pv] ∧ OwnP .u8 68 0 w pv px ∧ ∀ b, pv.ownBlock = some b → S b

/-- a cache in memory, all of it in blocks of S -/
structure TKs (w : World) (c : Nat) (m : TM) (S : Nat → Prop) (M : Nat) (ov : Value) (f : KK → Value) : Prop where
  blk : w.heap[c]? = some (.cells #[.int .i64 (m.most : Int), .map (some M), ov] 77 (0, 0))
  mp : MapAt w M (m.l.map fun t => (t.1, f t.1))
  ord : OwnK 23 0 w ov m.keys
  px : ∀ t ∈ m.l, ImgAt w S (f t.1) t.2
  sc : S c
  sM : S M
  so : ∀ b, ov.ownBlock = some b → S b
  lt : ∀ b, S b → b < w.heap.size
def TK (w : World) (c : Nat) (m : TM) (S : Nat → Prop) : Prop := ∃ M ov f, TKs w c m S M ov f

theorem own_keepAll {e size : Nat} {w w' : World} {v : Value} {n : Nat} {xs : List Value} (h : w.ownsRow 0 e size v n xs) (hb : ∀ b, v.ownBlock = some b → w'.heap[b]? = w.heap[b]?) : w'.ownsRow 0 e size v n xs := by
  refine ⟨h.1, ?_⟩
  rcases h.2 with h2 | ⟨g, c, cur, rfl, hb', hg, rest⟩
  · exact .inl h2
  · exact .inr ⟨g, c, cur, rfl, hb', by rw [hb g rfl]; exact hg, rest⟩

theorem row_typ {b e size : Nat} {w : World} {v : Value} {n : Nat} {xs : List Value} (h : w.ownsRow b e size v n xs) {k : Nat} (hk : v.ownBlock = some k) : ∃ cur, w.heap[k]? = some (.cells cur e (0, 0)) := by
  rcases h.2 with ⟨rfl, _⟩ | ⟨g, c, cur, rfl, _, hg, _⟩
  · simp [Value.ownBlock] at hk
  · simp only [Value.ownBlock, Option.some.injEq] at hk
    subst hk
    exact ⟨cur, hg⟩

theorem ImgAt.stay {w w' : World} {S S' : Nat → Prop} {v : Value} {px : List Px} (h : ImgAt w S v px) (hS : ∀ b, S b → S' b) (hb : ∀ b cur, S b → w.heap[b]? = some (.cells cur 68 (0, 0)) → w'.heap[b]? = w.heap[b]?) : ImgAt w' S' v px := by
  obtain ⟨pv, e, h1, h2⟩ := h
  refine ⟨pv, e, ⟨own_keepAll h1.1 (fun b hbb => ?_), h1.2⟩, fun b hb => hS b (h2 b hb)⟩
  obtain ⟨cur, hc⟩ := row_typ h1.1 hbb
  exact hb b cur (h2 b hbb) hc

section
variable {w w' : World} {c : Nat} {m : TM} {S : Nat → Prop} {M : Nat} {ov : Value} {f : KK → Value}

theorem TKs.stay (h : TKs w c m S M ov f) (hb : ∀ b, S b → w'.heap[b]? = w.heap[b]?) (hs : w.heap.size ≤ w'.heap.size) : TKs w' c m S M ov f :=
  ⟨by rw [hb c h.sc]; exact h.blk, h.mp.block (hb M h.sM), ⟨own_keepAll h.ord.1 (fun b hbb => hb b (h.so b hbb)), h.ord.2⟩, fun t ht => (h.px t ht).stay (fun _ x => x) (fun b cur hS _ => hb b hS), h.sc, h.sM, h.so, fun b hS => Nat.lt_of_lt_of_le (h.lt b hS) hs⟩

theorem TKs.ext (h : TKs w c m S M ov f) (he : Ext w w') : TKs w' c m S M ov f :=
  h.stay (fun b hb => by
    have hlt := h.lt b hb
    have := he.heapAt (Array.getElem?_eq_getElem hlt)
    rw [this, Array.getElem?_eq_getElem hlt]) he.size

theorem TKs.keep {X : Nat → Prop} (h : TKs w c m S M ov f) (hk : Keep w w' X) (hX : ∀ b, S b → ¬ X b) : TKs w' c m S M ov f :=
  h.stay (fun b hb => hk.block b (h.lt b hb) (hX b hb)) hk.size

theorem TK.ext (h : TK w c m S) (he : Ext w w') : TK w' c m S := by
  obtain ⟨M, ov, f, h⟩ := h
  exact ⟨M, ov, f, h.ext he⟩
theorem TK.keep {X : Nat → Prop} (h : TK w c m S) (hk : Keep w w' X) (hX : ∀ b, S b → ¬ X b) : TK w' c m S := by
  obtain ⟨M, ov, f, h⟩ := h
  exact ⟨M, ov, f, h.keep hk hX⟩
theorem TK.lt (h : TK w c m S) (b : Nat) (hb : S b) : b < w.heap.size := by
  obtain ⟨M, ov, f, h⟩ := h
  exact h.lt b hb

theorem TKs.cell (h : TKs w c m S M ov f) : w.cell? ⟨c, 0, none⟩ = some (.int .i64 (m.most : Int)) ∧ w.cell? ⟨c, 1, none⟩ = some (.map (some M)) ∧ w.cell? ⟨c, 2, none⟩ = some ov := by
  refine ⟨?_, ?_, ?_⟩ <;> (rw [cell_of_row w c _ _ _ (0, 0) h.blk]; rfl)
theorem TKs.frozen (h : TKs w c m S M ov f) (j : Nat) : w.frozen? ⟨c, j, none⟩ = false := by simp [World.frozen?, h.blk]

theorem TKs.cM (h : TKs w c m S M ov f) : c ≠ M := fun e => by
  obtain ⟨es, clock, h1, _⟩ := h.mp
  have := h.blk
  rw [e, h1] at this
  simp at this
theorem TKs.co (h : TKs w c m S M ov f) : ov.ownBlock ≠ some c := fun e => by
  obtain ⟨cur, hc⟩ := row_typ h.ord.1 e
  rw [h.blk] at hc
  simp only [Option.some.injEq, Obj.cells.injEq] at hc
  exact absurd hc.2.1 (by decide)
theorem TKs.Mo (h : TKs w c m S M ov f) : ov.ownBlock ≠ some M := fun e => by
  obtain ⟨cur, hc⟩ := row_typ h.ord.1 e
  obtain ⟨es, clock, h1, _⟩ := h.mp
  rw [h1] at hc
  simp at hc

theorem del_map (l : List (KK × List Px)) (f : KK → Value) (k : KK) : delK (l.map fun t => (t.1, f t.1)) k = (l.filter (fun t => decide (t.1 ≠ k))).map fun t => (t.1, f t.1) := by
  unfold delK
  rw [List.filter_map]; rfl

/-- what is left behind a key that goes -/
theorem gone_mem {wx w3 w4 : World} {k : KK} {v' : Value} (h : TKs w c m S M ov f) (he : Ext w wx) (hM : MapAt w3 M (delK (m.l.map fun t => (t.1, f t.1)) k)) (hk3 : Keep wx w3 (fun b => b = M))
    (hO : OwnK 23 0 w4 v' (dropK m.keys k)) (hown : v'.ownBlock = ov.ownBlock) (hk4 : Keep w3 w4 (fun b => ov.ownBlock = some b)) :
    w4.cell? ⟨c, 2, none⟩ = some ov ∧ w4.frozen? ⟨c, 2, none⟩ = false ∧ TK (w4.setCell ⟨c, 2, none⟩ v') c (m.gone k) S ∧ Keep w (w4.setCell ⟨c, 2, none⟩ v') S := by
  have hx := h.ext he
  have hs3 := hk3.size
  have hs4 := hk4.size
  have hsx := he.size
  have b4 : ∀ b, S b → b ≠ M → ov.ownBlock ≠ some b → w4.heap[b]? = wx.heap[b]? := fun b hb h1 h2 => by
    rw [hk4.block b (Nat.lt_of_lt_of_le (hx.lt b hb) hs3) h2, hk3.block b (hx.lt b hb) h1]
  have hc4 : w4.heap[c]? = some (.cells #[.int .i64 (m.most : Int), .map (some M), ov] 77 (0, 0)) := by rw [b4 c h.sc h.cM h.co]; exact hx.blk
  have K5 : Keep w4 (w4.setCell ⟨c, 2, none⟩ v') (fun b => b = c) := Keep.setCell
  refine ⟨by rw [cell_of_row w4 c _ _ _ (0, 0) hc4]; rfl, by simp [World.frozen?, hc4], ⟨M, v', f, ⟨?_, ?_, ?_, ?_, h.sc, h.sM, fun b hb => h.so b (hown ▸ hb), ?_⟩⟩, ?_⟩
  · rw [heap_setCell_same w4 c 2 _ 77 v' hc4]; rfl
  · have hM4 : MapAt w4 M (delK (m.l.map fun t => (t.1, f t.1)) k) := hM.block (hk4.block M hM.lt h.Mo)
    have := hM4.block (K5.block M hM4.lt h.cM.symm)
    rw [del_map] at this
    exact this
  · rw [TM.keys_gone]
    exact ⟨own_keepAll hO.1 (fun b hb => K5.block b (hO.1.lt b hb).2 (fun e => h.co (by rw [← hown, hb, e]))), hO.2⟩
  · intro t ht
    refine (hx.px t (List.mem_filter.1 ht).1).stay (fun _ x => x) (fun b cur hb hc => ?_)
    have h1 : b ≠ c := fun e => by
      rw [e, hx.blk] at hc
      simp only [Option.some.injEq, Obj.cells.injEq] at hc
      exact absurd hc.2.1 (by decide)
    have h2 : b ≠ M := fun e => by
      obtain ⟨es, clock, h1, _⟩ := hx.mp
      rw [e, h1] at hc
      simp at hc
    have h3 : ov.ownBlock ≠ some b := fun e => by
      obtain ⟨cur', hc'⟩ := row_typ hx.ord.1 e
      rw [hc] at hc'
      simp only [Option.some.injEq, Obj.cells.injEq] at hc'
      exact absurd hc'.2.1 (by decide)
    rw [K5.block b (Nat.lt_of_lt_of_le (Nat.lt_of_lt_of_le (hx.lt b hb) hs3) hs4) h1, b4 b hb h2 h3]
  · intro b hb
    exact Nat.lt_of_lt_of_le (Nat.lt_of_lt_of_le (Nat.lt_of_lt_of_le (hx.lt b hb) hs3) hs4) K5.size
  · refine (((Keep.ofExt he S).trans (hk3.mono (T := S) (fun b e => by rw [e]; exact h.sM)) (fun _ _ x => x)).trans (hk4.mono (T := S) (fun b e => h.so b e)) (fun _ _ x => x)).trans (K5.mono (T := S) (fun b e => by rw [e]; exact h.sc)) (fun _ _ x => x)
end

set_option maxRecDepth 100000 in
set_option maxHeartbeats 1600000 in
theorem gone_any (c : Nat) (m : TM) (S : Nat → Prop) (k : KK) (w : World) (h : TK w c m S) (hk : inK k) (hlen : m.l.length ≤ 100000) :
    Calls Try.prog 33 #[.pointer (some ⟨c, 0, none⟩), .agg #[.int .i64 k.1, .int .i64 k.2]] w fun e w' => e = .returned (.tuple #[]) ∧ TK w' c (m.gone k) S ∧ Keep w w' S := by
  obtain ⟨M, ov, f, h⟩ := h
  obtain ⟨A0, cap0, rfl⟩ := own_slice h.ord.1
  obtain ⟨N0, hN0⟩ : ∃ N, m.keys.length = N := ⟨_, rfl⟩
  rw [hN0] at h
  obtain ⟨x, y⟩ := k
  have H := Lib.hid h
  obtain ⟨c0, c1, c2⟩ := h.cell
  have fz := fun j => h.frozen j
  have hcl := h.lt c h.sc
  have E1 : Hid (Ext w (w.alloc (.cells #[.int .i64 x, .int .i64 y] 23))) := Lib.hid ((Ext.refl w).alloc _)
  have HK := Lib.hid hk
  have HL : Hid (m.keys.length ≤ 1000000) := Lib.hid (by unfold TM.keys; rw [List.length_map]; omega)
  clear h hk hlen
  go_enter Try.func33, Try.ntmps33
  go_wp2
  refine region_tail 5 (by kernel_rfl) (by kernel_rfl) ?_
  simp only [List.take_succ_cons, List.take_zero, List.drop_succ_cons, List.drop_zero]
  iterate 5 (go_big_quiet_step (fail))
  refine wpQuiet_nil ?_
  intro wx hE
  have EX := Lib.hid (E1.out.trans hE)
  have k0 : wx.cell? ⟨w.heap.size, 0, none⟩ = some (.int .i64 x) := by rw [hE.cell (by simp)]; simp
  have k1 : wx.cell? ⟨w.heap.size, 1, none⟩ = some (.int .i64 y) := by rw [hE.cell (by simp)]; simp
  have ks : w.heap.size < wx.heap.size := Nat.lt_of_lt_of_le (by simp) hE.size
  obtain ⟨w3, hd, hM3, hK3⟩ := run_del (t := 75) (K := 23) (E := 47) 0 mapK_Key Try.underlying75 (H.out.ext EX.out).mp (x, y) HK.out
  simp only [keyV] at hd
  have HM3 := Lib.hid (And.intro hM3 hK3)
  have hMG : M ≠ w.heap.size := fun e => by have := H.out.lt M H.out.sM; omega
  have GG : Hid (w3.cell? ⟨w.heap.size, 0, none⟩ = some (.int .i64 x) ∧ w3.cell? ⟨w.heap.size, 1, none⟩ = some (.int .i64 y) ∧ w.heap.size < w3.heap.size) := Lib.hid
    ⟨by rw [hK3.cell ks (Ne.symm hMG)]; exact k0, by rw [hK3.cell ks (Ne.symm hMG)]; exact k1, Nat.lt_of_lt_of_le ks hK3.size⟩
  have H3o : Hid (OwnK 23 0 w3 (.slice A0 N0 cap0) m.keys) := Lib.hid ⟨own_keepAll (H.out.ext EX.out).ord.1 (fun b hb => hK3.block b (H.out.ext EX.out |>.lt b (H.out.so b hb)) (fun e => H.out.Mo (by rw [hb, e]))), H.out.ord.2⟩
  have c2' : w3.cell? ⟨c, 2, none⟩ = some (.slice A0 N0 cap0) := by rw [hK3.cell (Nat.lt_of_lt_of_le hcl EX.out.size) H.out.cM, EX.out.cell hcl]; exact c2
  have DL := Lib.hid (delete_any (.slice A0 N0 cap0) m.keys (x, y) 0 w.heap.size w3 H3o.out GG.out.1 GG.out.2.1 GG.out.2.2 (fun e => by have := H.out.lt _ (H.out.so _ e); omega) HL.out)
  clear hM3 hK3 k0 k1 ks hE
  go_wp2_with fail
  refine DL.out.mono ?_
  rintro e w4 ⟨v', rfl, hO4, hown4, hK4⟩
  obtain ⟨A4, cap4, rfl⟩ := own_slice hO4.1
  obtain ⟨p1, p2, p3, p4⟩ := gone_mem H.out EX.out HM3.out.1 HM3.out.2 hO4 hown4 hK4
  have PP := Lib.hid (And.intro p3 p4)
  clear p3 p4 hO4 hown4 hK4 c2' c0 c1 c2 hd
  go_wp2
  refine bodyPost_end (results_none rfl _ _ _) rfl ?_
  exact ⟨rfl, PP.out⟩

end Go.Proofs.Ytblfplkocljlgaa
