/- 'PathtextParses' returns true for every input, and leaves what it was given as it was. The listed variables read as the program's own text lays them (the card ties it). -/
import Derived.Test.YtakebbphielbfaaDoorCards
import Derived.Test.YtakebbphielbfaaDoorTie
import Derived.WalkKit
import Derived.ProofKit
import Derived.OpenShut
import Derived.Deep.DeepHandedRow
import Derived.Lib.LaidTab
import Derived.Stop.LaidErr
import Derived.Shelf.Vars
import Derived.ChangeMaps5
import Derived.Lay
import Derived.Test.YtakebbphielbfaaDoorOpen
import Derived.Test.YtakebbphielbfaaDoorQPw
set_option linter.unusedVariables false
set_option linter.unusedSimpArgs false
namespace Go.Proofs.YtakebbphielbfaaDoor.PathtextParsesRow
open Go Go.ChangeMaps Go.ChangeShapes Go.WideShapes Go.ChangeAt Go.RowKit
theorem own : ownKnob Tryd.prog.godebug = none := by kernel_rfl
theorem laidOut : laidOutB Tryd.prog = true := by kernel_rfl
/-- A WORLD FOR THE WITNESS: the settled one, each listed table holding what its initialiser lays. -/
noncomputable def laidWorld (os : Os) : World := World.laidAll Tryd.prog os Rows.pathtextParsesRow.laid
theorem shaped (os : Os) : ((laidWorld os).forCall (fun _ _ => 0) ⟨#[], #[.string ⟨#[]⟩], []⟩).Shaped Tryd.prog := World.shaped_of_ZipB (by kernel_rfl) (by kernel_rfl)
theorem witness_row_shaped {H : Type} {enc : TypeId × Value → H} {C : Checked} {os : Os} {f : FuncId} {fn : Func} {s : OpenSpec} {conds : List PathCond} {apart : Bool} {laid : List (String × DataW Unit)} (modest : Bool) (w0 : World) (args : Array Value) (hos : w0.os = os)
    (hsh : (w0.forCall (fun _ _ => 0) ⟨#[], args, []⟩).Shaped C.prog)
    (hok : Input.okWideB C.prog (w0.forCall (fun _ _ => 0) ⟨#[], args, []⟩) f ⟨#[], args, []⟩ = true)
    (hrow : s.preRow enc C.prog fn conds apart laid (w0.forCall (fun _ _ => 0) ⟨#[], args, []⟩).memory args) :
    ∃ (w : World) (tape : Tape) (i : Input), w.os = os ∧ (w.forCall tape i).Shaped C.prog ∧ i.vars = [] ∧ Input.okWide C.prog (w.forCall tape i) .any w.heap.size f i ∧
      s.preRow enc C.prog fn conds apart laid (w.forCall tape i).memory i.args ∧ ({ modest := modest } : Assume).holds C.prog (lone (Frame.enter C.prog f i.args .normal) [] (w.forCall tape i)) :=
  ⟨w0, fun _ _ => 0, ⟨#[], args, []⟩, hos, hsh, (Input.okWide_of_okWideB (base := 0) hok).1, (Input.okWide_of_okWideB hok).2, hrow, by
    simp only [Assume.holds]
    exact ⟨by simp, by simp, fun _ => Modest.zero, by simp, by simp⟩⟩
set_option maxRecDepth 100000 in
theorem laid_met (os : Os) : laidMet Tryd.prog Rows.pathtextParsesRow.laid ((laidWorld os).forCall (fun _ _ => 0) ⟨#[], #[.string ⟨#[]⟩], []⟩).memory :=
  laidMet_laidAll _ (by kernel_rfl) (by kernel_rfl)
set_option maxRecDepth 100000 in
theorem reads (os : Os) {H : Type} (enc : TypeId × Value → H) : ∃ places, DataW.whole enc Tryd.prog ((laidWorld os).forCall (fun _ _ => 0) ⟨#[], #[.string ⟨#[]⟩], []⟩).memory Tryd.f5.params.toList Rows.pathtextParsesSpec.vars false #[Value.string ⟨#[]⟩].toList 8 = some ([.lit (.string [])], [], places) :=
  ⟨[], by kernel_rfl⟩
theorem gTab : Tryd.prog.globalNamed "internal/strconv.uint64pow10" = some 2 := by kernel_rfl
theorem gTabT : (Tryd.prog.globals[2]?).map (·.type) = some 113 := by kernel_rfl
theorem gTabC : Tryd.prog.cellsOf 113 = 20 := by kernel_rfl
theorem gTabE : Tryd.prog.cellsOf 96 = 1 := by kernel_rfl
theorem gNd : Tryd.prog.globalNamed "limner/path.needs" = some 0 := by kernel_rfl
theorem gNdT : (Tryd.prog.globals[0]?).map (·.type) = some 64 := by kernel_rfl
theorem gNdC : Tryd.prog.cellsOf 64 = 6 := by kernel_rfl
theorem gNdE : Tryd.prog.cellsOf 3 = 1 := by kernel_rfl
theorem gSyn : Tryd.prog.globalNamed "strconv.ErrSyntax" = some 8 := by kernel_rfl
theorem gSynT : (Tryd.prog.globals[8]?).map (·.type) = some 71 := by kernel_rfl
theorem gRng : Tryd.prog.globalNamed "strconv.ErrRange" = some 9 := by kernel_rfl
theorem gRngT : (Tryd.prog.globals[9]?).map (·.type) = some 71 := by kernel_rfl
theorem cES : Tryd.prog.cellsOf 153 = 1 := by kernel_rfl
theorem cST : Tryd.prog.cellsOf 9 = 1 := by kernel_rfl
theorem star : "*" ++ "errors.errorString" = "*errors.errorString" := by decide
theorem rowPE (u : TypeId) (h : Tryd.prog.typeName? 3 u = some "*errors.errorString") : u = 151 :=
  typeName_ptr_named (nm := "errors.errorString") (by rw [star]; kernel_rfl) (by kernel_rfl) (by decide) u (by rw [star]; exact h)
theorem iv_of {W : World} (h : laidMetH Tryd.prog Rows.pathtextParsesRow.laid W) (hsh : W.ShapedOpen Tryd.prog) : IV W := by
  have h0 : laidMet Tryd.prog Rows.pathtextParsesRow.laid W := h
  have h3 : laidMet Tryd.prog (Rows.pathtextParsesRow.laid.drop 2) W := h0.tail.tail
  have h4 : laidMet Tryd.prog (Rows.pathtextParsesRow.laid.drop 4) W := h3.tail.tail
  have h5 : laidMet Tryd.prog (Rows.pathtextParsesRow.laid.drop 5) W := h4.tail
  have h6 : laidMet Tryd.prog (Rows.pathtextParsesRow.laid.drop 6) W := h5.tail
  have t : Lib.TabIs Tryd.prog W "internal/strconv.uint64pow10" .u64 Lib.pow10Tab :=
    Lib.tabIs_of_head gTab gTabT Tryd.underlying113 Tryd.underlying96 gTabE gTabC h3
  have tn : Lib.TabIs Tryd.prog W "limner/path.needs" .i64 [0, 1, 1, 2, 3, 0] :=
    Lib.tabIs_of_head gNd gNdT Tryd.underlying64 Tryd.underlying3 gNdE gNdC h6
  obtain ⟨a2, s2, v2, -, -, -⟩ := laid_sentinel h4 gRng gRngT Tryd.underlying71 rowPE Tryd.underlying151 Tryd.underlying153 rfl rfl Tryd.underlying9 cES cST
  obtain ⟨a1, s1, v1, -, -, -⟩ := laid_sentinel h5 gSyn gSynT Tryd.underlying71 rowPE Tryd.underlying151 Tryd.underlying153 rfl rfl Tryd.underlying9 cES cST
  have e1 : W.cell? ⟨8, 0, none⟩ = some (.iface 151 (.pointer (some a1))) := by simpa using World.var?_cell gSyn v1 0
  have e2 : W.cell? ⟨9, 0, none⟩ = some (.iface 151 (.pointer (some a2))) := by simpa using World.var?_cell gRng v2 0
  refine ⟨t, cell_of_shapedOpen_int (zero := #[.int .i64 0]) (t := 3) hsh (of_decide_eq_true (by kernel_rfl)) (by kernel_rfl) rfl (by kernel_rfl) (by kernel_rfl) Tryd.underlying3, ⟨_, e1, .inr ⟨_, _, rfl⟩⟩, ⟨_, e2, .inr ⟨_, _, rfl⟩⟩, ?_, fun j hj => tn.cell gNd j (by simpa using hj)⟩
  rcases Nat.lt_or_ge 9 W.heap.size with h' | h'
  · exact h'
  · simp [World.cell?, Array.getElem?_eq_none h'] at e2
set_option maxHeartbeats 1000000 in
set_option maxRecDepth 100000 in
theorem lifted (os : Os) (started : os.Started) (H : Type) (enc : TypeId × Value → H) (F : Stop.Interp) :
    ReturnsInHanded {} Tryd.checked os 5 .any ((OpenSpec.ofChange Rows.pathtextParsesSpec).preRow enc Tryd.prog Tryd.f5 Rows.pathtextParsesRow.domain false Rows.pathtextParsesRow.laid) (((OpenSpec.ofChange Rows.pathtextParsesSpec).at F).post enc Tryd.prog Tryd.f5 false true false false) := by
  obtain ⟨places, hx⟩ := reads os enc
  refine returnsInHanded_of_row (C := Tryd.checked) (s := OpenSpec.ofChange Rows.pathtextParsesSpec) own started (by kernel_rfl) Tryd.func5
    (witness_row_shaped (enc := enc) (C := Tryd.checked) false (laidWorld os) #[.string ⟨#[]⟩] (World.laidAll_os _ _ _) (shaped os) (by kernel_rfl)
      (OpenSpec.preRow_of_cond 8 hx (by kernel_rfl) (fun k hk => by cases hk) (by kernel_rfl) (laid_met os))) ?_
  intro W base args ds gs before hval0 hW _ _ _ hL hsh _
  have hval : ∀ (j : Nat) t v, Tryd.f5.params[j]? = some t → args[j]? = some v → Value.okWide Tryd.prog W .any base t v := hval0
  have hW' := hW
  obtain ⟨p, q, hA0, hV, rfl, hfz, hnd⟩ := hW
  have hA : DataW.TrodAll enc Tryd.prog W 0 (fun _ => true) true Tryd.f5.params.toList args.toList ds p := hA0
  rw [Tryd.params5] at hA hval
  obtain ⟨v0, vs0, d0, ds0, p0, q0, hargs, rfl, rfl, h0, r0⟩ := trodAll_cons hA
  obtain ⟨rfl, rfl, rfl⟩ := trodAll_nil r0
  obtain rfl : args = #[v0] := by cases args; simp_all
  obtain ⟨rfl, rfl⟩ := trodVars_none hV
  have k0 := h0
  have lt0 : ∀ x ∈ p0, x.block < W.heap.size := by obtain ⟨m, hm⟩ := k0; exact DataW.trod_lt m _ _ _ hm
  obtain ⟨a0, rfl, _, _, _⟩ := open_string Tryd.underlying9 (hval 0 9 v0 rfl rfl) h0
  clear hA0 hval0
  refine (PathtextParses_walk a0 W (iv_of hL hsh)).mono fun e W' ⟨he, bel0⟩ => ?_
  have bel := below_of_ext bel0
  subst he
  exact ⟨_, rfl, _, _, _, [], _, [], hW', trodAll_mk1 (shut_bool Tryd.underlying4 _), (trodAll_cons_mk (Below.trod laidOut (by kernel_rfl) (of_decide_eq_true (by kernel_rfl)) k0 bel lt0) trodAll_mk0), rfl, bel.frame _, fun h => by cases h⟩

theorem said : Rows.PathtextParsesSaid :=
  OpenClaim.holds_of_cond 5 Tryd.f5 rfl rfl rfl rfl rfl rfl rfl ⟨rfl, rfl, rfl, rfl, rfl⟩ rfl rfl rfl rfl rfl (by kernel_rfl) Tryd.func5 (by kernel_rfl)
    (of_decide_eq_true (by kernel_rfl)) (by unfold Func.isWrapper; first | (rw [if_pos (by decide +kernel)]; kernel_rfl) | (rw [if_neg (by decide +kernel)]; exact ⟨rfl, rfl⟩))
    (fun os started H enc _ F => by rw [OpenClaim.pre_eq_preRow]; exact lifted os started H enc F)
theorem plain (f : FuncId) (fn : Func) (hf : Tryd.pinned.checked.prog.funcNamed "limner/limnerlaw15.PathtextParses" = some f) (hfn : Tryd.pinned.checked.prog.funcs[f]? = some fn) :
    true = Tryd.pinned.checked.prog.looks [] ∧ ∀ (j : Nat) t, fn.params[j]? = some t → Tryd.pinned.checked.prog.wantsStandIn t = false := by
  obtain rfl : f = 5 := Option.some.inj ((show Tryd.prog.funcNamed "limner/limnerlaw15.PathtextParses" = some 5 by kernel_rfl).symm.trans hf) |>.symm
  obtain rfl : fn = Tryd.f5 := (Option.some.inj (Tryd.func5.symm.trans hfn)).symm
  refine ⟨by kernel_rfl, fun j t ht => ?_⟩
  rw [Tryd.params5] at ht
  have hm : t ∈ [9] := by simpa using Array.mem_of_getElem? ht
  have hall : ∀ t ∈ [9], Tryd.prog.wantsStandIn t = false := by
    intro t ht
    simp only [List.mem_cons, List.not_mem_nil, or_false] at ht
    obtain rfl := ht; kernel_rfl
  exact hall t hm
end Go.Proofs.YtakebbphielbfaaDoor.PathtextParsesRow
namespace Go.Proofs.YtakebbphielbfaaDoor
theorem PathtextParses_card : Rows.PathtextParsesCardSaid :=
  Claim7.holds_tied_plain_at .later [] _ _ _ _ PathtextParsesRow.said (fun _ h => by cases h) (by kernel_rfl) (fun _ h => by cases h) pathtextParses_row_tie rfl ⟨rfl, rfl⟩ (by kernel_rfl) rfl PathtextParsesRow.plain (by kernel_rfl)
#print axioms PathtextParses_card
end Go.Proofs.YtakebbphielbfaaDoor
