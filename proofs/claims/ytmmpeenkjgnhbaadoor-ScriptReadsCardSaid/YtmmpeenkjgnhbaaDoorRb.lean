/- The listed table as the logic's data; what each row takes from its walk. No condition of its own. -/
import Derived.Test.YtmmpeenkjgnhbaaDoorRa
import Derived.Test.YtmmpeenkjgnhbaaDoorFa
import Derived.Lib.LaidU8
import Derived.Test.YtmmpeenkjgnhbaaDoorCards
import Derived.Test.YtmmpeenkjgnhbaaDoorTie
/-! The listed table, as the logic's. -/
namespace Go.PL
set_option linter.unusedSimpArgs false
set_option linter.unusedVariables false
set_option linter.unusedSectionVars false
open Tys (Ty U)
open Enc (sz enc dflt tb ofB toB)
open Dec (dec dok)
set_option maxRecDepth 100000
open Go.Proofs
theorem gi_tab {W : World} (h : W.ShapedOpen Tryd.prog) (ht : Lib.TabIs Tryd.prog W "internal/strconv.uint64pow10" .u64 Lib.pow10Tab) : ∃ m : Int, (letI : GM := ⟨m, true⟩; GI cx noNames W (ZW W)) := by
  obtain ⟨m, hg0⟩ := gi_some h
  refine ⟨m, fun g ds hg => ?_⟩
  match g, hg with
  | 0, hg => exact hg0 0 ds hg
  | 1, hg =>
    cases hg
    have hn : Tryd.prog.globalNamed "internal/strconv.uint64pow10" = some 1 := by kernel_rfl
    obtain ⟨cs, hb, hs, _⟩ := h.1 1 (Array.replicate 20 (.int .u64 0)) 110 (of_decide_eq_true (by kernel_rfl)) (by kernel_rfl)
    have hcs : cs = (Lib.pow10Tab.map fun z => Value.int .u64 z).toArray := by
      unfold Lib.TabIs World.var? at ht
      rw [hn] at ht
      simp only [Option.bind_some, hb] at ht
      exact Option.some.inj ht
    have hlt : 1 < W.heap.size := by
      rcases Nat.lt_or_ge 1 W.heap.size with h1 | h1
      · exact h1
      · rw [Array.getElem?_eq_none h1] at hb; cases hb
    refine ⟨RP.ip _ 1 0 (fun i => .int .u64 (Lib.pow10Tab.getD i 0)) fun i d hd => ?_, 110, ?_⟩
    · rw [List.getElem?_map] at hd
      obtain ⟨z, hz, rfl⟩ := Option.map_eq_some_iff.1 hd
      have hi : i < Lib.pow10Tab.length := (List.getElem?_eq_some_iff.1 hz).1
      have hc := ht.cell hn i hi
      rw [Nat.zero_add]
      refine ⟨hc, hlt, ?_⟩
      rw [show Lib.pow10Tab.getD i 0 = z by simp [List.getD, hz]]
      exact .v _
    · simp only [World.shape?, hb]
      rw [hcs]
      simp
  | g + 2, hg => simp [cx, gtS] at hg
theorem tab_read {W : World} (h : Lib.VarReads Tryd.prog W "internal/strconv.uint64pow10" (Lib.tabData .u64 Lib.pow10Tab)) : Lib.TabIs Tryd.prog W "internal/strconv.uint64pow10" .u64 Lib.pow10Tab := by
  obtain ⟨g, t, cs, fuel, p, h1, h2, h3, h4⟩ := h
  have hn : Tryd.prog.globalNamed "internal/strconv.uint64pow10" = some 1 := by kernel_rfl
  obtain rfl := Option.some.inj (hn.symm.trans h1)
  have hy : (Tryd.prog.globals[1]?).map (·.type) = some 110 := by kernel_rfl
  obtain rfl := Option.some.inj (hy.symm.trans h2)
  unfold Lib.TabIs
  rw [h3, ← Lib.cells_of_tab (n := 20) (e := 99) (by kernel_rfl) (by kernel_rfl) (by kernel_rfl) (by kernel_rfl) h4]
theorem deed_read2 {H : Type} {enc0 : TypeId × Value → H} {W : World} {spare : Nat → Bool} {held : Bool} {n : Nat} {cs : List Value} {x : DataW H × List MemPlace} (h : DataW.trod enc0 Tryd.prog W 0 spare held n 42 cs = some x) : ∃ u : Deed, RP noNames W (ZW W) (.agg cs.toArray) (deedPV u) := by
  obtain ⟨xs, n', _, _, hl, hxs, hf⟩ := DataW.trod_struct Tryd.underlying42 h
  rw [co42] at hl
  match cs, hl with
  | [a, b, c], _ =>
    obtain ⟨x0, h0⟩ := field_at hxs hf (i := 0) rfl
    obtain ⟨x1, h1⟩ := field_at hxs hf (i := 1) rfl
    obtain ⟨x2, h2⟩ := field_at hxs hf (i := 2) rfl
    replace h0 : DataW.trod enc0 Tryd.prog W 0 spare held n' 3 (([a, b, c].drop 0).take (Tryd.prog.cellsOf 3)) = some x0 := h0
    rw [co3] at h0
    replace h1 : DataW.trod enc0 Tryd.prog W 0 spare held n' 39 (([a, b, c].drop 1).take (Tryd.prog.cellsOf 39)) = some x1 := h1
    rw [co39] at h1
    replace h2 : DataW.trod enc0 Tryd.prog W 0 spare held n' 40 (([a, b, c].drop 2).take (Tryd.prog.cellsOf 40)) = some x2 := h2
    rw [co40] at h2
    obtain ⟨k, hk, _⟩ := DataW.trod_int Tryd.underlying3 h0
    obtain ⟨v1, l1, e1, r1⟩ := ints_read h1
    obtain ⟨v2, l2, e2, r2⟩ := strs_read h2
    cases hk; cases e1; cases e2
    refine ⟨⟨k, l1, l2⟩, RP.ag _ _ rfl fun i v p hv hp => ?_⟩
    match i, hv, hp with
    | 0, hv, hp => cases hv; cases hp; exact RP.ofVal ..
    | 1, hv, hp => cases hv; cases hp; exact .d _ _ r1
    | 2, hv, hp => cases hv; cases hp; exact .d _ _ r2
    | i + 3, hv, hp => simp at hv
end Go.PL
/-! What each row takes from its walk. -/
namespace Go.Proofs.YtmmpeenkjgnhbaaDoor.Rs
set_option linter.unusedSimpArgs false
set_option linter.unusedVariables false
set_option linter.unusedSectionVars false
open Go.PL Go.Proofs Go.ChangeShapes Go.WideShapes Go.RowKit
set_option maxRecDepth 100000
theorem own : ownKnob Tryd.prog.godebug = none := by kernel_rfl
theorem laidOut : laidOutB Tryd.prog = true := by kernel_rfl
theorem returns_sx {H : Type} {enc : TypeId × Value → H} {a : Assume} {C : Checked} {os : Os} {f : FuncId} {fn : Func} {s : ChangeSpec} {conds : List PathCond} {apart fresh handsOn again : Bool} {X : World → Array Value → Prop}
    (hX : ∀ (w w' : World) (args : Array Value), w.heap = w'.heap → X w args → X w' args)
    (own : ownKnob C.prog.godebug = none) (started : os.Started) (noInit : C.prog.inits.idxOf? f = none) (hfn : C.prog.funcs[f]? = some fn)
    (witness : ∃ (w : World) (tape : Tape) (i : Input), w.os = os ∧ (w.forCall tape i).Shaped C.prog ∧ i.vars = [] ∧ Input.okWide C.prog (w.forCall tape i) .any w.heap.size f i ∧
      ((s.pre enc C.prog fn conds apart (w.forCall tape i).memory i.args ∧ X (w.forCall tape i).memory i.args) ∧ sizedMet enc C.prog fn (OpenSpec.ofChange s) apart (w.forCall tape i).memory i.args) ∧ a.holds C.prog (lone (Frame.enter C.prog f i.args .normal) [] (w.forCall tape i)))
    (contract : ∀ (W : World) (base : Nat) (args : Array Value) (ds gs : List (DataW H)) (before : List MemPlace),
      (∀ (j : Nat) t v, fn.params[j]? = some t → args[j]? = some v → Value.okWide C.prog W .any base t v) →
      DataW.Whole enc C.prog fn.params.toList s.vars apart W args.toList ds gs before →
      X W args → W.ShapedOpen C.prog →
      Calls C.prog f args W fun e W' => ∃ v, e = .returned v ∧ s.post enc C.prog fn apart fresh handsOn again W args v W') :
    ReturnsInHanded a C os f .any (fun w args => (s.pre enc C.prog fn conds apart w args ∧ X w args) ∧ sizedMet enc C.prog fn (OpenSpec.ofChange s) apart w args) (s.post enc C.prog fn apart fresh handsOn again) := by
  refine returnsInHanded_of_calls own started noInit witness ?_
  intro w tape i _ hsh _ hok hpre hholds
  obtain ⟨_, _, _, fn', hfn', _, _, _, _, hval⟩ := hok
  have e : fn' = fn := Option.some.inj (hfn'.symm.trans hfn)
  subst e
  obtain ⟨⟨⟨ds, gs, before, hw, hc⟩, hx⟩, hz⟩ := hpre
  have hw' := DataW.Whole.of_heap (w' := w.forCall tape i) (by rfl) hw
  refine (contract (w.forCall tape i) w.heap.size i.args ds gs before hval hw' (hX _ _ _ (by rfl) hx) hsh).mono fun e W' ⟨v, he, hp⟩ => ?_
  subst he
  exact ChangeSpec.post_blind hp
/-- what a reading met is as it was -/
theorem same_at {W W' : World} (hb : ∀ b, b < W.heap.size → W'.heap[b]? = W.heap[b]?) {x : MemPlace} (hx : x.block < W.heap.size) : W.sameAt W' x := by
  cases x with
  | cell b o => simp only [World.sameAt, World.cell?, hb b hx]
  | map b => exact hb b hx
theorem kept {W W' : World} (h1 : W'.os = W.os) (h2 : W'.output = W.output) (hb : ∀ b, b < W.heap.size → W'.heap[b]? = W.heap[b]?) (may : MemPlace → Prop) : W.keptBut W' may := by
  refine ⟨h1, h2, fun i hi => ?_⟩
  rw [hb i hi]
  split <;> simp_all
end Go.Proofs.YtmmpeenkjgnhbaaDoor.Rs
