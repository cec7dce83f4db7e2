/- ScriptLines: for every plan and deed the law returns true and changes nothing: the lines of a plan with one more deed. Conditions: none but the row's own (the listed tables hold what the program's text lays). -/
import Derived.Test.YtmmpeenkjgnhbaaDoorRb
import Derived.Test.YtmmpeenkjgnhbaaDoorFc
/-! ScriptLines: the row and its card. -/
namespace Go.Proofs.YtmmpeenkjgnhbaaDoor
set_option linter.unusedSimpArgs false
set_option linter.unusedVariables false
set_option linter.unusedSectionVars false
open Go.PL Go.Proofs Go.ChangeShapes Go.WideShapes Go.RowKit Rs
set_option maxRecDepth 100000
theorem scriptLines_lifted (os : Os) (started : os.Started) (H : Type) (enc : TypeId × Value → H) :
    ReturnsInHanded {} Tryd.checked os 6 .any (fun w args => (Rows.scriptLinesSpec.pre enc Tryd.prog Tryd.f6 [] false w args ∧ laidMetH Tryd.prog Rows.scriptLinesRow.laid w) ∧ sizedMet enc Tryd.prog Tryd.f6 (OpenSpec.ofChange Rows.scriptLinesSpec) false w args)
      (Rows.scriptLinesSpec.post enc Tryd.prog Tryd.f6 false true false false) := by
  refine returns_sx (C := Tryd.checked) (X := fun w _ => laidMetH Tryd.prog Rows.scriptLinesRow.laid w) (fun _ _ _ hh h => h.of_heap hh) own started (by kernel_rfl) Tryd.func6
    (ChangeSpec.witness_shaped (enc := enc) (C := Tryd.checked) (os := os) (X := fun w _ => laidMetH Tryd.prog Rows.scriptLinesRow.laid w) false (World.laidAll Tryd.prog os Rows.scriptLinesRow.laid) #[.agg #[.int .i64 0, .string .empty, .string .empty, .slice none 0 0], .agg #[.int .i64 0, .slice none 0 0, .slice none 0 0]] 8 (World.laidAll_os _ _ _)
      (World.shaped_of_ZipB (by kernel_rfl) (by kernel_rfl)) (by kernel_rfl) (by kernel_rfl) (by kernel_rfl)
      (by rw [MakeChecks.laidMetH_plain _ _ _ (by kernel_rfl)]; exact laidMet_laidAll _ (by kernel_rfl) (by kernel_rfl))) ?_
  intro W base args ds gs before hval0 hW hL hsh
  have hval : ∀ (j : Nat) t v, Tryd.f6.params[j]? = some t → args[j]? = some v → Value.okWide Tryd.prog W .any base t v := hval0
  have hW' := hW
  obtain ⟨p, q, hA0, hV, rfl, _, _⟩ := hW
  have hA : DataW.TrodAll enc Tryd.prog W 0 (fun _ => true) true Tryd.f6.params.toList args.toList ds p := hA0
  rw [Tryd.params6] at hA hval
  rw [MakeChecks.laidMetH_plain _ _ _ (by kernel_rfl)] at hL
  obtain ⟨m, hg⟩ := gi_tab hsh (tab_read (Lib.laidMet.reads hL (n := "internal/strconv.uint64pow10") (d := Rows.laid_internal_strconv_uint64pow10) (.tail _ (.tail _ (.head _)))))
  letI : GM := ⟨m, true⟩
  obtain ⟨v0, v1, d0, d1, p0, p1, rfl, rfl, rfl, h0, h1⟩ := trodAll_two hA
  obtain ⟨rfl, rfl⟩ := trodVars_none hV
  have h0k := h0
  have h1k := h1
  obtain ⟨cs, rfl, _⟩ := okWide_struct Tryd.underlying24 (hval 0 24 v0 rfl rfl)
  obtain ⟨fuel, hf⟩ := h0
  obtain ⟨pl, hp⟩ := plan_read hf
  have hcs : (Value.agg cs).cells.toList.toArray = cs := by simp [Value.cells]
  rw [hcs] at hp
  obtain ⟨cs1, rfl, _⟩ := okWide_struct Tryd.underlying42 (hval 1 42 v1 rfl rfl)
  obtain ⟨fuel1, hf1⟩ := h1
  obtain ⟨de, hp1⟩ := deed_read2 hf1
  have hcs1 : (Value.agg cs1).cells.toList.toArray = cs1 := by simp [Value.cells]
  rw [hcs1] at hp1
  refine (law_run (lines_ok rfl pl de) Tryd.call6 (vals := [.agg cs, .agg cs1]) ⟨rfl, fun i v p hv hp' => ?_⟩ hg).mono fun e W' ⟨he, ho1, ho2, hb⟩ => ?_
  · match i, hv, hp' with
    | 0, hv, hp' => cases hv; cases hp'; exact hp
    | 1, hv, hp' => cases hv; cases hp'; exact hp1
    | i + 2, hv, hp' => simp at hv
  · subst he
    have hlt : ∀ x ∈ p0 ++ p1, x.block < W.heap.size := fun x hx => hW'.lt x (by simpa using hx)
    exact ⟨_, rfl, _, _, _, [], _, [], hW', trodAll_mk1 (shut_bool Tryd.underlying4 true),
      trodAll_mk2 (WideElems.Trod_stays laidOut (by kernel_rfl) (of_decide_eq_true (by kernel_rfl)) h0k (fun x hx => same_at hb (hlt x (by simp [hx]))) (fun x hx => by simpa using hlt x (by simp [hx])))
        (WideElems.Trod_stays laidOut (by kernel_rfl) (of_decide_eq_true (by kernel_rfl)) h1k (fun x hx => same_at hb (hlt x (by simp [hx]))) (fun x hx => by simpa using hlt x (by simp [hx]))),
      rfl, kept ho1 ho2 hb _, fun h => by cases h⟩
theorem scriptLines_holds : Rows.ScriptLinesSaid :=
  OpenClaim.holds_of_wide 6 Tryd.f6 rfl rfl rfl rfl rfl rfl rfl ⟨rfl, rfl, rfl, rfl, rfl⟩ rfl rfl rfl rfl rfl (by kernel_rfl) Tryd.func6 (by kernel_rfl)
    (of_decide_eq_true (by kernel_rfl)) (by unfold Func.isWrapper; first | (rw [if_pos (by decide +kernel)]; kernel_rfl) | (rw [if_neg (by decide +kernel)]; exact ⟨rfl, rfl⟩))
    (fun os started H enc _ => scriptLines_lifted os started H enc)
theorem scriptLines_card : Rows.ScriptLinesCardSaid :=
  Claim7.holds_tied_plain_at .later [] [.data, .data, .data, .data, .pinned] true (true, "ac0c6183ecee5956a342b4660fa0e139159528e6b7af212ba0ea6b1155d1db80") false scriptLines_holds (fun _ h => by cases h) (by kernel_rfl) (fun _ h => by cases h) scriptLines_row_tie rfl ⟨rfl, rfl⟩ (by kernel_rfl) rfl
    (fun f fn hf hfn => by
      obtain rfl : f = 6 := Option.some.inj ((show Tryd.prog.funcNamed "transhipment/transhipmentlaw21.ScriptLines" = some 6 by kernel_rfl).symm.trans hf) |>.symm
      obtain rfl : fn = Tryd.f6 := (Option.some.inj (Tryd.func6.symm.trans hfn)).symm
      exact ⟨by kernel_rfl, fun j t ht => by
        rw [Tryd.params6] at ht
        have hm : t ∈ [24, 42] := by simpa using Array.mem_of_getElem? ht
        have hall : ([24, 42].all fun u => !Tryd.prog.wantsStandIn u) = true := by kernel_rfl
        exact (show Tryd.prog.wantsStandIn t = false by simpa using List.all_eq_true.1 hall t hm)⟩)
    (by kernel_rfl)
#print axioms scriptLines_card
end Go.Proofs.YtmmpeenkjgnhbaaDoor
