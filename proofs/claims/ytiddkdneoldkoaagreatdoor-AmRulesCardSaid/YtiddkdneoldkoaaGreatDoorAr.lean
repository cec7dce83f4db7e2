/- Texts of this claim: plain laws of what the program's functions compute. No condition of their own. -/
import Derived.Test.YtiddkdneoldkoaaGreatDoorRa
import Derived.Test.YtiddkdneoldkoaaGreatDoorFc
import Derived.Test.YtiddkdneoldkoaaGreatDoorWc
namespace Go.Proofs.YtiddkdneoldkoaaGreatDoor
set_option linter.unusedSimpArgs false
set_option linter.unusedVariables false
set_option linter.unusedSectionVars false
open Go Go.PL Go.Proofs Go.ChangeShapes Go.WideShapes Go.RowKit Rs
set_option maxRecDepth 100000
theorem amRules_lifted (os : Os) (started : os.Started) (H : Type) (enc : TypeId × Value → H) :
    ReturnsInHanded {} Tryz.checked os 11 .any (fun w args => (Rows.amRulesSpec.pre enc Tryz.prog Tryz.f11 [] false w args ∧ laidMetH Tryz.prog Rows.amRulesRow.laid w) ∧ sizedMet enc Tryz.prog Tryz.f11 (OpenSpec.ofChange Rows.amRulesSpec) false w args)
      (Rows.amRulesSpec.post enc Tryz.prog Tryz.f11 false true false false) := by
  refine returns_sx (C := Tryz.checked) (X := fun w _ => laidMetH Tryz.prog Rows.amRulesRow.laid w) (fun _ _ _ hh h => h.of_heap hh) own started (by kernel_rfl) Tryz.func11
    (ChangeSpec.witness_shaped (enc := enc) (C := Tryz.checked) (os := os) (X := fun w _ => laidMetH Tryz.prog Rows.amRulesRow.laid w) false (World.laidAll Tryz.prog os Rows.amRulesRow.laid) #[.agg #[.slice none 0 0, .string .empty, .slice none 0 0, .slice none 0 0, .int .i64 0, .int .i64 0, .int .i64 0, .slice none 0 0, .bool false, .slice none 0 0, .slice none 0 0, .slice none 0 0, .slice none 0 0], .slice none 0 0] 8 (World.laidAll_os _ _ _)
      (World.shaped_of_ZipB (by kernel_rfl) (by kernel_rfl)) (by kernel_rfl) (by kernel_rfl) (by kernel_rfl)
      (by rw [MakeChecks.laidMetH_plain _ _ _ (by kernel_rfl)]; exact laidMet_laidAll _ (by kernel_rfl) (by kernel_rfl))) ?_
  intro W base args ds gs before hval0 hW hL hsh
  have hval : ∀ (j : Nat) t v, Tryz.f11.params[j]? = some t → args[j]? = some v → Value.okWide Tryz.prog W .any base t v := hval0
  have hW' := hW
  obtain ⟨p, q, hA0, hV, rfl, _, _⟩ := hW
  have hA : DataW.TrodAll enc Tryz.prog W 0 (fun _ => true) true Tryz.f11.params.toList args.toList ds p := hA0
  rw [Tryz.params11] at hA hval
  rw [MakeChecks.laidMetH_plain _ _ _ (by kernel_rfl)] at hL
  obtain ⟨m, hg⟩ := gi_all hsh (tab_read (Lib.laidMet.reads hL (n := "internal/strconv.uint64pow10") (d := Rows.laid_internal_strconv_uint64pow10) (.tail _ (.tail _ (.head _))))) (days_read (Lib.laidMet.reads hL (n := "transhipment/hours.names") (d := Rows.laid_transhipment_hours_names) (.tail _ (.tail _ (.tail _ (.tail _ (.head _)))))))
  letI : GM := ⟨m, false⟩
  obtain ⟨v0, v1, d0, d1, p0, p1, rfl, rfl, rfl, h0, h1⟩ := trodAll_two hA
  obtain ⟨rfl, rfl⟩ := trodVars_none hV
  have h0k := h0
  obtain ⟨cs0, rfl, _⟩ := okWide_struct Tryz.underlying31 (hval 0 31 v0 rfl rfl)
  obtain ⟨fuel0, hf0⟩ := h0
  obtain ⟨c0, hp0, ft0⟩ := config_read hf0
  have hcs0 : (Value.agg cs0).cells.toList.toArray = cs0 := by simp [Value.cells]
  rw [hcs0] at hp0
  have h1k := h1
  obtain ⟨a1, n1, k1, rfl⟩ := okWide_slice Tryz.underlying22 (hval 1 22 v1 rfl rfl)
  obtain ⟨fuel1, hf1⟩ := h1
  obtain ⟨vv1, l1, e1, hp1, ft1⟩ := rules_read hf1
  obtain rfl : vv1 = .slice a1 n1 k1 := by simpa [Value.cells] using e1.symm
  have hr := AmRules_true c0 l1 ft0 ft1
  refine (law_run (transhipmentlaw12_AmRules_ok rfl hr) Tryz.call11 (vals := [.agg cs0, .slice a1 n1 k1]) ⟨rfl, fun i v p hv hp' => ?_⟩ hg).mono fun e W' ⟨he, ho1, ho2, hb⟩ => ?_
  · match i, hv, hp' with
    | 0, hv, hp' => cases hv; cases hp'; exact hp0
    | 1, hv, hp' => cases hv; cases hp'; exact .d _ _ hp1
    | i + 2, hv, hp' => simp at hv
  · subst he
    have hlt : ∀ x ∈ p0 ++ p1, x.block < W.heap.size := fun x hx => hW'.lt x (by simpa using hx)
    exact ⟨_, rfl, _, _, _, [], _, [], hW', trodAll_mk1 (shut_bool Tryz.underlying4 true),
      trodAll_mk2 (WideElems.Trod_stays laidOut (by kernel_rfl) (of_decide_eq_true (by kernel_rfl)) h0k (fun x hx => same_at hb (hlt x (by simp [hx]))) (fun x hx => by simpa using hlt x (by simp [hx])))
        (WideElems.Trod_stays laidOut (by kernel_rfl) (of_decide_eq_true (by kernel_rfl)) h1k (fun x hx => same_at hb (hlt x (by simp [hx]))) (fun x hx => by simpa using hlt x (by simp [hx]))),
      rfl, kept ho1 ho2 hb _, fun h => by cases h⟩
theorem amRules_k0 : (Rows.amRulesRow.wf (OpenSpec.ofChange Rows.amRulesSpec)) = true := by kernel_rfl
theorem amRules_k1 : (laidOutB Tryz.pinned.checked.prog) = true := by kernel_rfl
theorem amRules_k2 : (mapsRowed Tryz.pinned.checked.prog) = true := by kernel_rfl
theorem amRules_k3 : (Tryz.f11.params.all (Tryz.pinned.checked.prog.readableRec ·)) = true := by kernel_rfl
theorem amRules_k4 : (namedTie Tryz.pinned.checked.prog Rows.amRulesRow.named Rows.amRulesSpec.vars) = true := by kernel_rfl
theorem amRules_k5 : ((Rows.amRulesRow.stops == [])) = true := by kernel_rfl
theorem amRules_k6 : ((Tryz.pinned.checked.prog.stops == [])) = true := by kernel_rfl
theorem amRules_k7 : ((Rows.amRulesRow.knobs == [])) = true := by kernel_rfl
theorem amRules_k8 : ((Tryz.pinned.checked.prog.stopKnobs == [])) = true := by kernel_rfl
theorem amRules_k9 : ((Rows.amRulesRow.inPlace == Tryz.pinned.checked.prog.inPlace 11)) = true := by kernel_rfl
theorem amRules_k10 : ((Rows.amRulesRow.unfollowed == Tryz.pinned.checked.prog.unfollowed 11)) = true := by kernel_rfl
theorem amRules_k11 : ((Rows.amRulesRow.recurses == Tryz.pinned.checked.prog.recurses 11)) = true := by kernel_rfl
theorem amRules_k12 : ((Rows.amRulesRow.named == Tryz.pinned.checked.prog.varsNamed 11)) = true := by kernel_rfl
theorem amRules_k13 : ((Rows.amRulesRow.maps == (Tryz.f11.params.toList ++ Rows.amRulesSpec.plain.varTypes Tryz.pinned.checked.prog).any (Tryz.pinned.checked.prog.mapsRec ·))) = true := by kernel_rfl
theorem amRules_k14 : ((Rows.amRulesRow.ifaces == (Tryz.f11.params.toList ++ Rows.amRulesSpec.plain.varTypes Tryz.pinned.checked.prog).any (Tryz.pinned.checked.prog.ifacesRec ·))) = true := by kernel_rfl
theorem amRules_k15 : ((Rows.amRulesRow.mapsOut == Tryz.pinned.checked.prog.mapsAmong Tryz.f11.resultTypes.toList)) = true := by kernel_rfl
theorem amRules_k16 : ((Rows.amRulesRow.loops == (Tryz.f11.params.toList ++ Rows.amRulesSpec.plain.varTypes Tryz.pinned.checked.prog).any (Tryz.pinned.checked.prog.loopsFrom ·))) = true := by kernel_rfl
theorem amRules_k17 : ((Rows.amRulesRow.wideKeys == (Tryz.f11.params.toList ++ Rows.amRulesSpec.plain.varTypes Tryz.pinned.checked.prog ++ Tryz.f11.resultTypes.toList).any (Tryz.pinned.checked.prog.wideKeysFrom ·))) = true := by kernel_rfl
theorem amRules_k18 : (Rows.amRulesSpec.vars.all (Tryz.pinned.checked.prog.varReadable ·)) = true := by kernel_rfl
theorem amRules_k19 : (Tryz.f11.resultTypes.all (fun t => Tryz.pinned.checked.prog.readableRec t && decide (t < Tryz.pinned.checked.prog.types.size))) = true := by kernel_rfl
theorem amRules_k20 : ((Rows.amRulesRow.ifacesOut == Tryz.f11.resultTypes.toList.any (Tryz.pinned.checked.prog.ifacesRec ·))) = true := by kernel_rfl
theorem amRules_k21 : ((Rows.amRulesRow.loopsOut == Tryz.f11.resultTypes.toList.any (Tryz.pinned.checked.prog.loopsFrom ·))) = true := by kernel_rfl
theorem amRules_k22 : ((Rows.amRulesRow.plainKeys == Tryz.pinned.checked.prog.plainKeys)) = true := by kernel_rfl
theorem amRules_k23 : (Rows.amRulesRow.shortTexts.isNone) = true := by kernel_rfl
theorem amRules_k24 : (Tryz.pinned.checked.prog.stopsHeard) = true := by kernel_rfl
theorem amRules_k25 : (Tryz.pinned.checked.prog.mayEnter) = true := by kernel_rfl
theorem amRules_k26 : ((Rows.amRulesRow.lifted == Tryz.pinned.checked.prog.liftsFinal)) = true := by kernel_rfl
theorem amRules_k27 : ((Tryz.pinned.checked.prog.make == some Rows.amRulesRow.make)) = true := by kernel_rfl
theorem amRules_k28 : ((Rows.amRulesRow.kinds == (if Rows.amRulesRow.domain.isEmpty then [] else Tryz.f11.params.toList.map fun t => match Tryz.pinned.checked.prog.underlying t with | some (.int k) => some k | _ => none))) = true := by kernel_rfl
theorem amRules_k29 : ((Rows.amRulesRow.pinned == Rows.amRulesRow.pinnedBy)) = true := by kernel_rfl
theorem amRules_k30 : ((Rows.amRulesRow.veiled == (Tryz.f11.params.toList ++ Rows.amRulesSpec.plain.varTypes Tryz.pinned.checked.prog ++ Tryz.f11.resultTypes.toList).any (Tryz.pinned.checked.prog.veiledRec ·))) = true := by kernel_rfl
theorem amRules_k31 : (Rows.amRulesRow.veiledFits Tryz.pinned.checked.prog Tryz.f11.params.toList (Tryz.f11.params.toList ++ Rows.amRulesSpec.plain.varTypes Tryz.pinned.checked.prog ++ Tryz.f11.resultTypes.toList)) = true := by kernel_rfl
theorem amRules_joined : joinedFacts Tryz.pinned.checked.prog 11 Tryz.f11 Rows.amRulesSpec Rows.amRulesRow = true := by
  unfold joinedFacts
  exact and_t (and_t (and_t (and_t (and_t (and_t (and_t (and_t (and_t (and_t (and_t (and_t (and_t (and_t (and_t (and_t (and_t (and_t (and_t (and_t (and_t (and_t (and_t (and_t (and_t (and_t (and_t (and_t (and_t (and_t (and_t amRules_k0 amRules_k1) amRules_k2) amRules_k3) amRules_k4) amRules_k5) amRules_k6) amRules_k7) amRules_k8) amRules_k9) amRules_k10) amRules_k11) amRules_k12) amRules_k13) amRules_k14) amRules_k15) amRules_k16) amRules_k17) amRules_k18) amRules_k19) amRules_k20) amRules_k21) amRules_k22) amRules_k23) amRules_k24) amRules_k25) amRules_k26) amRules_k27) amRules_k28) amRules_k29) amRules_k30) amRules_k31
theorem amRules_c1 : Tryz.pinned.checked.prog.funcNamed Rows.amRulesRow.func = some 11 := by kernel_rfl
theorem amRules_c2 : Tryz.f11.isInstance Tryz.pinned.checked.prog Rows.amRulesRow.origin Rows.amRulesRow.targs := of_decide_eq_true (by kernel_rfl)
theorem amRules_c3 : Tryz.f11.isWrapper Tryz.pinned.checked.prog Rows.amRulesRow.wrapper Rows.amRulesRow.mainSum := by unfold Func.isWrapper; first | (rw [if_pos (by decide +kernel)]; kernel_rfl) | (rw [if_neg (by decide +kernel)]; exact ⟨rfl, rfl⟩)
theorem amRules_c4 : Rows.amRulesRow.wfByText (OpenSpec.ofChange Rows.amRulesSpec) = true := by kernel_rfl
theorem amRules_c5 : Tryz.pinned.checked.prog.mainIs = some (true, "cd45e37b8aa834609e4f1070d9a783abe4f14363e7fef7293f412501837b8ada".toList) := by kernel_rfl
theorem amRules_c6 : Tryz.prog.funcNamed "transhipment/transhipmentlaw12.AmRules" = some 11 := by kernel_rfl
theorem amRules_c7 : false = Tryz.prog.looks [] := by kernel_rfl
theorem amRules_c8 : ([31, 22].all fun u => !Tryz.prog.wantsStandIn u) = true := by kernel_rfl
theorem amRules_c9 : false = Rows.amRulesRow.goesBy Tryz.pinned.checked.prog := by kernel_rfl
theorem amRules_holds : Rows.AmRulesSaid :=
  OpenClaim.holds_of_wide 11 Tryz.f11 rfl rfl rfl rfl rfl rfl rfl ⟨rfl, rfl, rfl, rfl, rfl⟩ rfl rfl rfl rfl rfl amRules_c1 Tryz.func11 amRules_joined amRules_c2 amRules_c3
    (fun os started H enc _ => amRules_lifted os started H enc)
theorem amRules_card : Rows.AmRulesCardSaid :=
  Claim7.holds_tied_plain_at .later [] [.data, .data, .data, .data, .widerDeep, .pinned] true (true, "cd45e37b8aa834609e4f1070d9a783abe4f14363e7fef7293f412501837b8ada") false amRules_holds (fun _ h => by cases h) amRules_c4 (fun _ h => by cases h) amRules_row_tie rfl ⟨rfl, rfl⟩ amRules_c5 rfl
    (fun f fn hf hfn => by
      obtain rfl : f = 11 := Option.some.inj (amRules_c6.symm.trans hf) |>.symm
      obtain rfl : fn = Tryz.f11 := (Option.some.inj (Tryz.func11.symm.trans hfn)).symm
      exact ⟨amRules_c7, fun j t ht => by
        rw [Tryz.params11] at ht
        have hm : t ∈ [31, 22] := by simpa using Array.mem_of_getElem? ht
        exact (show Tryz.prog.wantsStandIn t = false by simpa using List.all_eq_true.1 amRules_c8 t hm)⟩)
    amRules_c9
#print axioms amRules_card
end Go.Proofs.YtiddkdneoldkoaaGreatDoor
