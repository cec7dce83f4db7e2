/- Texts of this claim: plain laws of what the program's functions compute. No condition of their own. -/
import Derived.Test.YteggibikppdhfaaGreatDoorRa
import Derived.Test.YteggibikppdhfaaGreatDoorFd
namespace Go.Proofs.YteggibikppdhfaaGreatDoor
set_option linter.unusedSimpArgs false
set_option linter.unusedVariables false
set_option linter.unusedSectionVars false
open Go Go.PL Go.Proofs Go.ChangeShapes Go.WideShapes Go.RowKit Rs
set_option maxRecDepth 100000
theorem configForms_lifted (os : Os) (started : os.Started) (H : Type) (enc : TypeId × Value → H) :
    ReturnsInHanded {} Tryz.checked os 3 .any (fun w args => (Rows.configFormsSpec.pre enc Tryz.prog Tryz.f3 [] false w args ∧ laidMetH Tryz.prog Rows.configFormsRow.laid w) ∧ sizedMet enc Tryz.prog Tryz.f3 (OpenSpec.ofChange Rows.configFormsSpec) false w args)
      (Rows.configFormsSpec.post enc Tryz.prog Tryz.f3 false true false false) := by
  refine returns_sx (C := Tryz.checked) (X := fun w _ => laidMetH Tryz.prog Rows.configFormsRow.laid w) (fun _ _ _ hh h => h.of_heap hh) own started (by kernel_rfl) Tryz.func3
    (ChangeSpec.witness_shaped (enc := enc) (C := Tryz.checked) (os := os) (X := fun w _ => laidMetH Tryz.prog Rows.configFormsRow.laid w) false (World.laidAll Tryz.prog os Rows.configFormsRow.laid) #[.agg #[.slice none 0 0, .string .empty, .slice none 0 0, .slice none 0 0, .int .i64 0, .int .i64 0, .int .i64 0, .slice none 0 0, .bool false, .slice none 0 0, .slice none 0 0, .slice none 0 0, .slice none 0 0], .agg #[.slice none 0 0, .string .empty, .slice none 0 0, .slice none 0 0, .int .i64 0, .int .i64 0, .int .i64 0, .slice none 0 0, .bool false, .slice none 0 0, .slice none 0 0, .slice none 0 0, .slice none 0 0]] 8 (World.laidAll_os _ _ _)
      (World.shaped_of_ZipB (by kernel_rfl) (by kernel_rfl)) (by kernel_rfl) (by kernel_rfl) (by kernel_rfl)
      (by rw [MakeChecks.laidMetH_plain _ _ _ (by kernel_rfl)]; exact laidMet_laidAll _ (by kernel_rfl) (by kernel_rfl))) ?_
  intro W base args ds gs before hval0 hW hL hsh
  have hval : ∀ (j : Nat) t v, Tryz.f3.params[j]? = some t → args[j]? = some v → Value.okWide Tryz.prog W .any base t v := hval0
  have hW' := hW
  obtain ⟨p, q, hA0, hV, rfl, _, _⟩ := hW
  have hA : DataW.TrodAll enc Tryz.prog W 0 (fun _ => true) true Tryz.f3.params.toList args.toList ds p := hA0
  rw [Tryz.params3] at hA hval
  letI : GM := ⟨0, false⟩
  obtain ⟨v0, v1, d0, d1, p0, p1, rfl, rfl, rfl, h0, h1⟩ := trodAll_two hA
  obtain ⟨rfl, rfl⟩ := trodVars_none hV
  have h0k := h0
  obtain ⟨cs0, rfl, _⟩ := okWide_struct Tryz.underlying31 (hval 0 31 v0 rfl rfl)
  obtain ⟨fuel0, hf0⟩ := h0
  obtain ⟨c0, hp0, ft0⟩ := config_read hf0
  have hcs0 : (Value.agg cs0).cells.toList.toArray = cs0 := by simp [Value.cells]
  rw [hcs0] at hp0
  have h1k := h1
  obtain ⟨cs1, rfl, _⟩ := okWide_struct Tryz.underlying31 (hval 1 31 v1 rfl rfl)
  obtain ⟨fuel1, hf1⟩ := h1
  obtain ⟨c1, hp1, ft1⟩ := config_read hf1
  have hcs1 : (Value.agg cs1).cells.toList.toArray = cs1 := by simp [Value.cells]
  rw [hcs1] at hp1
  have hr := ConfigForms_true c0 c1 ft0 ft1
  refine (law_run (transhipmentlaw10_ConfigForms_ok rfl hr) Tryz.call3 (vals := [.agg cs0, .agg cs1]) ⟨rfl, fun i v p hv hp' => ?_⟩ gi_none).mono fun e W' ⟨he, ho1, ho2, hb⟩ => ?_
  · match i, hv, hp' with
    | 0, hv, hp' => cases hv; cases hp'; exact hp0
    | 1, hv, hp' => cases hv; cases hp'; exact hp1
    | i + 2, hv, hp' => simp at hv
  · subst he
    have hlt : ∀ x ∈ p0 ++ p1, x.block < W.heap.size := fun x hx => hW'.lt x (by simpa using hx)
    exact ⟨_, rfl, _, _, _, [], _, [], hW', trodAll_mk1 (shut_bool Tryz.underlying4 true),
      trodAll_mk2 (WideElems.Trod_stays laidOut (by kernel_rfl) (of_decide_eq_true (by kernel_rfl)) h0k (fun x hx => same_at hb (hlt x (by simp [hx]))) (fun x hx => by simpa using hlt x (by simp [hx])))
        (WideElems.Trod_stays laidOut (by kernel_rfl) (of_decide_eq_true (by kernel_rfl)) h1k (fun x hx => same_at hb (hlt x (by simp [hx]))) (fun x hx => by simpa using hlt x (by simp [hx]))),
      rfl, kept ho1 ho2 hb _, fun h => by cases h⟩
theorem configForms_k0 : (Rows.configFormsRow.wf (OpenSpec.ofChange Rows.configFormsSpec)) = true := by kernel_rfl
theorem configForms_k1 : (laidOutB Tryz.pinned.checked.prog) = true := by kernel_rfl
theorem configForms_k2 : (mapsRowed Tryz.pinned.checked.prog) = true := by kernel_rfl
theorem configForms_k3 : (Tryz.f3.params.all (Tryz.pinned.checked.prog.readableRec ·)) = true := by kernel_rfl
theorem configForms_k4 : (namedTie Tryz.pinned.checked.prog Rows.configFormsRow.named Rows.configFormsSpec.vars) = true := by kernel_rfl
theorem configForms_k5 : ((Rows.configFormsRow.stops == [])) = true := by kernel_rfl
theorem configForms_k6 : ((Tryz.pinned.checked.prog.stops == [])) = true := by kernel_rfl
theorem configForms_k7 : ((Rows.configFormsRow.knobs == [])) = true := by kernel_rfl
theorem configForms_k8 : ((Tryz.pinned.checked.prog.stopKnobs == [])) = true := by kernel_rfl
theorem configForms_k9 : ((Rows.configFormsRow.inPlace == Tryz.pinned.checked.prog.inPlace 3)) = true := by kernel_rfl
theorem configForms_k10 : ((Rows.configFormsRow.unfollowed == Tryz.pinned.checked.prog.unfollowed 3)) = true := by kernel_rfl
theorem configForms_k11 : ((Rows.configFormsRow.recurses == Tryz.pinned.checked.prog.recurses 3)) = true := by kernel_rfl
theorem configForms_k12 : ((Rows.configFormsRow.named == Tryz.pinned.checked.prog.varsNamed 3)) = true := by kernel_rfl
theorem configForms_k13 : ((Rows.configFormsRow.maps == (Tryz.f3.params.toList ++ Rows.configFormsSpec.plain.varTypes Tryz.pinned.checked.prog).any (Tryz.pinned.checked.prog.mapsRec ·))) = true := by kernel_rfl
theorem configForms_k14 : ((Rows.configFormsRow.ifaces == (Tryz.f3.params.toList ++ Rows.configFormsSpec.plain.varTypes Tryz.pinned.checked.prog).any (Tryz.pinned.checked.prog.ifacesRec ·))) = true := by kernel_rfl
theorem configForms_k15 : ((Rows.configFormsRow.mapsOut == Tryz.pinned.checked.prog.mapsAmong Tryz.f3.resultTypes.toList)) = true := by kernel_rfl
theorem configForms_k16 : ((Rows.configFormsRow.loops == (Tryz.f3.params.toList ++ Rows.configFormsSpec.plain.varTypes Tryz.pinned.checked.prog).any (Tryz.pinned.checked.prog.loopsFrom ·))) = true := by kernel_rfl
theorem configForms_k17 : ((Rows.configFormsRow.wideKeys == (Tryz.f3.params.toList ++ Rows.configFormsSpec.plain.varTypes Tryz.pinned.checked.prog ++ Tryz.f3.resultTypes.toList).any (Tryz.pinned.checked.prog.wideKeysFrom ·))) = true := by kernel_rfl
theorem configForms_k18 : (Rows.configFormsSpec.vars.all (Tryz.pinned.checked.prog.varReadable ·)) = true := by kernel_rfl
theorem configForms_k19 : (Tryz.f3.resultTypes.all (fun t => Tryz.pinned.checked.prog.readableRec t && decide (t < Tryz.pinned.checked.prog.types.size))) = true := by kernel_rfl
theorem configForms_k20 : ((Rows.configFormsRow.ifacesOut == Tryz.f3.resultTypes.toList.any (Tryz.pinned.checked.prog.ifacesRec ·))) = true := by kernel_rfl
theorem configForms_k21 : ((Rows.configFormsRow.loopsOut == Tryz.f3.resultTypes.toList.any (Tryz.pinned.checked.prog.loopsFrom ·))) = true := by kernel_rfl
theorem configForms_k22 : ((Rows.configFormsRow.plainKeys == Tryz.pinned.checked.prog.plainKeys)) = true := by kernel_rfl
theorem configForms_k23 : (Rows.configFormsRow.shortTexts.isNone) = true := by kernel_rfl
theorem configForms_k24 : (Tryz.pinned.checked.prog.stopsHeard) = true := by kernel_rfl
theorem configForms_k25 : (Tryz.pinned.checked.prog.mayEnter) = true := by kernel_rfl
theorem configForms_k26 : ((Rows.configFormsRow.lifted == Tryz.pinned.checked.prog.liftsFinal)) = true := by kernel_rfl
theorem configForms_k27 : ((Tryz.pinned.checked.prog.make == some Rows.configFormsRow.make)) = true := by kernel_rfl
theorem configForms_k28 : ((Rows.configFormsRow.kinds == (if Rows.configFormsRow.domain.isEmpty then [] else Tryz.f3.params.toList.map fun t => match Tryz.pinned.checked.prog.underlying t with | some (.int k) => some k | _ => none))) = true := by kernel_rfl
theorem configForms_k29 : ((Rows.configFormsRow.pinned == Rows.configFormsRow.pinnedBy)) = true := by kernel_rfl
theorem configForms_k30 : ((Rows.configFormsRow.veiled == (Tryz.f3.params.toList ++ Rows.configFormsSpec.plain.varTypes Tryz.pinned.checked.prog ++ Tryz.f3.resultTypes.toList).any (Tryz.pinned.checked.prog.veiledRec ·))) = true := by kernel_rfl
theorem configForms_k31 : (Rows.configFormsRow.veiledFits Tryz.pinned.checked.prog Tryz.f3.params.toList (Tryz.f3.params.toList ++ Rows.configFormsSpec.plain.varTypes Tryz.pinned.checked.prog ++ Tryz.f3.resultTypes.toList)) = true := by kernel_rfl
theorem configForms_joined : joinedFacts Tryz.pinned.checked.prog 3 Tryz.f3 Rows.configFormsSpec Rows.configFormsRow = true := by
  unfold joinedFacts
  exact and_t (and_t (and_t (and_t (and_t (and_t (and_t (and_t (and_t (and_t (and_t (and_t (and_t (and_t (and_t (and_t (and_t (and_t (and_t (and_t (and_t (and_t (and_t (and_t (and_t (and_t (and_t (and_t (and_t (and_t (and_t configForms_k0 configForms_k1) configForms_k2) configForms_k3) configForms_k4) configForms_k5) configForms_k6) configForms_k7) configForms_k8) configForms_k9) configForms_k10) configForms_k11) configForms_k12) configForms_k13) configForms_k14) configForms_k15) configForms_k16) configForms_k17) configForms_k18) configForms_k19) configForms_k20) configForms_k21) configForms_k22) configForms_k23) configForms_k24) configForms_k25) configForms_k26) configForms_k27) configForms_k28) configForms_k29) configForms_k30) configForms_k31
theorem configForms_c1 : Tryz.pinned.checked.prog.funcNamed Rows.configFormsRow.func = some 3 := by kernel_rfl
theorem configForms_c2 : Tryz.f3.isInstance Tryz.pinned.checked.prog Rows.configFormsRow.origin Rows.configFormsRow.targs := of_decide_eq_true (by kernel_rfl)
theorem configForms_c3 : Tryz.f3.isWrapper Tryz.pinned.checked.prog Rows.configFormsRow.wrapper Rows.configFormsRow.mainSum := by unfold Func.isWrapper; first | (rw [if_pos (by decide +kernel)]; kernel_rfl) | (rw [if_neg (by decide +kernel)]; exact ⟨rfl, rfl⟩)
theorem configForms_c4 : Rows.configFormsRow.wfByText (OpenSpec.ofChange Rows.configFormsSpec) = true := by kernel_rfl
theorem configForms_c5 : Tryz.pinned.checked.prog.mainIs = some (true, "9cd52a9589119c7ede186be6b14b930fe4e149db92f683512c7999d0f543a68e".toList) := by kernel_rfl
theorem configForms_c6 : Tryz.prog.funcNamed "transhipment/transhipmentlaw10.ConfigForms" = some 3 := by kernel_rfl
theorem configForms_c7 : false = Tryz.prog.looks [] := by kernel_rfl
theorem configForms_c8 : ([31, 31].all fun u => !Tryz.prog.wantsStandIn u) = true := by kernel_rfl
theorem configForms_c9 : false = Rows.configFormsRow.goesBy Tryz.pinned.checked.prog := by kernel_rfl
theorem configForms_holds : Rows.ConfigFormsSaid :=
  OpenClaim.holds_of_wide 3 Tryz.f3 rfl rfl rfl rfl rfl rfl rfl ⟨rfl, rfl, rfl, rfl, rfl⟩ rfl rfl rfl rfl rfl configForms_c1 Tryz.func3 configForms_joined configForms_c2 configForms_c3
    (fun os started H enc _ => configForms_lifted os started H enc)
theorem configForms_card : Rows.ConfigFormsCardSaid :=
  Claim7.holds_tied_plain_at .later [] [.data, .pinned] true (true, "9cd52a9589119c7ede186be6b14b930fe4e149db92f683512c7999d0f543a68e") false configForms_holds (fun _ h => by cases h) configForms_c4 (fun _ h => by cases h) configForms_row_tie rfl ⟨rfl, rfl⟩ configForms_c5 rfl
    (fun f fn hf hfn => by
      obtain rfl : f = 3 := Option.some.inj (configForms_c6.symm.trans hf) |>.symm
      obtain rfl : fn = Tryz.f3 := (Option.some.inj (Tryz.func3.symm.trans hfn)).symm
      exact ⟨configForms_c7, fun j t ht => by
        rw [Tryz.params3] at ht
        have hm : t ∈ [31, 31] := by simpa using Array.mem_of_getElem? ht
        exact (show Tryz.prog.wantsStandIn t = false by simpa using List.all_eq_true.1 configForms_c8 t hm)⟩)
    configForms_c9
#print axioms configForms_card
end Go.Proofs.YteggibikppdhfaaGreatDoor
