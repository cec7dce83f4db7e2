/- Texts of this claim: plain laws of what the program's functions compute. No condition of their own. -/
import Derived.Test.YteggibikppdhfaaGreatDoorRa
import Derived.Test.YteggibikppdhfaaGreatDoorFd
namespace Go.Proofs.YteggibikppdhfaaGreatDoor
set_option linter.unusedSimpArgs false
set_option linter.unusedVariables false
set_option linter.unusedSectionVars false
open Go Go.PL Go.Proofs Go.ChangeShapes Go.WideShapes Go.RowKit Rs
set_option maxRecDepth 100000
theorem configNeeds_lifted (os : Os) (started : os.Started) (H : Type) (enc : TypeId × Value → H) :
    ReturnsInHanded {} Tryz.checked os 4 .any (fun w args => (Rows.configNeedsSpec.pre enc Tryz.prog Tryz.f4 [] false w args ∧ laidMetH Tryz.prog Rows.configNeedsRow.laid w) ∧ sizedMet enc Tryz.prog Tryz.f4 (OpenSpec.ofChange Rows.configNeedsSpec) false w args)
      (Rows.configNeedsSpec.post enc Tryz.prog Tryz.f4 false true false false) := by
  refine returns_sx (C := Tryz.checked) (X := fun w _ => laidMetH Tryz.prog Rows.configNeedsRow.laid w) (fun _ _ _ hh h => h.of_heap hh) own started (by kernel_rfl) Tryz.func4
    (ChangeSpec.witness_shaped (enc := enc) (C := Tryz.checked) (os := os) (X := fun w _ => laidMetH Tryz.prog Rows.configNeedsRow.laid w) false (World.laidAll Tryz.prog os Rows.configNeedsRow.laid) #[.agg #[.slice none 0 0, .string .empty, .slice none 0 0, .slice none 0 0, .int .i64 0, .int .i64 0, .int .i64 0, .slice none 0 0, .bool false, .slice none 0 0, .slice none 0 0, .slice none 0 0, .slice none 0 0], .string .empty] 8 (World.laidAll_os _ _ _)
      (World.shaped_of_ZipB (by kernel_rfl) (by kernel_rfl)) (by kernel_rfl) (by kernel_rfl) (by kernel_rfl)
      (by rw [MakeChecks.laidMetH_plain _ _ _ (by kernel_rfl)]; exact laidMet_laidAll _ (by kernel_rfl) (by kernel_rfl))) ?_
  intro W base args ds gs before hval0 hW hL hsh
  have hval : ∀ (j : Nat) t v, Tryz.f4.params[j]? = some t → args[j]? = some v → Value.okWide Tryz.prog W .any base t v := hval0
  have hW' := hW
  obtain ⟨p, q, hA0, hV, rfl, _, _⟩ := hW
  have hA : DataW.TrodAll enc Tryz.prog W 0 (fun _ => true) true Tryz.f4.params.toList args.toList ds p := hA0
  rw [Tryz.params4] at hA hval
  letI : GM := ⟨0, false⟩
  obtain ⟨v0, v1, d0, d1, p0, p1, rfl, rfl, rfl, h0, h1⟩ := trodAll_two hA
  obtain ⟨rfl, rfl⟩ := trodVars_none hV
  have h0k := h0
  obtain ⟨cs0, rfl, _⟩ := okWide_struct Tryz.underlying31 (hval 0 31 v0 rfl rfl)
  obtain ⟨fuel0, hf0⟩ := h0
  obtain ⟨c0, hp0, ft0⟩ := config_read hf0
  have hcs0 : (Value.agg cs0).cells.toList.toArray = cs0 := by simp [Value.cells]
  rw [hcs0] at hp0
  have h1k := h1
  obtain ⟨s1, rfl⟩ := okWide_string Tryz.underlying9 (hval 1 9 v1 rfl rfl)
  obtain ⟨fuel1, hf1⟩ := h1
  have ft1 : fitS s1 := by
    obtain ⟨s', e, _, hs⟩ := DataW.trod_string Tryz.underlying9 hf1
    have e2 : [Value.string s1] = [Value.string s'] := by simpa [Value.cells] using e
    cases e2
    exact Nat.le_trans hs (by decide)
  have hr := ConfigNeeds_true c0 s1 ft0 ft1
  refine (law_run (transhipmentlaw10_ConfigNeeds_ok rfl hr) Tryz.call4 (vals := [.agg cs0, .string s1]) ⟨rfl, fun i v p hv hp' => ?_⟩ gi_none).mono fun e W' ⟨he, ho1, ho2, hb⟩ => ?_
  · match i, hv, hp' with
    | 0, hv, hp' => cases hv; cases hp'; exact hp0
    | 1, hv, hp' => cases hv; cases hp'; exact RP.ofVal ..
    | i + 2, hv, hp' => simp at hv
  · subst he
    have hlt : ∀ x ∈ p0 ++ p1, x.block < W.heap.size := fun x hx => hW'.lt x (by simpa using hx)
    exact ⟨_, rfl, _, _, _, [], _, [], hW', trodAll_mk1 (shut_bool Tryz.underlying4 true),
      trodAll_mk2 (WideElems.Trod_stays laidOut (by kernel_rfl) (of_decide_eq_true (by kernel_rfl)) h0k (fun x hx => same_at hb (hlt x (by simp [hx]))) (fun x hx => by simpa using hlt x (by simp [hx])))
        (WideElems.Trod_stays laidOut (by kernel_rfl) (of_decide_eq_true (by kernel_rfl)) h1k (fun x hx => same_at hb (hlt x (by simp [hx]))) (fun x hx => by simpa using hlt x (by simp [hx]))),
      rfl, kept ho1 ho2 hb _, fun h => by cases h⟩
theorem configNeeds_k0 : (Rows.configNeedsRow.wf (OpenSpec.ofChange Rows.configNeedsSpec)) = true := by kernel_rfl
theorem configNeeds_k1 : (laidOutB Tryz.pinned.checked.prog) = true := by kernel_rfl
theorem configNeeds_k2 : (mapsRowed Tryz.pinned.checked.prog) = true := by kernel_rfl
theorem configNeeds_k3 : (Tryz.f4.params.all (Tryz.pinned.checked.prog.readableRec ·)) = true := by kernel_rfl
theorem configNeeds_k4 : (namedTie Tryz.pinned.checked.prog Rows.configNeedsRow.named Rows.configNeedsSpec.vars) = true := by kernel_rfl
theorem configNeeds_k5 : ((Rows.configNeedsRow.stops == [])) = true := by kernel_rfl
theorem configNeeds_k6 : ((Tryz.pinned.checked.prog.stops == [])) = true := by kernel_rfl
theorem configNeeds_k7 : ((Rows.configNeedsRow.knobs == [])) = true := by kernel_rfl
theorem configNeeds_k8 : ((Tryz.pinned.checked.prog.stopKnobs == [])) = true := by kernel_rfl
theorem configNeeds_k9 : ((Rows.configNeedsRow.inPlace == Tryz.pinned.checked.prog.inPlace 4)) = true := by kernel_rfl
theorem configNeeds_k10 : ((Rows.configNeedsRow.unfollowed == Tryz.pinned.checked.prog.unfollowed 4)) = true := by kernel_rfl
theorem configNeeds_k11 : ((Rows.configNeedsRow.recurses == Tryz.pinned.checked.prog.recurses 4)) = true := by kernel_rfl
theorem configNeeds_k12 : ((Rows.configNeedsRow.named == Tryz.pinned.checked.prog.varsNamed 4)) = true := by kernel_rfl
theorem configNeeds_k13 : ((Rows.configNeedsRow.maps == (Tryz.f4.params.toList ++ Rows.configNeedsSpec.plain.varTypes Tryz.pinned.checked.prog).any (Tryz.pinned.checked.prog.mapsRec ·))) = true := by kernel_rfl
theorem configNeeds_k14 : ((Rows.configNeedsRow.ifaces == (Tryz.f4.params.toList ++ Rows.configNeedsSpec.plain.varTypes Tryz.pinned.checked.prog).any (Tryz.pinned.checked.prog.ifacesRec ·))) = true := by kernel_rfl
theorem configNeeds_k15 : ((Rows.configNeedsRow.mapsOut == Tryz.pinned.checked.prog.mapsAmong Tryz.f4.resultTypes.toList)) = true := by kernel_rfl
theorem configNeeds_k16 : ((Rows.configNeedsRow.loops == (Tryz.f4.params.toList ++ Rows.configNeedsSpec.plain.varTypes Tryz.pinned.checked.prog).any (Tryz.pinned.checked.prog.loopsFrom ·))) = true := by kernel_rfl
theorem configNeeds_k17 : ((Rows.configNeedsRow.wideKeys == (Tryz.f4.params.toList ++ Rows.configNeedsSpec.plain.varTypes Tryz.pinned.checked.prog ++ Tryz.f4.resultTypes.toList).any (Tryz.pinned.checked.prog.wideKeysFrom ·))) = true := by kernel_rfl
theorem configNeeds_k18 : (Rows.configNeedsSpec.vars.all (Tryz.pinned.checked.prog.varReadable ·)) = true := by kernel_rfl
theorem configNeeds_k19 : (Tryz.f4.resultTypes.all (fun t => Tryz.pinned.checked.prog.readableRec t && decide (t < Tryz.pinned.checked.prog.types.size))) = true := by kernel_rfl
theorem configNeeds_k20 : ((Rows.configNeedsRow.ifacesOut == Tryz.f4.resultTypes.toList.any (Tryz.pinned.checked.prog.ifacesRec ·))) = true := by kernel_rfl
theorem configNeeds_k21 : ((Rows.configNeedsRow.loopsOut == Tryz.f4.resultTypes.toList.any (Tryz.pinned.checked.prog.loopsFrom ·))) = true := by kernel_rfl
theorem configNeeds_k22 : ((Rows.configNeedsRow.plainKeys == Tryz.pinned.checked.prog.plainKeys)) = true := by kernel_rfl
theorem configNeeds_k23 : (Rows.configNeedsRow.shortTexts.isNone) = true := by kernel_rfl
theorem configNeeds_k24 : (Tryz.pinned.checked.prog.stopsHeard) = true := by kernel_rfl
theorem configNeeds_k25 : (Tryz.pinned.checked.prog.mayEnter) = true := by kernel_rfl
theorem configNeeds_k26 : ((Rows.configNeedsRow.lifted == Tryz.pinned.checked.prog.liftsFinal)) = true := by kernel_rfl
theorem configNeeds_k27 : ((Tryz.pinned.checked.prog.make == some Rows.configNeedsRow.make)) = true := by kernel_rfl
theorem configNeeds_k28 : ((Rows.configNeedsRow.kinds == (if Rows.configNeedsRow.domain.isEmpty then [] else Tryz.f4.params.toList.map fun t => match Tryz.pinned.checked.prog.underlying t with | some (.int k) => some k | _ => none))) = true := by kernel_rfl
theorem configNeeds_k29 : ((Rows.configNeedsRow.pinned == Rows.configNeedsRow.pinnedBy)) = true := by kernel_rfl
theorem configNeeds_k30 : ((Rows.configNeedsRow.veiled == (Tryz.f4.params.toList ++ Rows.configNeedsSpec.plain.varTypes Tryz.pinned.checked.prog ++ Tryz.f4.resultTypes.toList).any (Tryz.pinned.checked.prog.veiledRec ·))) = true := by kernel_rfl
theorem configNeeds_k31 : (Rows.configNeedsRow.veiledFits Tryz.pinned.checked.prog Tryz.f4.params.toList (Tryz.f4.params.toList ++ Rows.configNeedsSpec.plain.varTypes Tryz.pinned.checked.prog ++ Tryz.f4.resultTypes.toList)) = true := by kernel_rfl
theorem configNeeds_joined : joinedFacts Tryz.pinned.checked.prog 4 Tryz.f4 Rows.configNeedsSpec Rows.configNeedsRow = true := by
  unfold joinedFacts
  exact and_t (and_t (and_t (and_t (and_t (and_t (and_t (and_t (and_t (and_t (and_t (and_t (and_t (and_t (and_t (and_t (and_t (and_t (and_t (and_t (and_t (and_t (and_t (and_t (and_t (and_t (and_t (and_t (and_t (and_t (and_t configNeeds_k0 configNeeds_k1) configNeeds_k2) configNeeds_k3) configNeeds_k4) configNeeds_k5) configNeeds_k6) configNeeds_k7) configNeeds_k8) configNeeds_k9) configNeeds_k10) configNeeds_k11) configNeeds_k12) configNeeds_k13) configNeeds_k14) configNeeds_k15) configNeeds_k16) configNeeds_k17) configNeeds_k18) configNeeds_k19) configNeeds_k20) configNeeds_k21) configNeeds_k22) configNeeds_k23) configNeeds_k24) configNeeds_k25) configNeeds_k26) configNeeds_k27) configNeeds_k28) configNeeds_k29) configNeeds_k30) configNeeds_k31
theorem configNeeds_c1 : Tryz.pinned.checked.prog.funcNamed Rows.configNeedsRow.func = some 4 := by kernel_rfl
theorem configNeeds_c2 : Tryz.f4.isInstance Tryz.pinned.checked.prog Rows.configNeedsRow.origin Rows.configNeedsRow.targs := of_decide_eq_true (by kernel_rfl)
theorem configNeeds_c3 : Tryz.f4.isWrapper Tryz.pinned.checked.prog Rows.configNeedsRow.wrapper Rows.configNeedsRow.mainSum := by unfold Func.isWrapper; first | (rw [if_pos (by decide +kernel)]; kernel_rfl) | (rw [if_neg (by decide +kernel)]; exact ⟨rfl, rfl⟩)
theorem configNeeds_c4 : Rows.configNeedsRow.wfByText (OpenSpec.ofChange Rows.configNeedsSpec) = true := by kernel_rfl
theorem configNeeds_c5 : Tryz.pinned.checked.prog.mainIs = some (true, "9cd52a9589119c7ede186be6b14b930fe4e149db92f683512c7999d0f543a68e".toList) := by kernel_rfl
theorem configNeeds_c6 : Tryz.prog.funcNamed "transhipment/transhipmentlaw10.ConfigNeeds" = some 4 := by kernel_rfl
theorem configNeeds_c7 : false = Tryz.prog.looks [] := by kernel_rfl
theorem configNeeds_c8 : ([31, 9].all fun u => !Tryz.prog.wantsStandIn u) = true := by kernel_rfl
theorem configNeeds_c9 : false = Rows.configNeedsRow.goesBy Tryz.pinned.checked.prog := by kernel_rfl
theorem configNeeds_holds : Rows.ConfigNeedsSaid :=
  OpenClaim.holds_of_wide 4 Tryz.f4 rfl rfl rfl rfl rfl rfl rfl ⟨rfl, rfl, rfl, rfl, rfl⟩ rfl rfl rfl rfl rfl configNeeds_c1 Tryz.func4 configNeeds_joined configNeeds_c2 configNeeds_c3
    (fun os started H enc _ => configNeeds_lifted os started H enc)
theorem configNeeds_card : Rows.ConfigNeedsCardSaid :=
  Claim7.holds_tied_plain_at .later [] [.data, .pinned] true (true, "9cd52a9589119c7ede186be6b14b930fe4e149db92f683512c7999d0f543a68e") false configNeeds_holds (fun _ h => by cases h) configNeeds_c4 (fun _ h => by cases h) configNeeds_row_tie rfl ⟨rfl, rfl⟩ configNeeds_c5 rfl
    (fun f fn hf hfn => by
      obtain rfl : f = 4 := Option.some.inj (configNeeds_c6.symm.trans hf) |>.symm
      obtain rfl : fn = Tryz.f4 := (Option.some.inj (Tryz.func4.symm.trans hfn)).symm
      exact ⟨configNeeds_c7, fun j t ht => by
        rw [Tryz.params4] at ht
        have hm : t ∈ [31, 9] := by simpa using Array.mem_of_getElem? ht
        exact (show Tryz.prog.wantsStandIn t = false by simpa using List.all_eq_true.1 configNeeds_c8 t hm)⟩)
    configNeeds_c9
#print axioms configNeeds_card
end Go.Proofs.YteggibikppdhfaaGreatDoor
