/- Texts of this claim: plain laws of what the program's functions compute. No condition of their own. -/
import Derived.Test.YtiddkdneoldkoaaGreatDoorRa
import Derived.Test.YtiddkdneoldkoaaGreatDoorFc
import Derived.Test.YtiddkdneoldkoaaGreatDoorWc
namespace Go.Proofs.YtiddkdneoldkoaaGreatDoor
set_option linter.unusedSimpArgs false
set_option linter.unusedVariables false
set_option linter.unusedSectionVars false
open Go Go.PL Go.Proofs Go.ChangeShapes Go.WideShapes Go.RowKit Rs
set_option maxRecDepth 100000
theorem amDeep_lifted (os : Os) (started : os.Started) (H : Type) (enc : TypeId × Value → H) :
    ReturnsInHanded {} Tryz.checked os 10 .any (fun w args => (Rows.amDeepSpec.pre enc Tryz.prog Tryz.f10 [] false w args ∧ laidMetH Tryz.prog Rows.amDeepRow.laid w) ∧ sizedMet enc Tryz.prog Tryz.f10 (OpenSpec.ofChange Rows.amDeepSpec) false w args)
      (Rows.amDeepSpec.post enc Tryz.prog Tryz.f10 false true false false) := by
  refine returns_sx (C := Tryz.checked) (X := fun w _ => laidMetH Tryz.prog Rows.amDeepRow.laid w) (fun _ _ _ hh h => h.of_heap hh) own started (by kernel_rfl) Tryz.func10
    (ChangeSpec.witness_shaped (enc := enc) (C := Tryz.checked) (os := os) (X := fun w _ => laidMetH Tryz.prog Rows.amDeepRow.laid w) false (World.laidAll Tryz.prog os Rows.amDeepRow.laid) #[.agg #[.slice none 0 0, .string .empty, .slice none 0 0, .slice none 0 0, .int .i64 0, .int .i64 0, .int .i64 0, .slice none 0 0, .bool false, .slice none 0 0, .slice none 0 0, .slice none 0 0, .slice none 0 0], .int .i64 0] 8 (World.laidAll_os _ _ _)
      (World.shaped_of_ZipB (by kernel_rfl) (by kernel_rfl)) (by kernel_rfl) (by kernel_rfl) (by kernel_rfl)
      (by rw [MakeChecks.laidMetH_plain _ _ _ (by kernel_rfl)]; exact laidMet_laidAll _ (by kernel_rfl) (by kernel_rfl))) ?_
  intro W base args ds gs before hval0 hW hL hsh
  have hval : ∀ (j : Nat) t v, Tryz.f10.params[j]? = some t → args[j]? = some v → Value.okWide Tryz.prog W .any base t v := hval0
  have hW' := hW
  obtain ⟨p, q, hA0, hV, rfl, _, _⟩ := hW
  have hA : DataW.TrodAll enc Tryz.prog W 0 (fun _ => true) true Tryz.f10.params.toList args.toList ds p := hA0
  rw [Tryz.params10] at hA hval
  rw [MakeChecks.laidMetH_plain _ _ _ (by kernel_rfl)] at hL
  obtain ⟨m, hg⟩ := gi_all hsh (tab_read (Lib.laidMet.reads hL (n := "internal/strconv.uint64pow10") (d := Rows.laid_internal_strconv_uint64pow10) (.tail _ (.tail _ (.head _))))) (days_read (Lib.laidMet.reads hL (n := "transhipment/hours.names") (d := Rows.laid_transhipment_hours_names) (.tail _ (.tail _ (.tail _ (.tail _ (.head _)))))))
  letI : GM := ⟨m, false⟩
  obtain ⟨v0, v1, d0, d1, p0, p1, rfl, rfl, rfl, h0, h1⟩ := trodAll_two hA
  obtain ⟨rfl, rfl⟩ := trodVars_none hV
  have h0k := h0
  obtain ⟨cs0, rfl, _⟩ := okWide_struct Tryz.underlying31 (hval 0 31 v0 rfl rfl)
  obtain ⟨fuel0, hf0⟩ := h0
  obtain ⟨c0, hp0, ft0⟩ := config_read hf0
  have hcs0 : (Value.agg cs0).cells.toList.toArray = cs0 := by simp [Value.cells]
  rw [hcs0] at hp0
  have h1k := h1
  obtain ⟨k1, rfl⟩ := okWide_int Tryz.underlying3 (hval 1 3 v1 rfl rfl)
  have hr := AmDeep_true c0 k1 ft0
  refine (law_run (transhipmentlaw12_AmDeep_ok rfl hr) Tryz.call10 (vals := [.agg cs0, .int .i64 k1]) ⟨rfl, fun i v p hv hp' => ?_⟩ hg).mono fun e W' ⟨he, ho1, ho2, hb⟩ => ?_
  · match i, hv, hp' with
    | 0, hv, hp' => cases hv; cases hp'; exact hp0
    | 1, hv, hp' => cases hv; cases hp'; exact RP.ofVal ..
    | i + 2, hv, hp' => simp at hv
  · subst he
    have hlt : ∀ x ∈ p0 ++ p1, x.block < W.heap.size := fun x hx => hW'.lt x (by simpa using hx)
    exact ⟨_, rfl, _, _, _, [], _, [], hW', trodAll_mk1 (shut_bool Tryz.underlying4 true),
      trodAll_mk2 (WideElems.Trod_stays laidOut (by kernel_rfl) (of_decide_eq_true (by kernel_rfl)) h0k (fun x hx => same_at hb (hlt x (by simp [hx]))) (fun x hx => by simpa using hlt x (by simp [hx])))
        (WideElems.Trod_stays laidOut (by kernel_rfl) (of_decide_eq_true (by kernel_rfl)) h1k (fun x hx => same_at hb (hlt x (by simp [hx]))) (fun x hx => by simpa using hlt x (by simp [hx]))),
      rfl, kept ho1 ho2 hb _, fun h => by cases h⟩
theorem amDeep_k0 : (Rows.amDeepRow.wf (OpenSpec.ofChange Rows.amDeepSpec)) = true := by kernel_rfl
theorem amDeep_k1 : (laidOutB Tryz.pinned.checked.prog) = true := by kernel_rfl
theorem amDeep_k2 : (mapsRowed Tryz.pinned.checked.prog) = true := by kernel_rfl
theorem amDeep_k3 : (Tryz.f10.params.all (Tryz.pinned.checked.prog.readableRec ·)) = true := by kernel_rfl
theorem amDeep_k4 : (namedTie Tryz.pinned.checked.prog Rows.amDeepRow.named Rows.amDeepSpec.vars) = true := by kernel_rfl
theorem amDeep_k5 : ((Rows.amDeepRow.stops == [])) = true := by kernel_rfl
theorem amDeep_k6 : ((Tryz.pinned.checked.prog.stops == [])) = true := by kernel_rfl
theorem amDeep_k7 : ((Rows.amDeepRow.knobs == [])) = true := by kernel_rfl
theorem amDeep_k8 : ((Tryz.pinned.checked.prog.stopKnobs == [])) = true := by kernel_rfl
theorem amDeep_k9 : ((Rows.amDeepRow.inPlace == Tryz.pinned.checked.prog.inPlace 10)) = true := by kernel_rfl
theorem amDeep_k10 : ((Rows.amDeepRow.unfollowed == Tryz.pinned.checked.prog.unfollowed 10)) = true := by kernel_rfl
theorem amDeep_k11 : ((Rows.amDeepRow.recurses == Tryz.pinned.checked.prog.recurses 10)) = true := by kernel_rfl
theorem amDeep_k12 : ((Rows.amDeepRow.named == Tryz.pinned.checked.prog.varsNamed 10)) = true := by kernel_rfl
theorem amDeep_k13 : ((Rows.amDeepRow.maps == (Tryz.f10.params.toList ++ Rows.amDeepSpec.plain.varTypes Tryz.pinned.checked.prog).any (Tryz.pinned.checked.prog.mapsRec ·))) = true := by kernel_rfl
theorem amDeep_k14 : ((Rows.amDeepRow.ifaces == (Tryz.f10.params.toList ++ Rows.amDeepSpec.plain.varTypes Tryz.pinned.checked.prog).any (Tryz.pinned.checked.prog.ifacesRec ·))) = true := by kernel_rfl
theorem amDeep_k15 : ((Rows.amDeepRow.mapsOut == Tryz.pinned.checked.prog.mapsAmong Tryz.f10.resultTypes.toList)) = true := by kernel_rfl
theorem amDeep_k16 : ((Rows.amDeepRow.loops == (Tryz.f10.params.toList ++ Rows.amDeepSpec.plain.varTypes Tryz.pinned.checked.prog).any (Tryz.pinned.checked.prog.loopsFrom ·))) = true := by kernel_rfl
theorem amDeep_k17 : ((Rows.amDeepRow.wideKeys == (Tryz.f10.params.toList ++ Rows.amDeepSpec.plain.varTypes Tryz.pinned.checked.prog ++ Tryz.f10.resultTypes.toList).any (Tryz.pinned.checked.prog.wideKeysFrom ·))) = true := by kernel_rfl
theorem amDeep_k18 : (Rows.amDeepSpec.vars.all (Tryz.pinned.checked.prog.varReadable ·)) = true := by kernel_rfl
theorem amDeep_k19 : (Tryz.f10.resultTypes.all (fun t => Tryz.pinned.checked.prog.readableRec t && decide (t < Tryz.pinned.checked.prog.types.size))) = true := by kernel_rfl
theorem amDeep_k20 : ((Rows.amDeepRow.ifacesOut == Tryz.f10.resultTypes.toList.any (Tryz.pinned.checked.prog.ifacesRec ·))) = true := by kernel_rfl
theorem amDeep_k21 : ((Rows.amDeepRow.loopsOut == Tryz.f10.resultTypes.toList.any (Tryz.pinned.checked.prog.loopsFrom ·))) = true := by kernel_rfl
theorem amDeep_k22 : ((Rows.amDeepRow.plainKeys == Tryz.pinned.checked.prog.plainKeys)) = true := by kernel_rfl
theorem amDeep_k23 : (Rows.amDeepRow.shortTexts.isNone) = true := by kernel_rfl
theorem amDeep_k24 : (Tryz.pinned.checked.prog.stopsHeard) = true := by kernel_rfl
theorem amDeep_k25 : (Tryz.pinned.checked.prog.mayEnter) = true := by kernel_rfl
theorem amDeep_k26 : ((Rows.amDeepRow.lifted == Tryz.pinned.checked.prog.liftsFinal)) = true := by kernel_rfl
theorem amDeep_k27 : ((Tryz.pinned.checked.prog.make == some Rows.amDeepRow.make)) = true := by kernel_rfl
theorem amDeep_k28 : ((Rows.amDeepRow.kinds == (if Rows.amDeepRow.domain.isEmpty then [] else Tryz.f10.params.toList.map fun t => match Tryz.pinned.checked.prog.underlying t with | some (.int k) => some k | _ => none))) = true := by kernel_rfl
theorem amDeep_k29 : ((Rows.amDeepRow.pinned == Rows.amDeepRow.pinnedBy)) = true := by kernel_rfl
theorem amDeep_k30 : ((Rows.amDeepRow.veiled == (Tryz.f10.params.toList ++ Rows.amDeepSpec.plain.varTypes Tryz.pinned.checked.prog ++ Tryz.f10.resultTypes.toList).any (Tryz.pinned.checked.prog.veiledRec ·))) = true := by kernel_rfl
theorem amDeep_k31 : (Rows.amDeepRow.veiledFits Tryz.pinned.checked.prog Tryz.f10.params.toList (Tryz.f10.params.toList ++ Rows.amDeepSpec.plain.varTypes Tryz.pinned.checked.prog ++ Tryz.f10.resultTypes.toList)) = true := by kernel_rfl
theorem amDeep_joined : joinedFacts Tryz.pinned.checked.prog 10 Tryz.f10 Rows.amDeepSpec Rows.amDeepRow = true := by
  unfold joinedFacts
  exact and_t (and_t (and_t (and_t (and_t (and_t (and_t (and_t (and_t (and_t (and_t (and_t (and_t (and_t (and_t (and_t (and_t (and_t (and_t (and_t (and_t (and_t (and_t (and_t (and_t (and_t (and_t (and_t (and_t (and_t (and_t amDeep_k0 amDeep_k1) amDeep_k2) amDeep_k3) amDeep_k4) amDeep_k5) amDeep_k6) amDeep_k7) amDeep_k8) amDeep_k9) amDeep_k10) amDeep_k11) amDeep_k12) amDeep_k13) amDeep_k14) amDeep_k15) amDeep_k16) amDeep_k17) amDeep_k18) amDeep_k19) amDeep_k20) amDeep_k21) amDeep_k22) amDeep_k23) amDeep_k24) amDeep_k25) amDeep_k26) amDeep_k27) amDeep_k28) amDeep_k29) amDeep_k30) amDeep_k31
theorem amDeep_c1 : Tryz.pinned.checked.prog.funcNamed Rows.amDeepRow.func = some 10 := by kernel_rfl
theorem amDeep_c2 : Tryz.f10.isInstance Tryz.pinned.checked.prog Rows.amDeepRow.origin Rows.amDeepRow.targs := of_decide_eq_true (by kernel_rfl)
theorem amDeep_c3 : Tryz.f10.isWrapper Tryz.pinned.checked.prog Rows.amDeepRow.wrapper Rows.amDeepRow.mainSum := by unfold Func.isWrapper; first | (rw [if_pos (by decide +kernel)]; kernel_rfl) | (rw [if_neg (by decide +kernel)]; exact ⟨rfl, rfl⟩)
theorem amDeep_c4 : Rows.amDeepRow.wfByText (OpenSpec.ofChange Rows.amDeepSpec) = true := by kernel_rfl
theorem amDeep_c5 : Tryz.pinned.checked.prog.mainIs = some (true, "cd45e37b8aa834609e4f1070d9a783abe4f14363e7fef7293f412501837b8ada".toList) := by kernel_rfl
theorem amDeep_c6 : Tryz.prog.funcNamed "transhipment/transhipmentlaw12.AmDeep" = some 10 := by kernel_rfl
theorem amDeep_c7 : false = Tryz.prog.looks [] := by kernel_rfl
theorem amDeep_c8 : ([31, 3].all fun u => !Tryz.prog.wantsStandIn u) = true := by kernel_rfl
theorem amDeep_c9 : false = Rows.amDeepRow.goesBy Tryz.pinned.checked.prog := by kernel_rfl
theorem amDeep_holds : Rows.AmDeepSaid :=
  OpenClaim.holds_of_wide 10 Tryz.f10 rfl rfl rfl rfl rfl rfl rfl ⟨rfl, rfl, rfl, rfl, rfl⟩ rfl rfl rfl rfl rfl amDeep_c1 Tryz.func10 amDeep_joined amDeep_c2 amDeep_c3
    (fun os started H enc _ => amDeep_lifted os started H enc)
theorem amDeep_card : Rows.AmDeepCardSaid :=
  Claim7.holds_tied_plain_at .later [] [.data, .data, .data, .data, .widerDeep, .pinned] true (true, "cd45e37b8aa834609e4f1070d9a783abe4f14363e7fef7293f412501837b8ada") false amDeep_holds (fun _ h => by cases h) amDeep_c4 (fun _ h => by cases h) amDeep_row_tie rfl ⟨rfl, rfl⟩ amDeep_c5 rfl
    (fun f fn hf hfn => by
      obtain rfl : f = 10 := Option.some.inj (amDeep_c6.symm.trans hf) |>.symm
      obtain rfl : fn = Tryz.f10 := (Option.some.inj (Tryz.func10.symm.trans hfn)).symm
      exact ⟨amDeep_c7, fun j t ht => by
        rw [Tryz.params10] at ht
        have hm : t ∈ [31, 3] := by simpa using Array.mem_of_getElem? ht
        exact (show Tryz.prog.wantsStandIn t = false by simpa using List.all_eq_true.1 amDeep_c8 t hm)⟩)
    amDeep_c9
#print axioms amDeep_card
end Go.Proofs.YtiddkdneoldkoaaGreatDoor
