/- Texts of this claim: plain laws of what the program's functions compute. No condition of their own. -/
import Derived.Test.YtiddkdneoldkoaaGreatDoorRa
import Derived.Test.YtiddkdneoldkoaaGreatDoorFc
import Derived.Test.YtiddkdneoldkoaaGreatDoorWc
namespace Go.Proofs.YtiddkdneoldkoaaGreatDoor
set_option linter.unusedSimpArgs false
set_option linter.unusedVariables false
set_option linter.unusedSectionVars false
open Go Go.PL Go.Proofs Go.ChangeShapes Go.WideShapes Go.RowKit Rs
set_option maxRecDepth 100000
theorem nagWhy_lifted (os : Os) (started : os.Started) (H : Type) (enc : TypeId × Value → H) :
    ReturnsInHanded {} Tryz.checked os 6 .any (fun w args => (Rows.nagWhySpec.pre enc Tryz.prog Tryz.f6 [] false w args ∧ laidMetH Tryz.prog Rows.nagWhyRow.laid w) ∧ sizedMet enc Tryz.prog Tryz.f6 (OpenSpec.ofChange Rows.nagWhySpec) false w args)
      (Rows.nagWhySpec.post enc Tryz.prog Tryz.f6 false true false false) := by
  refine returns_sx (C := Tryz.checked) (X := fun w _ => laidMetH Tryz.prog Rows.nagWhyRow.laid w) (fun _ _ _ hh h => h.of_heap hh) own started (by kernel_rfl) Tryz.func6
    (ChangeSpec.witness_shaped (enc := enc) (C := Tryz.checked) (os := os) (X := fun w _ => laidMetH Tryz.prog Rows.nagWhyRow.laid w) false (World.laidAll Tryz.prog os Rows.nagWhyRow.laid) #[.agg #[.slice none 0 0, .string .empty, .slice none 0 0, .slice none 0 0, .int .i64 0, .int .i64 0, .int .i64 0, .slice none 0 0, .bool false, .slice none 0 0, .slice none 0 0, .slice none 0 0, .slice none 0 0]] 8 (World.laidAll_os _ _ _)
      (World.shaped_of_ZipB (by kernel_rfl) (by kernel_rfl)) (by kernel_rfl) (by kernel_rfl) (by kernel_rfl)
      (by rw [MakeChecks.laidMetH_plain _ _ _ (by kernel_rfl)]; exact laidMet_laidAll _ (by kernel_rfl) (by kernel_rfl))) ?_
  intro W base args ds gs before hval0 hW hL hsh
  have hval : ∀ (j : Nat) t v, Tryz.f6.params[j]? = some t → args[j]? = some v → Value.okWide Tryz.prog W .any base t v := hval0
  have hW' := hW
  obtain ⟨p, q, hA0, hV, rfl, _, _⟩ := hW
  have hA : DataW.TrodAll enc Tryz.prog W 0 (fun _ => true) true Tryz.f6.params.toList args.toList ds p := hA0
  rw [Tryz.params6] at hA hval
  rw [MakeChecks.laidMetH_plain _ _ _ (by kernel_rfl)] at hL
  obtain ⟨m, hg⟩ := gi_all hsh (tab_read (Lib.laidMet.reads hL (n := "internal/strconv.uint64pow10") (d := Rows.laid_internal_strconv_uint64pow10) (.tail _ (.tail _ (.head _))))) (days_read (Lib.laidMet.reads hL (n := "transhipment/hours.names") (d := Rows.laid_transhipment_hours_names) (.tail _ (.tail _ (.tail _ (.tail _ (.head _)))))))
  letI : GM := ⟨m, false⟩
  obtain ⟨v0, d0, rfl, rfl, h0⟩ := trodAll_one hA
  obtain ⟨rfl, rfl⟩ := trodVars_none hV
  have h0k := h0
  obtain ⟨cs0, rfl, _⟩ := okWide_struct Tryz.underlying31 (hval 0 31 v0 rfl rfl)
  obtain ⟨fuel0, hf0⟩ := h0
  obtain ⟨c0, hp0, ft0⟩ := config_read hf0
  have hcs0 : (Value.agg cs0).cells.toList.toArray = cs0 := by simp [Value.cells]
  rw [hcs0] at hp0
  have hr := NagWhy_true c0 ft0
  refine (law_run (transhipmentlaw13_NagWhy_ok rfl hr) Tryz.call6 (vals := [.agg cs0]) ⟨rfl, fun i v p hv hp' => ?_⟩ hg).mono fun e W' ⟨he, ho1, ho2, hb⟩ => ?_
  · match i, hv, hp' with
    | 0, hv, hp' => cases hv; cases hp'; exact hp0
    | i + 1, hv, hp' => simp at hv
  · subst he
    have hlt : ∀ x ∈ p, x.block < W.heap.size := fun x hx => hW'.lt x (by simpa using hx)
    exact ⟨_, rfl, _, _, _, [], _, [], hW', trodAll_mk1 (shut_bool Tryz.underlying4 true),
      trodAll_mk1 (WideElems.Trod_stays laidOut (by kernel_rfl) (of_decide_eq_true (by kernel_rfl)) h0k (fun x hx => same_at hb (hlt x hx)) (fun x hx => by simpa using hlt x hx)),
      rfl, kept ho1 ho2 hb _, fun h => by cases h⟩
theorem nagWhy_k0 : (Rows.nagWhyRow.wf (OpenSpec.ofChange Rows.nagWhySpec)) = true := by kernel_rfl
theorem nagWhy_k1 : (laidOutB Tryz.pinned.checked.prog) = true := by kernel_rfl
theorem nagWhy_k2 : (mapsRowed Tryz.pinned.checked.prog) = true := by kernel_rfl
theorem nagWhy_k3 : (Tryz.f6.params.all (Tryz.pinned.checked.prog.readableRec ·)) = true := by kernel_rfl
theorem nagWhy_k4 : (namedTie Tryz.pinned.checked.prog Rows.nagWhyRow.named Rows.nagWhySpec.vars) = true := by kernel_rfl
theorem nagWhy_k5 : ((Rows.nagWhyRow.stops == [])) = true := by kernel_rfl
theorem nagWhy_k6 : ((Tryz.pinned.checked.prog.stops == [])) = true := by kernel_rfl
theorem nagWhy_k7 : ((Rows.nagWhyRow.knobs == [])) = true := by kernel_rfl
theorem nagWhy_k8 : ((Tryz.pinned.checked.prog.stopKnobs == [])) = true := by kernel_rfl
theorem nagWhy_k9 : ((Rows.nagWhyRow.inPlace == Tryz.pinned.checked.prog.inPlace 6)) = true := by kernel_rfl
theorem nagWhy_k10 : ((Rows.nagWhyRow.unfollowed == Tryz.pinned.checked.prog.unfollowed 6)) = true := by kernel_rfl
theorem nagWhy_k11 : ((Rows.nagWhyRow.recurses == Tryz.pinned.checked.prog.recurses 6)) = true := by kernel_rfl
theorem nagWhy_k12 : ((Rows.nagWhyRow.named == Tryz.pinned.checked.prog.varsNamed 6)) = true := by kernel_rfl
theorem nagWhy_k13 : ((Rows.nagWhyRow.maps == (Tryz.f6.params.toList ++ Rows.nagWhySpec.plain.varTypes Tryz.pinned.checked.prog).any (Tryz.pinned.checked.prog.mapsRec ·))) = true := by kernel_rfl
theorem nagWhy_k14 : ((Rows.nagWhyRow.ifaces == (Tryz.f6.params.toList ++ Rows.nagWhySpec.plain.varTypes Tryz.pinned.checked.prog).any (Tryz.pinned.checked.prog.ifacesRec ·))) = true := by kernel_rfl
theorem nagWhy_k15 : ((Rows.nagWhyRow.mapsOut == Tryz.pinned.checked.prog.mapsAmong Tryz.f6.resultTypes.toList)) = true := by kernel_rfl
theorem nagWhy_k16 : ((Rows.nagWhyRow.loops == (Tryz.f6.params.toList ++ Rows.nagWhySpec.plain.varTypes Tryz.pinned.checked.prog).any (Tryz.pinned.checked.prog.loopsFrom ·))) = true := by kernel_rfl
theorem nagWhy_k17 : ((Rows.nagWhyRow.wideKeys == (Tryz.f6.params.toList ++ Rows.nagWhySpec.plain.varTypes Tryz.pinned.checked.prog ++ Tryz.f6.resultTypes.toList).any (Tryz.pinned.checked.prog.wideKeysFrom ·))) = true := by kernel_rfl
theorem nagWhy_k18 : (Rows.nagWhySpec.vars.all (Tryz.pinned.checked.prog.varReadable ·)) = true := by kernel_rfl
theorem nagWhy_k19 : (Tryz.f6.resultTypes.all (fun t => Tryz.pinned.checked.prog.readableRec t && decide (t < Tryz.pinned.checked.prog.types.size))) = true := by kernel_rfl
theorem nagWhy_k20 : ((Rows.nagWhyRow.ifacesOut == Tryz.f6.resultTypes.toList.any (Tryz.pinned.checked.prog.ifacesRec ·))) = true := by kernel_rfl
theorem nagWhy_k21 : ((Rows.nagWhyRow.loopsOut == Tryz.f6.resultTypes.toList.any (Tryz.pinned.checked.prog.loopsFrom ·))) = true := by kernel_rfl
theorem nagWhy_k22 : ((Rows.nagWhyRow.plainKeys == Tryz.pinned.checked.prog.plainKeys)) = true := by kernel_rfl
theorem nagWhy_k23 : (Rows.nagWhyRow.shortTexts.isNone) = true := by kernel_rfl
theorem nagWhy_k24 : (Tryz.pinned.checked.prog.stopsHeard) = true := by kernel_rfl
theorem nagWhy_k25 : (Tryz.pinned.checked.prog.mayEnter) = true := by kernel_rfl
theorem nagWhy_k26 : ((Rows.nagWhyRow.lifted == Tryz.pinned.checked.prog.liftsFinal)) = true := by kernel_rfl
theorem nagWhy_k27 : ((Tryz.pinned.checked.prog.make == some Rows.nagWhyRow.make)) = true := by kernel_rfl
theorem nagWhy_k28 : ((Rows.nagWhyRow.kinds == (if Rows.nagWhyRow.domain.isEmpty then [] else Tryz.f6.params.toList.map fun t => match Tryz.pinned.checked.prog.underlying t with | some (.int k) => some k | _ => none))) = true := by kernel_rfl
theorem nagWhy_k29 : ((Rows.nagWhyRow.pinned == Rows.nagWhyRow.pinnedBy)) = true := by kernel_rfl
theorem nagWhy_k30 : ((Rows.nagWhyRow.veiled == (Tryz.f6.params.toList ++ Rows.nagWhySpec.plain.varTypes Tryz.pinned.checked.prog ++ Tryz.f6.resultTypes.toList).any (Tryz.pinned.checked.prog.veiledRec ·))) = true := by kernel_rfl
theorem nagWhy_k31 : (Rows.nagWhyRow.veiledFits Tryz.pinned.checked.prog Tryz.f6.params.toList (Tryz.f6.params.toList ++ Rows.nagWhySpec.plain.varTypes Tryz.pinned.checked.prog ++ Tryz.f6.resultTypes.toList)) = true := by kernel_rfl
theorem nagWhy_joined : joinedFacts Tryz.pinned.checked.prog 6 Tryz.f6 Rows.nagWhySpec Rows.nagWhyRow = true := by
  unfold joinedFacts
  exact and_t (and_t (and_t (and_t (and_t (and_t (and_t (and_t (and_t (and_t (and_t (and_t (and_t (and_t (and_t (and_t (and_t (and_t (and_t (and_t (and_t (and_t (and_t (and_t (and_t (and_t (and_t (and_t (and_t (and_t (and_t nagWhy_k0 nagWhy_k1) nagWhy_k2) nagWhy_k3) nagWhy_k4) nagWhy_k5) nagWhy_k6) nagWhy_k7) nagWhy_k8) nagWhy_k9) nagWhy_k10) nagWhy_k11) nagWhy_k12) nagWhy_k13) nagWhy_k14) nagWhy_k15) nagWhy_k16) nagWhy_k17) nagWhy_k18) nagWhy_k19) nagWhy_k20) nagWhy_k21) nagWhy_k22) nagWhy_k23) nagWhy_k24) nagWhy_k25) nagWhy_k26) nagWhy_k27) nagWhy_k28) nagWhy_k29) nagWhy_k30) nagWhy_k31
theorem nagWhy_c1 : Tryz.pinned.checked.prog.funcNamed Rows.nagWhyRow.func = some 6 := by kernel_rfl
theorem nagWhy_c2 : Tryz.f6.isInstance Tryz.pinned.checked.prog Rows.nagWhyRow.origin Rows.nagWhyRow.targs := of_decide_eq_true (by kernel_rfl)
theorem nagWhy_c3 : Tryz.f6.isWrapper Tryz.pinned.checked.prog Rows.nagWhyRow.wrapper Rows.nagWhyRow.mainSum := by unfold Func.isWrapper; first | (rw [if_pos (by decide +kernel)]; kernel_rfl) | (rw [if_neg (by decide +kernel)]; exact ⟨rfl, rfl⟩)
theorem nagWhy_c4 : Rows.nagWhyRow.wfByText (OpenSpec.ofChange Rows.nagWhySpec) = true := by kernel_rfl
theorem nagWhy_c5 : Tryz.pinned.checked.prog.mainIs = some (true, "cd45e37b8aa834609e4f1070d9a783abe4f14363e7fef7293f412501837b8ada".toList) := by kernel_rfl
theorem nagWhy_c6 : Tryz.prog.funcNamed "transhipment/transhipmentlaw13.NagWhy" = some 6 := by kernel_rfl
theorem nagWhy_c7 : false = Tryz.prog.looks [] := by kernel_rfl
theorem nagWhy_c8 : ([31].all fun u => !Tryz.prog.wantsStandIn u) = true := by kernel_rfl
theorem nagWhy_c9 : false = Rows.nagWhyRow.goesBy Tryz.pinned.checked.prog := by kernel_rfl
theorem nagWhy_holds : Rows.NagWhySaid :=
  OpenClaim.holds_of_wide 6 Tryz.f6 rfl rfl rfl rfl rfl rfl rfl ⟨rfl, rfl, rfl, rfl, rfl⟩ rfl rfl rfl rfl rfl nagWhy_c1 Tryz.func6 nagWhy_joined nagWhy_c2 nagWhy_c3
    (fun os started H enc _ => nagWhy_lifted os started H enc)
theorem nagWhy_card : Rows.NagWhyCardSaid :=
  Claim7.holds_tied_plain_at .later [] [.data, .data, .data, .data, .widerDeep, .pinned] true (true, "cd45e37b8aa834609e4f1070d9a783abe4f14363e7fef7293f412501837b8ada") false nagWhy_holds (fun _ h => by cases h) nagWhy_c4 (fun _ h => by cases h) nagWhy_row_tie rfl ⟨rfl, rfl⟩ nagWhy_c5 rfl
    (fun f fn hf hfn => by
      obtain rfl : f = 6 := Option.some.inj (nagWhy_c6.symm.trans hf) |>.symm
      obtain rfl : fn = Tryz.f6 := (Option.some.inj (Tryz.func6.symm.trans hfn)).symm
      exact ⟨nagWhy_c7, fun j t ht => by
        rw [Tryz.params6] at ht
        have hm : t ∈ [31] := by simpa using Array.mem_of_getElem? ht
        exact (show Tryz.prog.wantsStandIn t = false by simpa using List.all_eq_true.1 nagWhy_c8 t hm)⟩)
    nagWhy_c9
#print axioms nagWhy_card
end Go.Proofs.YtiddkdneoldkoaaGreatDoor
