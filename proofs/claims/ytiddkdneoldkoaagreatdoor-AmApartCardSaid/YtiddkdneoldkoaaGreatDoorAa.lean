/- Texts of this claim: plain laws of what the program's functions compute. No condition of their own. -/
import Derived.Test.YtiddkdneoldkoaaGreatDoorAaRa
import Derived.Test.YtiddkdneoldkoaaGreatDoorAaFc
import Derived.Test.YtiddkdneoldkoaaGreatDoorAaWc
namespace Go.Proofs.YtiddkdneoldkoaaGreatDoor
set_option linter.unusedSimpArgs false
set_option linter.unusedVariables false
set_option linter.unusedSectionVars false
open Go Go.PL Go.Proofs Go.ChangeShapes Go.WideShapes Go.RowKit Rs
set_option maxRecDepth 100000
theorem amApart_lifted (os : Os) (started : os.Started) (H : Type) (enc : TypeId × Value → H) :
    ReturnsInHanded {} Tryz.checked os 13 .any (fun w args => (Rows.amApartSpec.pre enc Tryz.prog Tryz.f13 [] false w args ∧ laidMetH Tryz.prog Rows.amApartRow.laid w) ∧ sizedMet enc Tryz.prog Tryz.f13 (OpenSpec.ofChange Rows.amApartSpec) false w args)
      (Rows.amApartSpec.post enc Tryz.prog Tryz.f13 false true false false) := by
  refine returns_sx (C := Tryz.checked) (X := fun w _ => laidMetH Tryz.prog Rows.amApartRow.laid w) (fun _ _ _ hh h => h.of_heap hh) own started (by kernel_rfl) Tryz.func13
    (ChangeSpec.witness_shaped (enc := enc) (C := Tryz.checked) (os := os) (X := fun w _ => laidMetH Tryz.prog Rows.amApartRow.laid w) false (World.laidAll Tryz.prog os Rows.amApartRow.laid) #[.agg #[.slice none 0 0, .string .empty, .slice none 0 0, .slice none 0 0, .int .i64 0, .int .i64 0, .int .i64 0, .slice none 0 0, .bool false, .slice none 0 0, .slice none 0 0, .slice none 0 0, .slice none 0 0], .agg #[.slice none 0 0, .string .empty, .slice none 0 0, .slice none 0 0, .int .i64 0, .int .i64 0, .int .i64 0, .slice none 0 0, .bool false, .slice none 0 0, .slice none 0 0, .slice none 0 0, .slice none 0 0]] 8 (World.laidAll_os _ _ _)
      (World.shaped_of_ZipB (by kernel_rfl) (by kernel_rfl)) (by kernel_rfl) (by kernel_rfl) (by kernel_rfl)
      (by rw [MakeChecks.laidMetH_plain _ _ _ (by kernel_rfl)]; exact laidMet_laidAll _ (by kernel_rfl) (by kernel_rfl))) ?_
  intro W base args ds gs before hval0 hW hL hsh
  have hval : ∀ (j : Nat) t v, Tryz.f13.params[j]? = some t → args[j]? = some v → Value.okWide Tryz.prog W .any base t v := hval0
  have hW' := hW
  obtain ⟨p, q, hA0, hV, rfl, _, _⟩ := hW
  have hA : DataW.TrodAll enc Tryz.prog W 0 (fun _ => true) true Tryz.f13.params.toList args.toList ds p := hA0
  rw [Tryz.params13] at hA hval
  rw [MakeChecks.laidMetH_plain _ _ _ (by kernel_rfl)] at hL
  obtain ⟨m, hg⟩ := gi_all hsh (tab_read (Lib.laidMet.reads hL (n := "internal/strconv.uint64pow10") (d := Rows.laid_internal_strconv_uint64pow10) (.tail _ (.tail _ (.head _))))) (days_read (Lib.laidMet.reads hL (n := "transhipment/hours.names") (d := Rows.laid_transhipment_hours_names) (.tail _ (.tail _ (.tail _ (.tail _ (.head _)))))))
  letI : GM := ⟨m, false⟩
  obtain ⟨v0, v1, d0, d1, p0, p1, rfl, rfl, rfl, h0, h1⟩ := trodAll_two hA
  obtain ⟨rfl, rfl⟩ := trodVars_none hV
  have h0k := h0
  obtain ⟨cs0, rfl, _⟩ := okWide_struct Tryz.underlying31 (hval 0 31 v0 rfl rfl)
  obtain ⟨fuel0, hf0⟩ := h0
  obtain ⟨c0, hp0, ft0⟩ := config_read hf0
  have hcs0 : (Value.agg cs0).cells.toList.toArray = cs0 := by simp [Value.cells]
  rw [hcs0] at hp0
  have h1k := h1
  obtain ⟨cs1, rfl, _⟩ := okWide_struct Tryz.underlying31 (hval 1 31 v1 rfl rfl)
  obtain ⟨fuel1, hf1⟩ := h1
  obtain ⟨c1, hp1, ft1⟩ := config_read hf1
  have hcs1 : (Value.agg cs1).cells.toList.toArray = cs1 := by simp [Value.cells]
  rw [hcs1] at hp1
  have hr := AmApart_true c0 c1 ft0 ft1
  refine (law_run (transhipmentlaw12_AmApart_ok rfl hr) Tryz.call13 (vals := [.agg cs0, .agg cs1]) ⟨rfl, fun i v p hv hp' => ?_⟩ hg).mono fun e W' ⟨he, ho1, ho2, hb⟩ => ?_
  · match i, hv, hp' with
    | 0, hv, hp' => cases hv; cases hp'; exact hp0
    | 1, hv, hp' => cases hv; cases hp'; exact hp1
    | i + 2, hv, hp' => simp at hv
  · subst he
    have hlt : ∀ x ∈ p0 ++ p1, x.block < W.heap.size := fun x hx => hW'.lt x (by simpa using hx)
    exact ⟨_, rfl, _, _, _, [], _, [], hW', trodAll_mk1 (shut_bool Tryz.underlying4 true),
      trodAll_mk2 (WideElems.Trod_stays laidOut (by kernel_rfl) (of_decide_eq_true (by kernel_rfl)) h0k (fun x hx => same_at hb (hlt x (by simp [hx]))) (fun x hx => by simpa using hlt x (by simp [hx])))
        (WideElems.Trod_stays laidOut (by kernel_rfl) (of_decide_eq_true (by kernel_rfl)) h1k (fun x hx => same_at hb (hlt x (by simp [hx]))) (fun x hx => by simpa using hlt x (by simp [hx]))),
      rfl, kept ho1 ho2 hb _, fun h => by cases h⟩
theorem amApart_k0 : (Rows.amApartRow.wf (OpenSpec.ofChange Rows.amApartSpec)) = true := by kernel_rfl
theorem amApart_k1 : (laidOutB Tryz.pinned.checked.prog) = true := by kernel_rfl
theorem amApart_k2 : (mapsRowed Tryz.pinned.checked.prog) = true := by kernel_rfl
theorem amApart_k3 : (Tryz.f13.params.all (Tryz.pinned.checked.prog.readableRec ·)) = true := by kernel_rfl
theorem amApart_k4 : (namedTie Tryz.pinned.checked.prog Rows.amApartRow.named Rows.amApartSpec.vars) = true := by kernel_rfl
theorem amApart_k5 : ((Rows.amApartRow.stops == [])) = true := by kernel_rfl
theorem amApart_k6 : ((Tryz.pinned.checked.prog.stops == [])) = true := by kernel_rfl
theorem amApart_k7 : ((Rows.amApartRow.knobs == [])) = true := by kernel_rfl
theorem amApart_k8 : ((Tryz.pinned.checked.prog.stopKnobs == [])) = true := by kernel_rfl
theorem amApart_k9 : ((Rows.amApartRow.inPlace == Tryz.pinned.checked.prog.inPlace 13)) = true := by kernel_rfl
theorem amApart_k10 : ((Rows.amApartRow.unfollowed == Tryz.pinned.checked.prog.unfollowed 13)) = true := by kernel_rfl
theorem amApart_k11 : ((Rows.amApartRow.recurses == Tryz.pinned.checked.prog.recurses 13)) = true := by kernel_rfl
theorem amApart_k12 : ((Rows.amApartRow.named == Tryz.pinned.checked.prog.varsNamed 13)) = true := by kernel_rfl
theorem amApart_k13 : ((Rows.amApartRow.maps == (Tryz.f13.params.toList ++ Rows.amApartSpec.plain.varTypes Tryz.pinned.checked.prog).any (Tryz.pinned.checked.prog.mapsRec ·))) = true := by kernel_rfl
theorem amApart_k14 : ((Rows.amApartRow.ifaces == (Tryz.f13.params.toList ++ Rows.amApartSpec.plain.varTypes Tryz.pinned.checked.prog).any (Tryz.pinned.checked.prog.ifacesRec ·))) = true := by kernel_rfl
theorem amApart_k15 : ((Rows.amApartRow.mapsOut == Tryz.pinned.checked.prog.mapsAmong Tryz.f13.resultTypes.toList)) = true := by kernel_rfl
theorem amApart_k16 : ((Rows.amApartRow.loops == (Tryz.f13.params.toList ++ Rows.amApartSpec.plain.varTypes Tryz.pinned.checked.prog).any (Tryz.pinned.checked.prog.loopsFrom ·))) = true := by kernel_rfl
theorem amApart_k17 : ((Rows.amApartRow.wideKeys == (Tryz.f13.params.toList ++ Rows.amApartSpec.plain.varTypes Tryz.pinned.checked.prog ++ Tryz.f13.resultTypes.toList).any (Tryz.pinned.checked.prog.wideKeysFrom ·))) = true := by kernel_rfl
theorem amApart_k18 : (Rows.amApartSpec.vars.all (Tryz.pinned.checked.prog.varReadable ·)) = true := by kernel_rfl
theorem amApart_k19 : (Tryz.f13.resultTypes.all (fun t => Tryz.pinned.checked.prog.readableRec t && decide (t < Tryz.pinned.checked.prog.types.size))) = true := by kernel_rfl
theorem amApart_k20 : ((Rows.amApartRow.ifacesOut == Tryz.f13.resultTypes.toList.any (Tryz.pinned.checked.prog.ifacesRec ·))) = true := by kernel_rfl
theorem amApart_k21 : ((Rows.amApartRow.loopsOut == Tryz.f13.resultTypes.toList.any (Tryz.pinned.checked.prog.loopsFrom ·))) = true := by kernel_rfl
theorem amApart_k22 : ((Rows.amApartRow.plainKeys == Tryz.pinned.checked.prog.plainKeys)) = true := by kernel_rfl
theorem amApart_k23 : (Rows.amApartRow.shortTexts.isNone) = true := by kernel_rfl
theorem amApart_k24 : (Tryz.pinned.checked.prog.stopsHeard) = true := by kernel_rfl
theorem amApart_k25 : (Tryz.pinned.checked.prog.mayEnter) = true := by kernel_rfl
theorem amApart_k26 : ((Rows.amApartRow.lifted == Tryz.pinned.checked.prog.liftsFinal)) = true := by kernel_rfl
theorem amApart_k27 : ((Tryz.pinned.checked.prog.make == some Rows.amApartRow.make)) = true := by kernel_rfl
theorem amApart_k28 : ((Rows.amApartRow.kinds == (if Rows.amApartRow.domain.isEmpty then [] else Tryz.f13.params.toList.map fun t => match Tryz.pinned.checked.prog.underlying t with | some (.int k) => some k | _ => none))) = true := by kernel_rfl
theorem amApart_k29 : ((Rows.amApartRow.pinned == Rows.amApartRow.pinnedBy)) = true := by kernel_rfl
theorem amApart_k30 : ((Rows.amApartRow.veiled == (Tryz.f13.params.toList ++ Rows.amApartSpec.plain.varTypes Tryz.pinned.checked.prog ++ Tryz.f13.resultTypes.toList).any (Tryz.pinned.checked.prog.veiledRec ·))) = true := by kernel_rfl
theorem amApart_k31 : (Rows.amApartRow.veiledFits Tryz.pinned.checked.prog Tryz.f13.params.toList (Tryz.f13.params.toList ++ Rows.amApartSpec.plain.varTypes Tryz.pinned.checked.prog ++ Tryz.f13.resultTypes.toList)) = true := by kernel_rfl
theorem amApart_joined : joinedFacts Tryz.pinned.checked.prog 13 Tryz.f13 Rows.amApartSpec Rows.amApartRow = true := by
  unfold joinedFacts
  exact and_t (and_t (and_t (and_t (and_t (and_t (and_t (and_t (and_t (and_t (and_t (and_t (and_t (and_t (and_t (and_t (and_t (and_t (and_t (and_t (and_t (and_t (and_t (and_t (and_t (and_t (and_t (and_t (and_t (and_t (and_t amApart_k0 amApart_k1) amApart_k2) amApart_k3) amApart_k4) amApart_k5) amApart_k6) amApart_k7) amApart_k8) amApart_k9) amApart_k10) amApart_k11) amApart_k12) amApart_k13) amApart_k14) amApart_k15) amApart_k16) amApart_k17) amApart_k18) amApart_k19) amApart_k20) amApart_k21) amApart_k22) amApart_k23) amApart_k24) amApart_k25) amApart_k26) amApart_k27) amApart_k28) amApart_k29) amApart_k30) amApart_k31
theorem amApart_c1 : Tryz.pinned.checked.prog.funcNamed Rows.amApartRow.func = some 13 := by kernel_rfl
theorem amApart_c2 : Tryz.f13.isInstance Tryz.pinned.checked.prog Rows.amApartRow.origin Rows.amApartRow.targs := of_decide_eq_true (by kernel_rfl)
theorem amApart_c3 : Tryz.f13.isWrapper Tryz.pinned.checked.prog Rows.amApartRow.wrapper Rows.amApartRow.mainSum := by unfold Func.isWrapper; first | (rw [if_pos (by decide +kernel)]; kernel_rfl) | (rw [if_neg (by decide +kernel)]; exact ⟨rfl, rfl⟩)
theorem amApart_c4 : Rows.amApartRow.wfByText (OpenSpec.ofChange Rows.amApartSpec) = true := by kernel_rfl
theorem amApart_c5 : Tryz.pinned.checked.prog.mainIs = some (true, "cd45e37b8aa834609e4f1070d9a783abe4f14363e7fef7293f412501837b8ada".toList) := by kernel_rfl
theorem amApart_c6 : Tryz.prog.funcNamed "transhipment/transhipmentlaw12.AmApart" = some 13 := by kernel_rfl
theorem amApart_c7 : false = Tryz.prog.looks [] := by kernel_rfl
theorem amApart_c8 : ([31, 31].all fun u => !Tryz.prog.wantsStandIn u) = true := by kernel_rfl
theorem amApart_c9 : false = Rows.amApartRow.goesBy Tryz.pinned.checked.prog := by kernel_rfl
theorem amApart_holds : Rows.AmApartSaid :=
  OpenClaim.holds_of_wide 13 Tryz.f13 rfl rfl rfl rfl rfl rfl rfl ⟨rfl, rfl, rfl, rfl, rfl⟩ rfl rfl rfl rfl rfl amApart_c1 Tryz.func13 amApart_joined amApart_c2 amApart_c3
    (fun os started H enc _ => amApart_lifted os started H enc)
theorem amApart_card : Rows.AmApartCardSaid :=
  Claim7.holds_tied_plain_at .later [] [.data, .data, .data, .data, .widerDeep, .pinned] true (true, "cd45e37b8aa834609e4f1070d9a783abe4f14363e7fef7293f412501837b8ada") false amApart_holds (fun _ h => by cases h) amApart_c4 (fun _ h => by cases h) amApart_row_tie rfl ⟨rfl, rfl⟩ amApart_c5 rfl
    (fun f fn hf hfn => by
      obtain rfl : f = 13 := Option.some.inj (amApart_c6.symm.trans hf) |>.symm
      obtain rfl : fn = Tryz.f13 := (Option.some.inj (Tryz.func13.symm.trans hfn)).symm
      exact ⟨amApart_c7, fun j t ht => by
        rw [Tryz.params13] at ht
        have hm : t ∈ [31, 31] := by simpa using Array.mem_of_getElem? ht
        exact (show Tryz.prog.wantsStandIn t = false by simpa using List.all_eq_true.1 amApart_c8 t hm)⟩)
    amApart_c9
#print axioms amApart_card
end Go.Proofs.YtiddkdneoldkoaaGreatDoor
