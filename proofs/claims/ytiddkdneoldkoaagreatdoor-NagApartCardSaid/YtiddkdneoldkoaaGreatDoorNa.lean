/- Texts of this claim: plain laws of what the program's functions compute. No condition of their own. -/
import Derived.Test.YtiddkdneoldkoaaGreatDoorRa
import Derived.Test.YtiddkdneoldkoaaGreatDoorFc
import Derived.Test.YtiddkdneoldkoaaGreatDoorWc
namespace Go.Proofs.YtiddkdneoldkoaaGreatDoor
set_option linter.unusedSimpArgs false
set_option linter.unusedVariables false
set_option linter.unusedSectionVars false
open Go Go.PL Go.Proofs Go.ChangeShapes Go.WideShapes Go.RowKit Rs
set_option maxRecDepth 100000
theorem nagApart_lifted (os : Os) (started : os.Started) (H : Type) (enc : TypeId × Value → H) :
    ReturnsInHanded {} Tryz.checked os 8 .any (fun w args => (Rows.nagApartSpec.pre enc Tryz.prog Tryz.f8 [] false w args ∧ laidMetH Tryz.prog Rows.nagApartRow.laid w) ∧ sizedMet enc Tryz.prog Tryz.f8 (OpenSpec.ofChange Rows.nagApartSpec) false w args)
      (Rows.nagApartSpec.post enc Tryz.prog Tryz.f8 false true false false) := by
  refine returns_sx (C := Tryz.checked) (X := fun w _ => laidMetH Tryz.prog Rows.nagApartRow.laid w) (fun _ _ _ hh h => h.of_heap hh) own started (by kernel_rfl) Tryz.func8
    (ChangeSpec.witness_shaped (enc := enc) (C := Tryz.checked) (os := os) (X := fun w _ => laidMetH Tryz.prog Rows.nagApartRow.laid w) false (World.laidAll Tryz.prog os Rows.nagApartRow.laid) #[.agg #[.slice none 0 0, .string .empty, .slice none 0 0, .slice none 0 0, .int .i64 0, .int .i64 0, .int .i64 0, .slice none 0 0, .bool false, .slice none 0 0, .slice none 0 0, .slice none 0 0, .slice none 0 0], .agg #[.slice none 0 0, .string .empty, .slice none 0 0, .slice none 0 0, .int .i64 0, .int .i64 0, .int .i64 0, .slice none 0 0, .bool false, .slice none 0 0, .slice none 0 0, .slice none 0 0, .slice none 0 0]] 8 (World.laidAll_os _ _ _)
      (World.shaped_of_ZipB (by kernel_rfl) (by kernel_rfl)) (by kernel_rfl) (by kernel_rfl) (by kernel_rfl)
      (by rw [MakeChecks.laidMetH_plain _ _ _ (by kernel_rfl)]; exact laidMet_laidAll _ (by kernel_rfl) (by kernel_rfl))) ?_
  intro W base args ds gs before hval0 hW hL hsh
  have hval : ∀ (j : Nat) t v, Tryz.f8.params[j]? = some t → args[j]? = some v → Value.okWide Tryz.prog W .any base t v := hval0
  have hW' := hW
  obtain ⟨p, q, hA0, hV, rfl, _, _⟩ := hW
  have hA : DataW.TrodAll enc Tryz.prog W 0 (fun _ => true) true Tryz.f8.params.toList args.toList ds p := hA0
  rw [Tryz.params8] at hA hval
  rw [MakeChecks.laidMetH_plain _ _ _ (by kernel_rfl)] at hL
  obtain ⟨m, hg⟩ := gi_all hsh (tab_read (Lib.laidMet.reads hL (n := "internal/strconv.uint64pow10") (d := Rows.laid_internal_strconv_uint64pow10) (.tail _ (.tail _ (.head _))))) (days_read (Lib.laidMet.reads hL (n := "transhipment/hours.names") (d := Rows.laid_transhipment_hours_names) (.tail _ (.tail _ (.tail _ (.tail _ (.head _)))))))
  letI : GM := ⟨m, false⟩
  obtain ⟨v0, v1, d0, d1, p0, p1, rfl, rfl, rfl, h0, h1⟩ := trodAll_two hA
  obtain ⟨rfl, rfl⟩ := trodVars_none hV
  have h0k := h0
  obtain ⟨cs0, rfl, _⟩ := okWide_struct Tryz.underlying31 (hval 0 31 v0 rfl rfl)
  obtain ⟨fuel0, hf0⟩ := h0
  obtain ⟨c0, hp0, ft0⟩ := config_read hf0
  have hcs0 : (Value.agg cs0).cells.toList.toArray = cs0 := by simp [Value.cells]
  rw [hcs0] at hp0
  have h1k := h1
  obtain ⟨cs1, rfl, _⟩ := okWide_struct Tryz.underlying31 (hval 1 31 v1 rfl rfl)
  obtain ⟨fuel1, hf1⟩ := h1
  obtain ⟨c1, hp1, ft1⟩ := config_read hf1
  have hcs1 : (Value.agg cs1).cells.toList.toArray = cs1 := by simp [Value.cells]
  rw [hcs1] at hp1
  have hr := NagApart_true c0 c1 ft0 ft1
  refine (law_run (transhipmentlaw13_NagApart_ok rfl hr) Tryz.call8 (vals := [.agg cs0, .agg cs1]) ⟨rfl, fun i v p hv hp' => ?_⟩ hg).mono fun e W' ⟨he, ho1, ho2, hb⟩ => ?_
  · match i, hv, hp' with
    | 0, hv, hp' => cases hv; cases hp'; exact hp0
    | 1, hv, hp' => cases hv; cases hp'; exact hp1
    | i + 2, hv, hp' => simp at hv
  · subst he
    have hlt : ∀ x ∈ p0 ++ p1, x.block < W.heap.size := fun x hx => hW'.lt x (by simpa using hx)
    exact ⟨_, rfl, _, _, _, [], _, [], hW', trodAll_mk1 (shut_bool Tryz.underlying4 true),
      trodAll_mk2 (WideElems.Trod_stays laidOut (by kernel_rfl) (of_decide_eq_true (by kernel_rfl)) h0k (fun x hx => same_at hb (hlt x (by simp [hx]))) (fun x hx => by simpa using hlt x (by simp [hx])))
        (WideElems.Trod_stays laidOut (by kernel_rfl) (of_decide_eq_true (by kernel_rfl)) h1k (fun x hx => same_at hb (hlt x (by simp [hx]))) (fun x hx => by simpa using hlt x (by simp [hx]))),
      rfl, kept ho1 ho2 hb _, fun h => by cases h⟩
theorem nagApart_k0 : (Rows.nagApartRow.wf (OpenSpec.ofChange Rows.nagApartSpec)) = true := by kernel_rfl
theorem nagApart_k1 : (laidOutB Tryz.pinned.checked.prog) = true := by kernel_rfl
theorem nagApart_k2 : (mapsRowed Tryz.pinned.checked.prog) = true := by kernel_rfl
theorem nagApart_k3 : (Tryz.f8.params.all (Tryz.pinned.checked.prog.readableRec ·)) = true := by kernel_rfl
theorem nagApart_k4 : (namedTie Tryz.pinned.checked.prog Rows.nagApartRow.named Rows.nagApartSpec.vars) = true := by kernel_rfl
theorem nagApart_k5 : ((Rows.nagApartRow.stops == [])) = true := by kernel_rfl
theorem nagApart_k6 : ((Tryz.pinned.checked.prog.stops == [])) = true := by kernel_rfl
theorem nagApart_k7 : ((Rows.nagApartRow.knobs == [])) = true := by kernel_rfl
theorem nagApart_k8 : ((Tryz.pinned.checked.prog.stopKnobs == [])) = true := by kernel_rfl
theorem nagApart_k9 : ((Rows.nagApartRow.inPlace == Tryz.pinned.checked.prog.inPlace 8)) = true := by kernel_rfl
theorem nagApart_k10 : ((Rows.nagApartRow.unfollowed == Tryz.pinned.checked.prog.unfollowed 8)) = true := by kernel_rfl
theorem nagApart_k11 : ((Rows.nagApartRow.recurses == Tryz.pinned.checked.prog.recurses 8)) = true := by kernel_rfl
theorem nagApart_k12 : ((Rows.nagApartRow.named == Tryz.pinned.checked.prog.varsNamed 8)) = true := by kernel_rfl
theorem nagApart_k13 : ((Rows.nagApartRow.maps == (Tryz.f8.params.toList ++ Rows.nagApartSpec.plain.varTypes Tryz.pinned.checked.prog).any (Tryz.pinned.checked.prog.mapsRec ·))) = true := by kernel_rfl
theorem nagApart_k14 : ((Rows.nagApartRow.ifaces == (Tryz.f8.params.toList ++ Rows.nagApartSpec.plain.varTypes Tryz.pinned.checked.prog).any (Tryz.pinned.checked.prog.ifacesRec ·))) = true := by kernel_rfl
theorem nagApart_k15 : ((Rows.nagApartRow.mapsOut == Tryz.pinned.checked.prog.mapsAmong Tryz.f8.resultTypes.toList)) = true := by kernel_rfl
theorem nagApart_k16 : ((Rows.nagApartRow.loops == (Tryz.f8.params.toList ++ Rows.nagApartSpec.plain.varTypes Tryz.pinned.checked.prog).any (Tryz.pinned.checked.prog.loopsFrom ·))) = true := by kernel_rfl
theorem nagApart_k17 : ((Rows.nagApartRow.wideKeys == (Tryz.f8.params.toList ++ Rows.nagApartSpec.plain.varTypes Tryz.pinned.checked.prog ++ Tryz.f8.resultTypes.toList).any (Tryz.pinned.checked.prog.wideKeysFrom ·))) = true := by kernel_rfl
theorem nagApart_k18 : (Rows.nagApartSpec.vars.all (Tryz.pinned.checked.prog.varReadable ·)) = true := by kernel_rfl
theorem nagApart_k19 : (Tryz.f8.resultTypes.all (fun t => Tryz.pinned.checked.prog.readableRec t && decide (t < Tryz.pinned.checked.prog.types.size))) = true := by kernel_rfl
theorem nagApart_k20 : ((Rows.nagApartRow.ifacesOut == Tryz.f8.resultTypes.toList.any (Tryz.pinned.checked.prog.ifacesRec ·))) = true := by kernel_rfl
theorem nagApart_k21 : ((Rows.nagApartRow.loopsOut == Tryz.f8.resultTypes.toList.any (Tryz.pinned.checked.prog.loopsFrom ·))) = true := by kernel_rfl
theorem nagApart_k22 : ((Rows.nagApartRow.plainKeys == Tryz.pinned.checked.prog.plainKeys)) = true := by kernel_rfl
theorem nagApart_k23 : (Rows.nagApartRow.shortTexts.isNone) = true := by kernel_rfl
theorem nagApart_k24 : (Tryz.pinned.checked.prog.stopsHeard) = true := by kernel_rfl
theorem nagApart_k25 : (Tryz.pinned.checked.prog.mayEnter) = true := by kernel_rfl
theorem nagApart_k26 : ((Rows.nagApartRow.lifted == Tryz.pinned.checked.prog.liftsFinal)) = true := by kernel_rfl
theorem nagApart_k27 : ((Tryz.pinned.checked.prog.make == some Rows.nagApartRow.make)) = true := by kernel_rfl
theorem nagApart_k28 : ((Rows.nagApartRow.kinds == (if Rows.nagApartRow.domain.isEmpty then [] else Tryz.f8.params.toList.map fun t => match Tryz.pinned.checked.prog.underlying t with | some (.int k) => some k | _ => none))) = true := by kernel_rfl
theorem nagApart_k29 : ((Rows.nagApartRow.pinned == Rows.nagApartRow.pinnedBy)) = true := by kernel_rfl
theorem nagApart_k30 : ((Rows.nagApartRow.veiled == (Tryz.f8.params.toList ++ Rows.nagApartSpec.plain.varTypes Tryz.pinned.checked.prog ++ Tryz.f8.resultTypes.toList).any (Tryz.pinned.checked.prog.veiledRec ·))) = true := by kernel_rfl
theorem nagApart_k31 : (Rows.nagApartRow.veiledFits Tryz.pinned.checked.prog Tryz.f8.params.toList (Tryz.f8.params.toList ++ Rows.nagApartSpec.plain.varTypes Tryz.pinned.checked.prog ++ Tryz.f8.resultTypes.toList)) = true := by kernel_rfl
theorem nagApart_joined : joinedFacts Tryz.pinned.checked.prog 8 Tryz.f8 Rows.nagApartSpec Rows.nagApartRow = true := by
  unfold joinedFacts
  exact and_t (and_t (and_t (and_t (and_t (and_t (and_t (and_t (and_t (and_t (and_t (and_t (and_t (and_t (and_t (and_t (and_t (and_t (and_t (and_t (and_t (and_t (and_t (and_t (and_t (and_t (and_t (and_t (and_t (and_t (and_t nagApart_k0 nagApart_k1) nagApart_k2) nagApart_k3) nagApart_k4) nagApart_k5) nagApart_k6) nagApart_k7) nagApart_k8) nagApart_k9) nagApart_k10) nagApart_k11) nagApart_k12) nagApart_k13) nagApart_k14) nagApart_k15) nagApart_k16) nagApart_k17) nagApart_k18) nagApart_k19) nagApart_k20) nagApart_k21) nagApart_k22) nagApart_k23) nagApart_k24) nagApart_k25) nagApart_k26) nagApart_k27) nagApart_k28) nagApart_k29) nagApart_k30) nagApart_k31
theorem nagApart_c1 : Tryz.pinned.checked.prog.funcNamed Rows.nagApartRow.func = some 8 := by kernel_rfl
theorem nagApart_c2 : Tryz.f8.isInstance Tryz.pinned.checked.prog Rows.nagApartRow.origin Rows.nagApartRow.targs := of_decide_eq_true (by kernel_rfl)
theorem nagApart_c3 : Tryz.f8.isWrapper Tryz.pinned.checked.prog Rows.nagApartRow.wrapper Rows.nagApartRow.mainSum := by unfold Func.isWrapper; first | (rw [if_pos (by decide +kernel)]; kernel_rfl) | (rw [if_neg (by decide +kernel)]; exact ⟨rfl, rfl⟩)
theorem nagApart_c4 : Rows.nagApartRow.wfByText (OpenSpec.ofChange Rows.nagApartSpec) = true := by kernel_rfl
theorem nagApart_c5 : Tryz.pinned.checked.prog.mainIs = some (true, "cd45e37b8aa834609e4f1070d9a783abe4f14363e7fef7293f412501837b8ada".toList) := by kernel_rfl
theorem nagApart_c6 : Tryz.prog.funcNamed "transhipment/transhipmentlaw13.NagApart" = some 8 := by kernel_rfl
theorem nagApart_c7 : false = Tryz.prog.looks [] := by kernel_rfl
theorem nagApart_c8 : ([31, 31].all fun u => !Tryz.prog.wantsStandIn u) = true := by kernel_rfl
theorem nagApart_c9 : false = Rows.nagApartRow.goesBy Tryz.pinned.checked.prog := by kernel_rfl
theorem nagApart_holds : Rows.NagApartSaid :=
  OpenClaim.holds_of_wide 8 Tryz.f8 rfl rfl rfl rfl rfl rfl rfl ⟨rfl, rfl, rfl, rfl, rfl⟩ rfl rfl rfl rfl rfl nagApart_c1 Tryz.func8 nagApart_joined nagApart_c2 nagApart_c3
    (fun os started H enc _ => nagApart_lifted os started H enc)
theorem nagApart_card : Rows.NagApartCardSaid :=
  Claim7.holds_tied_plain_at .later [] [.data, .data, .data, .data, .widerDeep, .pinned] true (true, "cd45e37b8aa834609e4f1070d9a783abe4f14363e7fef7293f412501837b8ada") false nagApart_holds (fun _ h => by cases h) nagApart_c4 (fun _ h => by cases h) nagApart_row_tie rfl ⟨rfl, rfl⟩ nagApart_c5 rfl
    (fun f fn hf hfn => by
      obtain rfl : f = 8 := Option.some.inj (nagApart_c6.symm.trans hf) |>.symm
      obtain rfl : fn = Tryz.f8 := (Option.some.inj (Tryz.func8.symm.trans hfn)).symm
      exact ⟨nagApart_c7, fun j t ht => by
        rw [Tryz.params8] at ht
        have hm : t ∈ [31, 31] := by simpa using Array.mem_of_getElem? ht
        exact (show Tryz.prog.wantsStandIn t = false by simpa using List.all_eq_true.1 nagApart_c8 t hm)⟩)
    nagApart_c9
#print axioms nagApart_card
end Go.Proofs.YtiddkdneoldkoaaGreatDoor
