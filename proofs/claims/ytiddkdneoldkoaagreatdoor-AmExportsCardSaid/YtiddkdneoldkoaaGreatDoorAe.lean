/- Texts of this claim: plain laws of what the program's functions compute. No condition of their own. -/
import Derived.Test.YtiddkdneoldkoaaGreatDoorAeRa
import Derived.Test.YtiddkdneoldkoaaGreatDoorAeFc
import Derived.Test.YtiddkdneoldkoaaGreatDoorAeWc
namespace Go.Proofs.YtiddkdneoldkoaaGreatDoor
set_option linter.unusedSimpArgs false
set_option linter.unusedVariables false
set_option linter.unusedSectionVars false
open Go Go.PL Go.Proofs Go.ChangeShapes Go.WideShapes Go.RowKit Rs
set_option maxRecDepth 100000
theorem Axi (os : Os) (started : os.Started) (H : Type) (enc : TypeId × Value → H) :
    ReturnsInHanded {} Tryz.checked os 9 .any (fun w args => (Rows.amExportsSpec.pre enc Tryz.prog Tryz.f9 [] false w args ∧ laidMetH Tryz.prog Rows.amExportsRow.laid w) ∧ sizedMet enc Tryz.prog Tryz.f9 (OpenSpec.ofChange Rows.amExportsSpec) false w args)
      (Rows.amExportsSpec.post enc Tryz.prog Tryz.f9 false true false false) := by
  refine A9i (C := Tryz.checked) (X := fun w _ => laidMetH Tryz.prog Rows.amExportsRow.laid w) (fun _ _ _ hh h => h.of_heap hh) own started (by kernel_rfl) Tryz.func9
    (ChangeSpec.witness_shaped (enc := enc) (C := Tryz.checked) (os := os) (X := fun w _ => laidMetH Tryz.prog Rows.amExportsRow.laid w) false (World.laidAll Tryz.prog os Rows.amExportsRow.laid) #[.agg #[.slice none 0 0, .string .empty, .slice none 0 0, .slice none 0 0, .int .i64 0, .int .i64 0, .int .i64 0, .slice none 0 0, .bool false, .slice none 0 0, .slice none 0 0, .slice none 0 0, .slice none 0 0]] 8 (World.laidAll_os _ _ _)
      (World.shaped_of_ZipB (by kernel_rfl) (by kernel_rfl)) (by kernel_rfl) (by kernel_rfl) (by kernel_rfl)
      (by rw [MakeChecks.laidMetH_plain _ _ _ (by kernel_rfl)]; exact laidMet_laidAll _ (by kernel_rfl) (by kernel_rfl))) ?_
  intro W base args ds gs before hval0 hW hL hsh
  have hval : ∀ (j : Nat) t v, Tryz.f9.params[j]? = some t → args[j]? = some v → Value.okWide Tryz.prog W .any base t v := hval0
  have hW' := hW
  obtain ⟨p, q, hA0, hV, rfl, _, _⟩ := hW
  have hA : DataW.TrodAll enc Tryz.prog W 0 (fun _ => true) true Tryz.f9.params.toList args.toList ds p := hA0
  rw [Tryz.params9] at hA hval
  rw [MakeChecks.laidMetH_plain _ _ _ (by kernel_rfl)] at hL
  obtain ⟨m, hg⟩ := Bd3 hsh (Bcq (Lib.laidMet.reads hL (n := "internal/strconv.uint64pow10") (d := Rows.laid_internal_strconv_uint64pow10) (.tail _ (.tail _ (.head _))))) (Bba (Lib.laidMet.reads hL (n := "transhipment/hours.names") (d := Rows.laid_transhipment_hours_names) (.tail _ (.tail _ (.tail _ (.tail _ (.head _)))))))
  letI : GM := ⟨m, false⟩
  obtain ⟨v0, d0, rfl, rfl, h0⟩ := trodAll_one hA
  obtain ⟨rfl, rfl⟩ := trodVars_none hV
  have h0k := h0
  obtain ⟨cs0, rfl, _⟩ := okWide_struct Tryz.underlying31 (hval 0 31 v0 rfl rfl)
  obtain ⟨fuel0, hf0⟩ := h0
  obtain ⟨c0, hp0, ft0⟩ := A65 hf0
  have hcs0 : (Value.agg cs0).cells.toList.toArray = cs0 := by simp [Value.cells]
  rw [hcs0] at hp0
  have hr := A0w c0 ft0
  refine (Bdn (Anc rfl hr) Tryz.call9 (vals := [.agg cs0]) ⟨rfl, fun i v p hv hp' => ?_⟩ hg).mono fun e W' ⟨he, ho1, ho2, hb⟩ => ?_
  · match i, hv, hp' with
    | 0, hv, hp' => cases hv; cases hp'; exact hp0
    | i + 1, hv, hp' => simp at hv
  · subst he
    have hlt : ∀ x ∈ p, x.block < W.heap.size := fun x hx => hW'.lt x (by simpa using hx)
    exact ⟨_, rfl, _, _, _, [], _, [], hW', trodAll_mk1 (shut_bool Tryz.underlying4 true),
      trodAll_mk1 (WideElems.Trod_stays laidOut (by kernel_rfl) (of_decide_eq_true (by kernel_rfl)) h0k (fun x hx => Bdo hb (hlt x hx)) (fun x hx => by simpa using hlt x hx)),
      rfl, kept ho1 ho2 hb _, fun h => by cases h⟩
theorem A32 : (Rows.amExportsRow.wf (OpenSpec.ofChange Rows.amExportsSpec)) = true := by kernel_rfl
theorem A33 : (laidOutB Tryz.pinned.checked.prog) = true := by kernel_rfl
theorem A34 : (mapsRowed Tryz.pinned.checked.prog) = true := by kernel_rfl
theorem A35 : (Tryz.f9.params.all (Tryz.pinned.checked.prog.readableRec ·)) = true := by kernel_rfl
theorem A36 : (namedTie Tryz.pinned.checked.prog Rows.amExportsRow.named Rows.amExportsSpec.vars) = true := by kernel_rfl
theorem A37 : ((Rows.amExportsRow.stops == [])) = true := by kernel_rfl
theorem A38 : ((Tryz.pinned.checked.prog.stops == [])) = true := by kernel_rfl
theorem A39 : ((Rows.amExportsRow.knobs == [])) = true := by kernel_rfl
theorem A4a : ((Tryz.pinned.checked.prog.stopKnobs == [])) = true := by kernel_rfl
theorem A4b : ((Rows.amExportsRow.inPlace == Tryz.pinned.checked.prog.inPlace 9)) = true := by kernel_rfl
theorem A1s : ((Rows.amExportsRow.unfollowed == Tryz.pinned.checked.prog.unfollowed 9)) = true := by kernel_rfl
theorem A1t : ((Rows.amExportsRow.recurses == Tryz.pinned.checked.prog.recurses 9)) = true := by kernel_rfl
theorem A1u : ((Rows.amExportsRow.named == Tryz.pinned.checked.prog.varsNamed 9)) = true := by kernel_rfl
theorem A1v : ((Rows.amExportsRow.maps == (Tryz.f9.params.toList ++ Rows.amExportsSpec.plain.varTypes Tryz.pinned.checked.prog).any (Tryz.pinned.checked.prog.mapsRec ·))) = true := by kernel_rfl
theorem A1w : ((Rows.amExportsRow.ifaces == (Tryz.f9.params.toList ++ Rows.amExportsSpec.plain.varTypes Tryz.pinned.checked.prog).any (Tryz.pinned.checked.prog.ifacesRec ·))) = true := by kernel_rfl
theorem A1x : ((Rows.amExportsRow.mapsOut == Tryz.pinned.checked.prog.mapsAmong Tryz.f9.resultTypes.toList)) = true := by kernel_rfl
theorem A1y : ((Rows.amExportsRow.loops == (Tryz.f9.params.toList ++ Rows.amExportsSpec.plain.varTypes Tryz.pinned.checked.prog).any (Tryz.pinned.checked.prog.loopsFrom ·))) = true := by kernel_rfl
theorem A1z : ((Rows.amExportsRow.wideKeys == (Tryz.f9.params.toList ++ Rows.amExportsSpec.plain.varTypes Tryz.pinned.checked.prog ++ Tryz.f9.resultTypes.toList).any (Tryz.pinned.checked.prog.wideKeysFrom ·))) = true := by kernel_rfl
theorem A10 : (Rows.amExportsSpec.vars.all (Tryz.pinned.checked.prog.varReadable ·)) = true := by kernel_rfl
theorem A11 : (Tryz.f9.resultTypes.all (fun t => Tryz.pinned.checked.prog.readableRec t && decide (t < Tryz.pinned.checked.prog.types.size))) = true := by kernel_rfl
theorem A12 : ((Rows.amExportsRow.ifacesOut == Tryz.f9.resultTypes.toList.any (Tryz.pinned.checked.prog.ifacesRec ·))) = true := by kernel_rfl
theorem A13 : ((Rows.amExportsRow.loopsOut == Tryz.f9.resultTypes.toList.any (Tryz.pinned.checked.prog.loopsFrom ·))) = true := by kernel_rfl
theorem A14 : ((Rows.amExportsRow.plainKeys == Tryz.pinned.checked.prog.plainKeys)) = true := by kernel_rfl
theorem A15 : (Rows.amExportsRow.shortTexts.isNone) = true := by kernel_rfl
theorem A16 : (Tryz.pinned.checked.prog.stopsHeard) = true := by kernel_rfl
theorem A17 : (Tryz.pinned.checked.prog.mayEnter) = true := by kernel_rfl
theorem A18 : ((Rows.amExportsRow.lifted == Tryz.pinned.checked.prog.liftsFinal)) = true := by kernel_rfl
theorem A19 : ((Tryz.pinned.checked.prog.make == some Rows.amExportsRow.make)) = true := by kernel_rfl
theorem A2a : ((Rows.amExportsRow.kinds == (if Rows.amExportsRow.domain.isEmpty then [] else Tryz.f9.params.toList.map fun t => match Tryz.pinned.checked.prog.underlying t with | some (.int k) => some k | _ => none))) = true := by kernel_rfl
theorem A2b : ((Rows.amExportsRow.pinned == Rows.amExportsRow.pinnedBy)) = true := by kernel_rfl
theorem A2c : ((Rows.amExportsRow.veiled == (Tryz.f9.params.toList ++ Rows.amExportsSpec.plain.varTypes Tryz.pinned.checked.prog ++ Tryz.f9.resultTypes.toList).any (Tryz.pinned.checked.prog.veiledRec ·))) = true := by kernel_rfl
theorem A2d : (Rows.amExportsRow.veiledFits Tryz.pinned.checked.prog Tryz.f9.params.toList (Tryz.f9.params.toList ++ Rows.amExportsSpec.plain.varTypes Tryz.pinned.checked.prog ++ Tryz.f9.resultTypes.toList)) = true := by kernel_rfl
theorem Axj : joinedFacts Tryz.pinned.checked.prog 9 Tryz.f9 Rows.amExportsSpec Rows.amExportsRow = true := by
  unfold joinedFacts
  exact and_t (and_t (and_t (and_t (and_t (and_t (and_t (and_t (and_t (and_t (and_t (and_t (and_t (and_t (and_t (and_t (and_t (and_t (and_t (and_t (and_t (and_t (and_t (and_t (and_t (and_t (and_t (and_t (and_t (and_t (and_t A32 A33) A34) A35) A36) A37) A38) A39) A4a) A4b) A1s) A1t) A1u) A1v) A1w) A1x) A1y) A1z) A10) A11) A12) A13) A14) A15) A16) A17) A18) A19) A2a) A2b) A2c) A2d
theorem A4c : Tryz.pinned.checked.prog.funcNamed Rows.amExportsRow.func = some 9 := by kernel_rfl
theorem A4d : Tryz.f9.isInstance Tryz.pinned.checked.prog Rows.amExportsRow.origin Rows.amExportsRow.targs := of_decide_eq_true (by kernel_rfl)
theorem A4e : Tryz.f9.isWrapper Tryz.pinned.checked.prog Rows.amExportsRow.wrapper Rows.amExportsRow.mainSum := by unfold Func.isWrapper; first | (rw [if_pos (by decide +kernel)]; kernel_rfl) | (rw [if_neg (by decide +kernel)]; exact ⟨rfl, rfl⟩)
theorem A4f : Rows.amExportsRow.wfByText (OpenSpec.ofChange Rows.amExportsSpec) = true := by kernel_rfl
theorem A4g : Tryz.pinned.checked.prog.mainIs = some (true, "cd45e37b8aa834609e4f1070d9a783abe4f14363e7fef7293f412501837b8ada".toList) := by kernel_rfl
theorem A4h : Tryz.prog.funcNamed "transhipment/transhipmentlaw12.AmExports" = some 9 := by kernel_rfl
theorem A4i : false = Tryz.prog.looks [] := by kernel_rfl
theorem A4j : ([31].all fun u => !Tryz.prog.wantsStandIn u) = true := by kernel_rfl
theorem A4k : false = Rows.amExportsRow.goesBy Tryz.pinned.checked.prog := by kernel_rfl
theorem Ayb : Rows.AmExportsSaid :=
  OpenClaim.holds_of_wide 9 Tryz.f9 rfl rfl rfl rfl rfl rfl rfl ⟨rfl, rfl, rfl, rfl, rfl⟩ rfl rfl rfl rfl rfl A4c Tryz.func9 Axj A4d A4e
    (fun os started H enc _ => Axi os started H enc)
theorem amExports_card : Rows.AmExportsCardSaid :=
  Claim7.holds_tied_plain_at .later [] [.data, .data, .data, .data, .widerDeep, .pinned] true (true, "cd45e37b8aa834609e4f1070d9a783abe4f14363e7fef7293f412501837b8ada") false Ayb (fun _ h => by cases h) A4f (fun _ h => by cases h) amExports_row_tie rfl ⟨rfl, rfl⟩ A4g rfl
    (fun f fn hf hfn => by
      obtain rfl : f = 9 := Option.some.inj (A4h.symm.trans hf) |>.symm
      obtain rfl : fn = Tryz.f9 := (Option.some.inj (Tryz.func9.symm.trans hfn)).symm
      exact ⟨A4i, fun j t ht => by
        rw [Tryz.params9] at ht
        have hm : t ∈ [31] := by simpa using Array.mem_of_getElem? ht
        exact (show Tryz.prog.wantsStandIn t = false by simpa using List.all_eq_true.1 A4j t hm)⟩)
    A4k
#print axioms amExports_card
end Go.Proofs.YtiddkdneoldkoaaGreatDoor
