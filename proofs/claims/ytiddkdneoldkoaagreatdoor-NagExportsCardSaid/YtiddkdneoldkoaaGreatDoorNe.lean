/- Texts of this claim: plain laws of what the program's functions compute. No condition of their own. -/
import Derived.Test.YtiddkdneoldkoaaGreatDoorNeRa
import Derived.Test.YtiddkdneoldkoaaGreatDoorNeFc
import Derived.Test.YtiddkdneoldkoaaGreatDoorNeWc
namespace Go.Proofs.YtiddkdneoldkoaaGreatDoor
set_option linter.unusedSimpArgs false
set_option linter.unusedVariables false
set_option linter.unusedSectionVars false
open Go Go.PL Go.Proofs Go.ChangeShapes Go.WideShapes Go.RowKit Rs
set_option maxRecDepth 100000
theorem Aua (os : Os) (started : os.Started) (H : Type) (enc : TypeId × Value → H) :
    ReturnsInHanded {} Tryz.checked os 5 .any (fun w args => (Rows.nagExportsSpec.pre enc Tryz.prog Tryz.f5 [] false w args ∧ laidMetH Tryz.prog Rows.nagExportsRow.laid w) ∧ sizedMet enc Tryz.prog Tryz.f5 (OpenSpec.ofChange Rows.nagExportsSpec) false w args)
      (Rows.nagExportsSpec.post enc Tryz.prog Tryz.f5 false true false false) := by
  refine A62 (C := Tryz.checked) (X := fun w _ => laidMetH Tryz.prog Rows.nagExportsRow.laid w) (fun _ _ _ hh h => h.of_heap hh) own started (by kernel_rfl) Tryz.func5
    (ChangeSpec.witness_shaped (enc := enc) (C := Tryz.checked) (os := os) (X := fun w _ => laidMetH Tryz.prog Rows.nagExportsRow.laid w) false (World.laidAll Tryz.prog os Rows.nagExportsRow.laid) #[.agg #[.slice none 0 0, .string .empty, .slice none 0 0, .slice none 0 0, .int .i64 0, .int .i64 0, .int .i64 0, .slice none 0 0, .bool false, .slice none 0 0, .slice none 0 0, .slice none 0 0, .slice none 0 0]] 8 (World.laidAll_os _ _ _)
      (World.shaped_of_ZipB (by kernel_rfl) (by kernel_rfl)) (by kernel_rfl) (by kernel_rfl) (by kernel_rfl)
      (by rw [MakeChecks.laidMetH_plain _ _ _ (by kernel_rfl)]; exact laidMet_laidAll _ (by kernel_rfl) (by kernel_rfl))) ?_
  intro W base args ds gs before hval0 hW hL hsh
  have hval : ∀ (j : Nat) t v, Tryz.f5.params[j]? = some t → args[j]? = some v → Value.okWide Tryz.prog W .any base t v := hval0
  have hW' := hW
  obtain ⟨p, q, hA0, hV, rfl, _, _⟩ := hW
  have hA : DataW.TrodAll enc Tryz.prog W 0 (fun _ => true) true Tryz.f5.params.toList args.toList ds p := hA0
  rw [Tryz.params5] at hA hval
  rw [MakeChecks.laidMetH_plain _ _ _ (by kernel_rfl)] at hL
  obtain ⟨m, hg⟩ := Bbt hsh (Bad (Lib.laidMet.reads hL (n := "internal/strconv.uint64pow10") (d := Rows.laid_internal_strconv_uint64pow10) (.tail _ (.tail _ (.head _))))) (A8t (Lib.laidMet.reads hL (n := "transhipment/hours.names") (d := Rows.laid_transhipment_hours_names) (.tail _ (.tail _ (.tail _ (.tail _ (.head _)))))))
  letI : GM := ⟨m, false⟩
  obtain ⟨v0, d0, rfl, rfl, h0⟩ := trodAll_one hA
  obtain ⟨rfl, rfl⟩ := trodVars_none hV
  have h0k := h0
  obtain ⟨cs0, rfl, _⟩ := okWide_struct Tryz.underlying31 (hval 0 31 v0 rfl rfl)
  obtain ⟨fuel0, hf0⟩ := h0
  obtain ⟨c0, hp0, ft0⟩ := A4s hf0
  have hcs0 : (Value.agg cs0).cells.toList.toArray = cs0 := by simp [Value.cells]
  rw [hcs0] at hp0
  have hr := Axs c0 ft0
  refine (Bbb (Alp rfl hr) Tryz.call5 (vals := [.agg cs0]) ⟨rfl, fun i v p hv hp' => ?_⟩ hg).mono fun e W' ⟨he, ho1, ho2, hb⟩ => ?_
  · match i, hv, hp' with
    | 0, hv, hp' => cases hv; cases hp'; exact hp0
    | i + 1, hv, hp' => simp at hv
  · subst he
    have hlt : ∀ x ∈ p, x.block < W.heap.size := fun x hx => hW'.lt x (by simpa using hx)
    exact ⟨_, rfl, _, _, _, [], _, [], hW', trodAll_mk1 (shut_bool Tryz.underlying4 true),
      trodAll_mk1 (WideElems.Trod_stays laidOut (by kernel_rfl) (of_decide_eq_true (by kernel_rfl)) h0k (fun x hx => Bbc hb (hlt x hx)) (fun x hx => by simpa using hlt x hx)),
      rfl, kept ho1 ho2 hb _, fun h => by cases h⟩
theorem Az0 : (Rows.nagExportsRow.wf (OpenSpec.ofChange Rows.nagExportsSpec)) = true := by kernel_rfl
theorem Az1 : (laidOutB Tryz.pinned.checked.prog) = true := by kernel_rfl
theorem Az2 : (mapsRowed Tryz.pinned.checked.prog) = true := by kernel_rfl
theorem Az3 : (Tryz.f5.params.all (Tryz.pinned.checked.prog.readableRec ·)) = true := by kernel_rfl
theorem Az4 : (namedTie Tryz.pinned.checked.prog Rows.nagExportsRow.named Rows.nagExportsSpec.vars) = true := by kernel_rfl
theorem Az5 : ((Rows.nagExportsRow.stops == [])) = true := by kernel_rfl
theorem Az6 : ((Tryz.pinned.checked.prog.stops == [])) = true := by kernel_rfl
theorem Az7 : ((Rows.nagExportsRow.knobs == [])) = true := by kernel_rfl
theorem Az8 : ((Tryz.pinned.checked.prog.stopKnobs == [])) = true := by kernel_rfl
theorem Az9 : ((Rows.nagExportsRow.inPlace == Tryz.pinned.checked.prog.inPlace 5)) = true := by kernel_rfl
theorem Axt : ((Rows.nagExportsRow.unfollowed == Tryz.pinned.checked.prog.unfollowed 5)) = true := by kernel_rfl
theorem Axu : ((Rows.nagExportsRow.recurses == Tryz.pinned.checked.prog.recurses 5)) = true := by kernel_rfl
theorem Axv : ((Rows.nagExportsRow.named == Tryz.pinned.checked.prog.varsNamed 5)) = true := by kernel_rfl
theorem Axw : ((Rows.nagExportsRow.maps == (Tryz.f5.params.toList ++ Rows.nagExportsSpec.plain.varTypes Tryz.pinned.checked.prog).any (Tryz.pinned.checked.prog.mapsRec ·))) = true := by kernel_rfl
theorem Axx : ((Rows.nagExportsRow.ifaces == (Tryz.f5.params.toList ++ Rows.nagExportsSpec.plain.varTypes Tryz.pinned.checked.prog).any (Tryz.pinned.checked.prog.ifacesRec ·))) = true := by kernel_rfl
theorem Axy : ((Rows.nagExportsRow.mapsOut == Tryz.pinned.checked.prog.mapsAmong Tryz.f5.resultTypes.toList)) = true := by kernel_rfl
theorem Axz : ((Rows.nagExportsRow.loops == (Tryz.f5.params.toList ++ Rows.nagExportsSpec.plain.varTypes Tryz.pinned.checked.prog).any (Tryz.pinned.checked.prog.loopsFrom ·))) = true := by kernel_rfl
theorem Ax0 : ((Rows.nagExportsRow.wideKeys == (Tryz.f5.params.toList ++ Rows.nagExportsSpec.plain.varTypes Tryz.pinned.checked.prog ++ Tryz.f5.resultTypes.toList).any (Tryz.pinned.checked.prog.wideKeysFrom ·))) = true := by kernel_rfl
theorem Ax1 : (Rows.nagExportsSpec.vars.all (Tryz.pinned.checked.prog.varReadable ·)) = true := by kernel_rfl
theorem Ax2 : (Tryz.f5.resultTypes.all (fun t => Tryz.pinned.checked.prog.readableRec t && decide (t < Tryz.pinned.checked.prog.types.size))) = true := by kernel_rfl
theorem Ax3 : ((Rows.nagExportsRow.ifacesOut == Tryz.f5.resultTypes.toList.any (Tryz.pinned.checked.prog.ifacesRec ·))) = true := by kernel_rfl
theorem Ax4 : ((Rows.nagExportsRow.loopsOut == Tryz.f5.resultTypes.toList.any (Tryz.pinned.checked.prog.loopsFrom ·))) = true := by kernel_rfl
theorem Ax5 : ((Rows.nagExportsRow.plainKeys == Tryz.pinned.checked.prog.plainKeys)) = true := by kernel_rfl
theorem Ax6 : (Rows.nagExportsRow.shortTexts.isNone) = true := by kernel_rfl
theorem Ax7 : (Tryz.pinned.checked.prog.stopsHeard) = true := by kernel_rfl
theorem Ax8 : (Tryz.pinned.checked.prog.mayEnter) = true := by kernel_rfl
theorem Ax9 : ((Rows.nagExportsRow.lifted == Tryz.pinned.checked.prog.liftsFinal)) = true := by kernel_rfl
theorem Aya : ((Tryz.pinned.checked.prog.make == some Rows.nagExportsRow.make)) = true := by kernel_rfl
theorem Ayb : ((Rows.nagExportsRow.kinds == (if Rows.nagExportsRow.domain.isEmpty then [] else Tryz.f5.params.toList.map fun t => match Tryz.pinned.checked.prog.underlying t with | some (.int k) => some k | _ => none))) = true := by kernel_rfl
theorem Ayc : ((Rows.nagExportsRow.pinned == Rows.nagExportsRow.pinnedBy)) = true := by kernel_rfl
theorem Ayd : ((Rows.nagExportsRow.veiled == (Tryz.f5.params.toList ++ Rows.nagExportsSpec.plain.varTypes Tryz.pinned.checked.prog ++ Tryz.f5.resultTypes.toList).any (Tryz.pinned.checked.prog.veiledRec ·))) = true := by kernel_rfl
theorem Aye : (Rows.nagExportsRow.veiledFits Tryz.pinned.checked.prog Tryz.f5.params.toList (Tryz.f5.params.toList ++ Rows.nagExportsSpec.plain.varTypes Tryz.pinned.checked.prog ++ Tryz.f5.resultTypes.toList)) = true := by kernel_rfl
theorem Aub : joinedFacts Tryz.pinned.checked.prog 5 Tryz.f5 Rows.nagExportsSpec Rows.nagExportsRow = true := by
  unfold joinedFacts
  exact and_t (and_t (and_t (and_t (and_t (and_t (and_t (and_t (and_t (and_t (and_t (and_t (and_t (and_t (and_t (and_t (and_t (and_t (and_t (and_t (and_t (and_t (and_t (and_t (and_t (and_t (and_t (and_t (and_t (and_t (and_t Az0 Az1) Az2) Az3) Az4) Az5) Az6) Az7) Az8) Az9) Axt) Axu) Axv) Axw) Axx) Axy) Axz) Ax0) Ax1) Ax2) Ax3) Ax4) Ax5) Ax6) Ax7) Ax8) Ax9) Aya) Ayb) Ayc) Ayd) Aye
theorem A0a : Tryz.pinned.checked.prog.funcNamed Rows.nagExportsRow.func = some 5 := by kernel_rfl
theorem A0b : Tryz.f5.isInstance Tryz.pinned.checked.prog Rows.nagExportsRow.origin Rows.nagExportsRow.targs := of_decide_eq_true (by kernel_rfl)
theorem A0c : Tryz.f5.isWrapper Tryz.pinned.checked.prog Rows.nagExportsRow.wrapper Rows.nagExportsRow.mainSum := by unfold Func.isWrapper; first | (rw [if_pos (by decide +kernel)]; kernel_rfl) | (rw [if_neg (by decide +kernel)]; exact ⟨rfl, rfl⟩)
theorem A0d : Rows.nagExportsRow.wfByText (OpenSpec.ofChange Rows.nagExportsSpec) = true := by kernel_rfl
theorem A0e : Tryz.pinned.checked.prog.mainIs = some (true, "cd45e37b8aa834609e4f1070d9a783abe4f14363e7fef7293f412501837b8ada".toList) := by kernel_rfl
theorem A0f : Tryz.prog.funcNamed "transhipment/transhipmentlaw13.NagExports" = some 5 := by kernel_rfl
theorem A0g : false = Tryz.prog.looks [] := by kernel_rfl
theorem A0h : ([31].all fun u => !Tryz.prog.wantsStandIn u) = true := by kernel_rfl
theorem A0i : false = Rows.nagExportsRow.goesBy Tryz.pinned.checked.prog := by kernel_rfl
theorem Avn : Rows.NagExportsSaid :=
  OpenClaim.holds_of_wide 5 Tryz.f5 rfl rfl rfl rfl rfl rfl rfl ⟨rfl, rfl, rfl, rfl, rfl⟩ rfl rfl rfl rfl rfl A0a Tryz.func5 Aub A0b A0c
    (fun os started H enc _ => Aua os started H enc)
theorem nagExports_card : Rows.NagExportsCardSaid :=
  Claim7.holds_tied_plain_at .later [] [.data, .data, .data, .data, .widerDeep, .pinned] true (true, "cd45e37b8aa834609e4f1070d9a783abe4f14363e7fef7293f412501837b8ada") false Avn (fun _ h => by cases h) A0d (fun _ h => by cases h) nagExports_row_tie rfl ⟨rfl, rfl⟩ A0e rfl
    (fun f fn hf hfn => by
      obtain rfl : f = 5 := Option.some.inj (A0f.symm.trans hf) |>.symm
      obtain rfl : fn = Tryz.f5 := (Option.some.inj (Tryz.func5.symm.trans hfn)).symm
      exact ⟨A0g, fun j t ht => by
        rw [Tryz.params5] at ht
        have hm : t ∈ [31] := by simpa using Array.mem_of_getElem? ht
        exact (show Tryz.prog.wantsStandIn t = false by simpa using List.all_eq_true.1 A0h t hm)⟩)
    A0i
#print axioms nagExports_card
end Go.Proofs.YtiddkdneoldkoaaGreatDoor
