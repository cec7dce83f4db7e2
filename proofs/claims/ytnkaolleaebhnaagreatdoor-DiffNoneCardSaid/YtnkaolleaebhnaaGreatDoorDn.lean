/- Texts of this claim: plain laws of what the program's functions compute. No condition of their own. -/
import Derived.Test.YtnkaolleaebhnaaGreatDoorDnRa
import Derived.Test.YtnkaolleaebhnaaGreatDoorDnFc
import Derived.Test.YtnkaolleaebhnaaGreatDoorDnWc
namespace Go.Proofs.YtnkaolleaebhnaaGreatDoor
set_option linter.unusedSimpArgs false
set_option linter.unusedVariables false
set_option linter.unusedSectionVars false
open Go Go.PL Go.Proofs Go.ChangeShapes Go.WideShapes Go.RowKit Rs
set_option maxRecDepth 100000
theorem Apk (os : Os) (started : os.Started) (H : Type) (enc : TypeId × Value → H) :
    ReturnsInHanded {} Tryz.checked os 4 .any (fun w args => (Rows.diffNoneSpec.pre enc Tryz.prog Tryz.f4 [] false w args ∧ laidMetH Tryz.prog Rows.diffNoneRow.laid w) ∧ sizedMet enc Tryz.prog Tryz.f4 (OpenSpec.ofChange Rows.diffNoneSpec) false w args)
      (Rows.diffNoneSpec.post enc Tryz.prog Tryz.f4 false true false false) := by
  refine Az3 (C := Tryz.checked) (X := fun w _ => laidMetH Tryz.prog Rows.diffNoneRow.laid w) (fun _ _ _ hh h => h.of_heap hh) own started (by kernel_rfl) Tryz.func4
    (ChangeSpec.witness_shaped (enc := enc) (C := Tryz.checked) (os := os) (X := fun w _ => laidMetH Tryz.prog Rows.diffNoneRow.laid w) false (World.laidAll Tryz.prog os Rows.diffNoneRow.laid) #[.agg #[.slice none 0 0, .string .empty, .slice none 0 0, .slice none 0 0, .int .i64 0, .int .i64 0, .int .i64 0, .slice none 0 0, .bool false, .slice none 0 0, .slice none 0 0, .slice none 0 0, .slice none 0 0], .agg #[.slice none 0 0, .string .empty, .slice none 0 0, .slice none 0 0, .int .i64 0, .int .i64 0, .int .i64 0, .slice none 0 0, .bool false, .slice none 0 0, .slice none 0 0, .slice none 0 0, .slice none 0 0]] 8 (World.laidAll_os _ _ _)
      (World.shaped_of_ZipB (by kernel_rfl) (by kernel_rfl)) (by kernel_rfl) (by kernel_rfl) (by kernel_rfl)
      (by rw [MakeChecks.laidMetH_plain _ _ _ (by kernel_rfl)]; exact laidMet_laidAll _ (by kernel_rfl) (by kernel_rfl))) ?_
  intro W base args ds gs before hval0 hW hL hsh
  have hval : ∀ (j : Nat) t v, Tryz.f4.params[j]? = some t → args[j]? = some v → Value.okWide Tryz.prog W .any base t v := hval0
  have hW' := hW
  obtain ⟨p, q, hA0, hV, rfl, _, _⟩ := hW
  have hA : DataW.TrodAll enc Tryz.prog W 0 (fun _ => true) true Tryz.f4.params.toList args.toList ds p := hA0
  rw [Tryz.params4] at hA hval
  letI : GM := ⟨0, false⟩
  obtain ⟨v0, v1, d0, d1, p0, p1, rfl, rfl, rfl, h0, h1⟩ := trodAll_two hA
  obtain ⟨rfl, rfl⟩ := trodVars_none hV
  have h0k := h0
  obtain ⟨cs0, rfl, _⟩ := okWide_struct Tryz.underlying31 (hval 0 31 v0 rfl rfl)
  obtain ⟨fuel0, hf0⟩ := h0
  obtain ⟨c0, hp0, ft0⟩ := Aqh hf0
  have hcs0 : (Value.agg cs0).cells.toList.toArray = cs0 := by simp [Value.cells]
  rw [hcs0] at hp0
  have h1k := h1
  obtain ⟨cs1, rfl, _⟩ := okWide_struct Tryz.underlying31 (hval 1 31 v1 rfl rfl)
  obtain ⟨fuel1, hf1⟩ := h1
  obtain ⟨c1, hp1, ft1⟩ := Aqh hf1
  have hcs1 : (Value.agg cs1).cells.toList.toArray = cs1 := by simp [Value.cells]
  rw [hcs1] at hp1
  have hr := At9 c0 c1 ft0 ft1
  refine (A4c (Ait rfl hr) Tryz.call4 (vals := [.agg cs0, .agg cs1]) ⟨rfl, fun i v p hv hp' => ?_⟩ A4d).mono fun e W' ⟨he, ho1, ho2, hb⟩ => ?_
  · match i, hv, hp' with
    | 0, hv, hp' => cases hv; cases hp'; exact hp0
    | 1, hv, hp' => cases hv; cases hp'; exact hp1
    | i + 2, hv, hp' => simp at hv
  · subst he
    have hlt : ∀ x ∈ p0 ++ p1, x.block < W.heap.size := fun x hx => hW'.lt x (by simpa using hx)
    exact ⟨_, rfl, _, _, _, [], _, [], hW', trodAll_mk1 (shut_bool Tryz.underlying4 true),
      trodAll_mk2 (WideElems.Trod_stays laidOut (by kernel_rfl) (of_decide_eq_true (by kernel_rfl)) h0k (fun x hx => A1r hb (hlt x (by simp [hx]))) (fun x hx => by simpa using hlt x (by simp [hx])))
        (WideElems.Trod_stays laidOut (by kernel_rfl) (of_decide_eq_true (by kernel_rfl)) h1k (fun x hx => A1r hb (hlt x (by simp [hx]))) (fun x hx => by simpa using hlt x (by simp [hx]))),
      rfl, kept ho1 ho2 hb _, fun h => by cases h⟩
theorem Aws : (Rows.diffNoneRow.wf (OpenSpec.ofChange Rows.diffNoneSpec)) = true := by kernel_rfl
theorem Awt : (laidOutB Tryz.pinned.checked.prog) = true := by kernel_rfl
theorem Awu : (mapsRowed Tryz.pinned.checked.prog) = true := by kernel_rfl
theorem Awv : (Tryz.f4.params.all (Tryz.pinned.checked.prog.readableRec ·)) = true := by kernel_rfl
theorem Aww : (namedTie Tryz.pinned.checked.prog Rows.diffNoneRow.named Rows.diffNoneSpec.vars) = true := by kernel_rfl
theorem Awx : ((Rows.diffNoneRow.stops == [])) = true := by kernel_rfl
theorem Awy : ((Tryz.pinned.checked.prog.stops == [])) = true := by kernel_rfl
theorem Awz : ((Rows.diffNoneRow.knobs == [])) = true := by kernel_rfl
theorem Aw0 : ((Tryz.pinned.checked.prog.stopKnobs == [])) = true := by kernel_rfl
theorem Aw1 : ((Rows.diffNoneRow.inPlace == Tryz.pinned.checked.prog.inPlace 4)) = true := by kernel_rfl
theorem Aua : ((Rows.diffNoneRow.unfollowed == Tryz.pinned.checked.prog.unfollowed 4)) = true := by kernel_rfl
theorem Aub : ((Rows.diffNoneRow.recurses == Tryz.pinned.checked.prog.recurses 4)) = true := by kernel_rfl
theorem Auc : ((Rows.diffNoneRow.named == Tryz.pinned.checked.prog.varsNamed 4)) = true := by kernel_rfl
theorem Aud : ((Rows.diffNoneRow.maps == (Tryz.f4.params.toList ++ Rows.diffNoneSpec.plain.varTypes Tryz.pinned.checked.prog).any (Tryz.pinned.checked.prog.mapsRec ·))) = true := by kernel_rfl
theorem Aue : ((Rows.diffNoneRow.ifaces == (Tryz.f4.params.toList ++ Rows.diffNoneSpec.plain.varTypes Tryz.pinned.checked.prog).any (Tryz.pinned.checked.prog.ifacesRec ·))) = true := by kernel_rfl
theorem Auf : ((Rows.diffNoneRow.mapsOut == Tryz.pinned.checked.prog.mapsAmong Tryz.f4.resultTypes.toList)) = true := by kernel_rfl
theorem Aug : ((Rows.diffNoneRow.loops == (Tryz.f4.params.toList ++ Rows.diffNoneSpec.plain.varTypes Tryz.pinned.checked.prog).any (Tryz.pinned.checked.prog.loopsFrom ·))) = true := by kernel_rfl
theorem Auh : ((Rows.diffNoneRow.wideKeys == (Tryz.f4.params.toList ++ Rows.diffNoneSpec.plain.varTypes Tryz.pinned.checked.prog ++ Tryz.f4.resultTypes.toList).any (Tryz.pinned.checked.prog.wideKeysFrom ·))) = true := by kernel_rfl
theorem Aui : (Rows.diffNoneSpec.vars.all (Tryz.pinned.checked.prog.varReadable ·)) = true := by kernel_rfl
theorem Auj : (Tryz.f4.resultTypes.all (fun t => Tryz.pinned.checked.prog.readableRec t && decide (t < Tryz.pinned.checked.prog.types.size))) = true := by kernel_rfl
theorem Auk : ((Rows.diffNoneRow.ifacesOut == Tryz.f4.resultTypes.toList.any (Tryz.pinned.checked.prog.ifacesRec ·))) = true := by kernel_rfl
theorem Aul : ((Rows.diffNoneRow.loopsOut == Tryz.f4.resultTypes.toList.any (Tryz.pinned.checked.prog.loopsFrom ·))) = true := by kernel_rfl
theorem Aum : ((Rows.diffNoneRow.plainKeys == Tryz.pinned.checked.prog.plainKeys)) = true := by kernel_rfl
theorem Aun : (Rows.diffNoneRow.shortTexts.isNone) = true := by kernel_rfl
theorem Auo : (Tryz.pinned.checked.prog.stopsHeard) = true := by kernel_rfl
theorem Aup : (Tryz.pinned.checked.prog.mayEnter) = true := by kernel_rfl
theorem Auq : ((Rows.diffNoneRow.lifted == Tryz.pinned.checked.prog.liftsFinal)) = true := by kernel_rfl
theorem Aur : ((Tryz.pinned.checked.prog.make == some Rows.diffNoneRow.make)) = true := by kernel_rfl
theorem Aus : ((Rows.diffNoneRow.kinds == (if Rows.diffNoneRow.domain.isEmpty then [] else Tryz.f4.params.toList.map fun t => match Tryz.pinned.checked.prog.underlying t with | some (.int k) => some k | _ => none))) = true := by kernel_rfl
theorem Aut : ((Rows.diffNoneRow.pinned == Rows.diffNoneRow.pinnedBy)) = true := by kernel_rfl
theorem Auu : ((Rows.diffNoneRow.veiled == (Tryz.f4.params.toList ++ Rows.diffNoneSpec.plain.varTypes Tryz.pinned.checked.prog ++ Tryz.f4.resultTypes.toList).any (Tryz.pinned.checked.prog.veiledRec ·))) = true := by kernel_rfl
theorem Auv : (Rows.diffNoneRow.veiledFits Tryz.pinned.checked.prog Tryz.f4.params.toList (Tryz.f4.params.toList ++ Rows.diffNoneSpec.plain.varTypes Tryz.pinned.checked.prog ++ Tryz.f4.resultTypes.toList)) = true := by kernel_rfl
theorem Apl : joinedFacts Tryz.pinned.checked.prog 4 Tryz.f4 Rows.diffNoneSpec Rows.diffNoneRow = true := by
  unfold joinedFacts
  exact and_t (and_t (and_t (and_t (and_t (and_t (and_t (and_t (and_t (and_t (and_t (and_t (and_t (and_t (and_t (and_t (and_t (and_t (and_t (and_t (and_t (and_t (and_t (and_t (and_t (and_t (and_t (and_t (and_t (and_t (and_t Aws Awt) Awu) Awv) Aww) Awx) Awy) Awz) Aw0) Aw1) Aua) Aub) Auc) Aud) Aue) Auf) Aug) Auh) Aui) Auj) Auk) Aul) Aum) Aun) Auo) Aup) Auq) Aur) Aus) Aut) Auu) Auv
theorem Aw2 : Tryz.pinned.checked.prog.funcNamed Rows.diffNoneRow.func = some 4 := by kernel_rfl
theorem Aw3 : Tryz.f4.isInstance Tryz.pinned.checked.prog Rows.diffNoneRow.origin Rows.diffNoneRow.targs := of_decide_eq_true (by kernel_rfl)
theorem Aw4 : Tryz.f4.isWrapper Tryz.pinned.checked.prog Rows.diffNoneRow.wrapper Rows.diffNoneRow.mainSum := by unfold Func.isWrapper; first | (rw [if_pos (by decide +kernel)]; kernel_rfl) | (rw [if_neg (by decide +kernel)]; exact ⟨rfl, rfl⟩)
theorem Aw5 : Rows.diffNoneRow.wfByText (OpenSpec.ofChange Rows.diffNoneSpec) = true := by kernel_rfl
theorem Aw6 : Tryz.pinned.checked.prog.mainIs = some (true, "16dc5b216e9e4ba74633c5eb29ed2d8ba72d9e2f4a073134c4cdc249a0f54b8c".toList) := by kernel_rfl
theorem Aw7 : Tryz.prog.funcNamed "transhipment/transhipmentlaw18.DiffNone" = some 4 := by kernel_rfl
theorem Aw8 : false = Tryz.prog.looks [] := by kernel_rfl
theorem Aw9 : ([31, 31].all fun u => !Tryz.prog.wantsStandIn u) = true := by kernel_rfl
theorem Axa : false = Rows.diffNoneRow.goesBy Tryz.pinned.checked.prog := by kernel_rfl
theorem Aq9 : Rows.DiffNoneSaid :=
  OpenClaim.holds_of_wide 4 Tryz.f4 rfl rfl rfl rfl rfl rfl rfl ⟨rfl, rfl, rfl, rfl, rfl⟩ rfl rfl rfl rfl rfl Aw2 Tryz.func4 Apl Aw3 Aw4
    (fun os started H enc _ => Apk os started H enc)
theorem diffNone_card : Rows.DiffNoneCardSaid :=
  Claim7.holds_tied_plain_at .later [] [.data, .pinned] true (true, "16dc5b216e9e4ba74633c5eb29ed2d8ba72d9e2f4a073134c4cdc249a0f54b8c") false Aq9 (fun _ h => by cases h) Aw5 (fun _ h => by cases h) diffNone_row_tie rfl ⟨rfl, rfl⟩ Aw6 rfl
    (fun f fn hf hfn => by
      obtain rfl : f = 4 := Option.some.inj (Aw7.symm.trans hf) |>.symm
      obtain rfl : fn = Tryz.f4 := (Option.some.inj (Tryz.func4.symm.trans hfn)).symm
      exact ⟨Aw8, fun j t ht => by
        rw [Tryz.params4] at ht
        have hm : t ∈ [31, 31] := by simpa using Array.mem_of_getElem? ht
        exact (show Tryz.prog.wantsStandIn t = false by simpa using List.all_eq_true.1 Aw9 t hm)⟩)
    Axa
#print axioms diffNone_card
end Go.Proofs.YtnkaolleaebhnaaGreatDoor
