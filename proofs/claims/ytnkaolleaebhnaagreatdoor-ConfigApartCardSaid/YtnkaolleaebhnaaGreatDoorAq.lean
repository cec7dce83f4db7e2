/- Texts of this claim: plain laws of what the program's functions compute. No condition of their own. -/
import Derived.Test.YtnkaolleaebhnaaGreatDoorAqRa
import Derived.Test.YtnkaolleaebhnaaGreatDoorAqFc
import Derived.Test.YtnkaolleaebhnaaGreatDoorAqWc
namespace Go.Proofs.YtnkaolleaebhnaaGreatDoor
set_option linter.unusedSimpArgs false
set_option linter.unusedVariables false
set_option linter.unusedSectionVars false
open Go Go.PL Go.Proofs Go.ChangeShapes Go.WideShapes Go.RowKit Rs
set_option maxRecDepth 100000
theorem Aoo (os : Os) (started : os.Started) (H : Type) (enc : TypeId × Value → H) :
    ReturnsInHanded {} Tryz.checked os 9 .any (fun w args => (Rows.configApartSpec.pre enc Tryz.prog Tryz.f9 [] false w args ∧ laidMetH Tryz.prog Rows.configApartRow.laid w) ∧ sizedMet enc Tryz.prog Tryz.f9 (OpenSpec.ofChange Rows.configApartSpec) false w args)
      (Rows.configApartSpec.post enc Tryz.prog Tryz.f9 false true false false) := by
  refine A1r (C := Tryz.checked) (X := fun w _ => laidMetH Tryz.prog Rows.configApartRow.laid w) (fun _ _ _ hh h => h.of_heap hh) own started (by kernel_rfl) Tryz.func9
    (ChangeSpec.witness_shaped (enc := enc) (C := Tryz.checked) (os := os) (X := fun w _ => laidMetH Tryz.prog Rows.configApartRow.laid w) false (World.laidAll Tryz.prog os Rows.configApartRow.laid) #[.agg #[.slice none 0 0, .string .empty, .slice none 0 0, .slice none 0 0, .int .i64 0, .int .i64 0, .int .i64 0, .slice none 0 0, .bool false, .slice none 0 0, .slice none 0 0, .slice none 0 0, .slice none 0 0], .agg #[.slice none 0 0, .string .empty, .slice none 0 0, .slice none 0 0, .int .i64 0, .int .i64 0, .int .i64 0, .slice none 0 0, .bool false, .slice none 0 0, .slice none 0 0, .slice none 0 0, .slice none 0 0]] 8 (World.laidAll_os _ _ _)
      (World.shaped_of_ZipB (by kernel_rfl) (by kernel_rfl)) (by kernel_rfl) (by kernel_rfl) (by kernel_rfl)
      (by rw [MakeChecks.laidMetH_plain _ _ _ (by kernel_rfl)]; exact laidMet_laidAll _ (by kernel_rfl) (by kernel_rfl))) ?_
  intro W base args ds gs before hval0 hW hL hsh
  have hval : ∀ (j : Nat) t v, Tryz.f9.params[j]? = some t → args[j]? = some v → Value.okWide Tryz.prog W .any base t v := hval0
  have hW' := hW
  obtain ⟨p, q, hA0, hV, rfl, _, _⟩ := hW
  have hA : DataW.TrodAll enc Tryz.prog W 0 (fun _ => true) true Tryz.f9.params.toList args.toList ds p := hA0
  rw [Tryz.params9] at hA hval
  rw [MakeChecks.laidMetH_plain _ _ _ (by kernel_rfl)] at hL
  obtain ⟨m, hg⟩ := A6s hsh (A43 (Lib.laidMet.reads hL (n := "internal/strconv.uint64pow10") (d := Rows.laid_internal_strconv_uint64pow10) (.tail _ (.tail _ (.head _))))) (A3d (Lib.laidMet.reads hL (n := "transhipment/seal.keys") (d := Rows.laid_transhipment_seal_keys) (.tail _ (.tail _ (.tail _ (.tail _ (.tail _ (.head _)))))))) (A3e (Lib.laidMet.reads hL (n := "transhipment/hours.names") (d := Rows.laid_transhipment_hours_names) (.tail _ (.tail _ (.tail _ (.tail _ (.head _)))))))
  letI : GM := ⟨m, false⟩
  obtain ⟨v0, v1, d0, d1, p0, p1, rfl, rfl, rfl, h0, h1⟩ := trodAll_two hA
  obtain ⟨rfl, rfl⟩ := trodVars_none hV
  have h0k := h0
  obtain ⟨cs0, rfl, _⟩ := okWide_struct Tryz.underlying31 (hval 0 31 v0 rfl rfl)
  obtain ⟨fuel0, hf0⟩ := h0
  obtain ⟨c0, hp0, ft0⟩ := Aso hf0
  have hcs0 : (Value.agg cs0).cells.toList.toArray = cs0 := by simp [Value.cells]
  rw [hcs0] at hp0
  have h1k := h1
  obtain ⟨cs1, rfl, _⟩ := okWide_struct Tryz.underlying31 (hval 1 31 v1 rfl rfl)
  obtain ⟨fuel1, hf1⟩ := h1
  obtain ⟨c1, hp1, ft1⟩ := Aso hf1
  have hcs1 : (Value.agg cs1).cells.toList.toArray = cs1 := by simp [Value.cells]
  rw [hcs1] at hp1
  have hr := Aq2 c0 c1 ft0 ft1
  refine (A53 (Ah7 rfl hr) Tryz.call9 (vals := [.agg cs0, .agg cs1]) ⟨rfl, fun i v p hv hp' => ?_⟩ hg).mono fun e W' ⟨he, ho1, ho2, hb⟩ => ?_
  · match i, hv, hp' with
    | 0, hv, hp' => cases hv; cases hp'; exact hp0
    | 1, hv, hp' => cases hv; cases hp'; exact hp1
    | i + 2, hv, hp' => simp at hv
  · subst he
    have hlt : ∀ x ∈ p0 ++ p1, x.block < W.heap.size := fun x hx => hW'.lt x (by simpa using hx)
    exact ⟨_, rfl, _, _, _, [], _, [], hW', trodAll_mk1 (shut_bool Tryz.underlying4 true),
      trodAll_mk2 (WideElems.Trod_stays laidOut (by kernel_rfl) (of_decide_eq_true (by kernel_rfl)) h0k (fun x hx => A3f hb (hlt x (by simp [hx]))) (fun x hx => by simpa using hlt x (by simp [hx])))
        (WideElems.Trod_stays laidOut (by kernel_rfl) (of_decide_eq_true (by kernel_rfl)) h1k (fun x hx => A3f hb (hlt x (by simp [hx]))) (fun x hx => by simpa using hlt x (by simp [hx]))),
      rfl, kept ho1 ho2 hb _, fun h => by cases h⟩
theorem Atj : (Rows.configApartRow.wf (OpenSpec.ofChange Rows.configApartSpec)) = true := by kernel_rfl
theorem Atk : (laidOutB Tryz.pinned.checked.prog) = true := by kernel_rfl
theorem Atl : (mapsRowed Tryz.pinned.checked.prog) = true := by kernel_rfl
theorem Atm : (Tryz.f9.params.all (Tryz.pinned.checked.prog.readableRec ·)) = true := by kernel_rfl
theorem Atn : (namedTie Tryz.pinned.checked.prog Rows.configApartRow.named Rows.configApartSpec.vars) = true := by kernel_rfl
theorem Ato : ((Rows.configApartRow.stops == [])) = true := by kernel_rfl
theorem Atp : ((Tryz.pinned.checked.prog.stops == [])) = true := by kernel_rfl
theorem Atq : ((Rows.configApartRow.knobs == [])) = true := by kernel_rfl
theorem Atr : ((Tryz.pinned.checked.prog.stopKnobs == [])) = true := by kernel_rfl
theorem Ats : ((Rows.configApartRow.inPlace == Tryz.pinned.checked.prog.inPlace 9)) = true := by kernel_rfl
theorem Ard : ((Rows.configApartRow.unfollowed == Tryz.pinned.checked.prog.unfollowed 9)) = true := by kernel_rfl
theorem Are : ((Rows.configApartRow.recurses == Tryz.pinned.checked.prog.recurses 9)) = true := by kernel_rfl
theorem Arf : ((Rows.configApartRow.named == Tryz.pinned.checked.prog.varsNamed 9)) = true := by kernel_rfl
theorem Arh : ((Rows.configApartRow.maps == (Tryz.f9.params.toList ++ Rows.configApartSpec.plain.varTypes Tryz.pinned.checked.prog).any (Tryz.pinned.checked.prog.mapsRec ·))) = true := by kernel_rfl
theorem Ari : ((Rows.configApartRow.ifaces == (Tryz.f9.params.toList ++ Rows.configApartSpec.plain.varTypes Tryz.pinned.checked.prog).any (Tryz.pinned.checked.prog.ifacesRec ·))) = true := by kernel_rfl
theorem Arj : ((Rows.configApartRow.mapsOut == Tryz.pinned.checked.prog.mapsAmong Tryz.f9.resultTypes.toList)) = true := by kernel_rfl
theorem Ark : ((Rows.configApartRow.loops == (Tryz.f9.params.toList ++ Rows.configApartSpec.plain.varTypes Tryz.pinned.checked.prog).any (Tryz.pinned.checked.prog.loopsFrom ·))) = true := by kernel_rfl
theorem Arl : ((Rows.configApartRow.wideKeys == (Tryz.f9.params.toList ++ Rows.configApartSpec.plain.varTypes Tryz.pinned.checked.prog ++ Tryz.f9.resultTypes.toList).any (Tryz.pinned.checked.prog.wideKeysFrom ·))) = true := by kernel_rfl
theorem Arm : (Rows.configApartSpec.vars.all (Tryz.pinned.checked.prog.varReadable ·)) = true := by kernel_rfl
theorem Arn : (Tryz.f9.resultTypes.all (fun t => Tryz.pinned.checked.prog.readableRec t && decide (t < Tryz.pinned.checked.prog.types.size))) = true := by kernel_rfl
theorem Aro : ((Rows.configApartRow.ifacesOut == Tryz.f9.resultTypes.toList.any (Tryz.pinned.checked.prog.ifacesRec ·))) = true := by kernel_rfl
theorem Arp : ((Rows.configApartRow.loopsOut == Tryz.f9.resultTypes.toList.any (Tryz.pinned.checked.prog.loopsFrom ·))) = true := by kernel_rfl
theorem Arq : ((Rows.configApartRow.plainKeys == Tryz.pinned.checked.prog.plainKeys)) = true := by kernel_rfl
theorem Arr : (Rows.configApartRow.shortTexts.isNone) = true := by kernel_rfl
theorem Ars : (Tryz.pinned.checked.prog.stopsHeard) = true := by kernel_rfl
theorem Art : (Tryz.pinned.checked.prog.mayEnter) = true := by kernel_rfl
theorem Aru : ((Rows.configApartRow.lifted == Tryz.pinned.checked.prog.liftsFinal)) = true := by kernel_rfl
theorem Arv : ((Tryz.pinned.checked.prog.make == some Rows.configApartRow.make)) = true := by kernel_rfl
theorem Arw : ((Rows.configApartRow.kinds == (if Rows.configApartRow.domain.isEmpty then [] else Tryz.f9.params.toList.map fun t => match Tryz.pinned.checked.prog.underlying t with | some (.int k) => some k | _ => none))) = true := by kernel_rfl
theorem Arx : ((Rows.configApartRow.pinned == Rows.configApartRow.pinnedBy)) = true := by kernel_rfl
theorem Ary : ((Rows.configApartRow.veiled == (Tryz.f9.params.toList ++ Rows.configApartSpec.plain.varTypes Tryz.pinned.checked.prog ++ Tryz.f9.resultTypes.toList).any (Tryz.pinned.checked.prog.veiledRec ·))) = true := by kernel_rfl
theorem Arz : (Rows.configApartRow.veiledFits Tryz.pinned.checked.prog Tryz.f9.params.toList (Tryz.f9.params.toList ++ Rows.configApartSpec.plain.varTypes Tryz.pinned.checked.prog ++ Tryz.f9.resultTypes.toList)) = true := by kernel_rfl
theorem Aop : joinedFacts Tryz.pinned.checked.prog 9 Tryz.f9 Rows.configApartSpec Rows.configApartRow = true := by
  unfold joinedFacts
  exact and_t (and_t (and_t (and_t (and_t (and_t (and_t (and_t (and_t (and_t (and_t (and_t (and_t (and_t (and_t (and_t (and_t (and_t (and_t (and_t (and_t (and_t (and_t (and_t (and_t (and_t (and_t (and_t (and_t (and_t (and_t Atj Atk) Atl) Atm) Atn) Ato) Atp) Atq) Atr) Ats) Ard) Are) Arf) Arh) Ari) Arj) Ark) Arl) Arm) Arn) Aro) Arp) Arq) Arr) Ars) Art) Aru) Arv) Arw) Arx) Ary) Arz
theorem Att : Tryz.pinned.checked.prog.funcNamed Rows.configApartRow.func = some 9 := by kernel_rfl
theorem Atu : Tryz.f9.isInstance Tryz.pinned.checked.prog Rows.configApartRow.origin Rows.configApartRow.targs := of_decide_eq_true (by kernel_rfl)
theorem Atv : Tryz.f9.isWrapper Tryz.pinned.checked.prog Rows.configApartRow.wrapper Rows.configApartRow.mainSum := by unfold Func.isWrapper; first | (rw [if_pos (by decide +kernel)]; kernel_rfl) | (rw [if_neg (by decide +kernel)]; exact ⟨rfl, rfl⟩)
theorem Atw : Rows.configApartRow.wfByText (OpenSpec.ofChange Rows.configApartSpec) = true := by kernel_rfl
theorem Atx : Tryz.pinned.checked.prog.mainIs = some (true, "16dc5b216e9e4ba74633c5eb29ed2d8ba72d9e2f4a073134c4cdc249a0f54b8c".toList) := by kernel_rfl
theorem Aty : Tryz.prog.funcNamed "transhipment/transhipmentlaw10.ConfigApart" = some 9 := by kernel_rfl
theorem Atz : false = Tryz.prog.looks [] := by kernel_rfl
theorem At0 : ([31, 31].all fun u => !Tryz.prog.wantsStandIn u) = true := by kernel_rfl
theorem At1 : false = Rows.configApartRow.goesBy Tryz.pinned.checked.prog := by kernel_rfl
theorem Apl : Rows.ConfigApartSaid :=
  OpenClaim.holds_of_wide 9 Tryz.f9 rfl rfl rfl rfl rfl rfl rfl ⟨rfl, rfl, rfl, rfl, rfl⟩ rfl rfl rfl rfl rfl Att Tryz.func9 Aop Atu Atv
    (fun os started H enc _ => Aoo os started H enc)
theorem configApart_card : Rows.ConfigApartCardSaid :=
  Claim7.holds_tied_plain_at .later [] [.data, .data, .data, .data, .widerDeep, .data, .pinned] true (true, "16dc5b216e9e4ba74633c5eb29ed2d8ba72d9e2f4a073134c4cdc249a0f54b8c") false Apl (fun _ h => by cases h) Atw (fun _ h => by cases h) configApart_row_tie rfl ⟨rfl, rfl⟩ Atx rfl
    (fun f fn hf hfn => by
      obtain rfl : f = 9 := Option.some.inj (Aty.symm.trans hf) |>.symm
      obtain rfl : fn = Tryz.f9 := (Option.some.inj (Tryz.func9.symm.trans hfn)).symm
      exact ⟨Atz, fun j t ht => by
        rw [Tryz.params9] at ht
        have hm : t ∈ [31, 31] := by simpa using Array.mem_of_getElem? ht
        exact (show Tryz.prog.wantsStandIn t = false by simpa using List.all_eq_true.1 At0 t hm)⟩)
    At1
#print axioms configApart_card
end Go.Proofs.YtnkaolleaebhnaaGreatDoor
