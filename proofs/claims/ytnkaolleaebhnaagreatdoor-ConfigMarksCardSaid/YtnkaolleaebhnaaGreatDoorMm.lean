/- Texts of this claim: plain laws of what the program's functions compute. No condition of their own. -/
import Derived.Test.YtnkaolleaebhnaaGreatDoorMmRa
import Derived.Test.YtnkaolleaebhnaaGreatDoorMmFc
import Derived.Test.YtnkaolleaebhnaaGreatDoorMmWc
namespace Go.Proofs.YtnkaolleaebhnaaGreatDoor
set_option linter.unusedSimpArgs false
set_option linter.unusedVariables false
set_option linter.unusedSectionVars false
open Go Go.PL Go.Proofs Go.ChangeShapes Go.WideShapes Go.RowKit Rs
set_option maxRecDepth 100000
theorem Am1 (os : Os) (started : os.Started) (H : Type) (enc : TypeId × Value → H) :
    ReturnsInHanded {} Tryz.checked os 8 .any (fun w args => (Rows.configMarksSpec.pre enc Tryz.prog Tryz.f8 [] false w args ∧ laidMetH Tryz.prog Rows.configMarksRow.laid w) ∧ sizedMet enc Tryz.prog Tryz.f8 (OpenSpec.ofChange Rows.configMarksSpec) false w args)
      (Rows.configMarksSpec.post enc Tryz.prog Tryz.f8 false true false false) := by
  refine Ay2 (C := Tryz.checked) (X := fun w _ => laidMetH Tryz.prog Rows.configMarksRow.laid w) (fun _ _ _ hh h => h.of_heap hh) own started (by kernel_rfl) Tryz.func8
    (ChangeSpec.witness_shaped (enc := enc) (C := Tryz.checked) (os := os) (X := fun w _ => laidMetH Tryz.prog Rows.configMarksRow.laid w) false (World.laidAll Tryz.prog os Rows.configMarksRow.laid) #[.agg #[.slice none 0 0, .string .empty, .slice none 0 0, .slice none 0 0, .int .i64 0, .int .i64 0, .int .i64 0, .slice none 0 0, .bool false, .slice none 0 0, .slice none 0 0, .slice none 0 0, .slice none 0 0]] 8 (World.laidAll_os _ _ _)
      (World.shaped_of_ZipB (by kernel_rfl) (by kernel_rfl)) (by kernel_rfl) (by kernel_rfl) (by kernel_rfl)
      (by rw [MakeChecks.laidMetH_plain _ _ _ (by kernel_rfl)]; exact laidMet_laidAll _ (by kernel_rfl) (by kernel_rfl))) ?_
  intro W base args ds gs before hval0 hW hL hsh
  have hval : ∀ (j : Nat) t v, Tryz.f8.params[j]? = some t → args[j]? = some v → Value.okWide Tryz.prog W .any base t v := hval0
  have hW' := hW
  obtain ⟨p, q, hA0, hV, rfl, _, _⟩ := hW
  have hA : DataW.TrodAll enc Tryz.prog W 0 (fun _ => true) true Tryz.f8.params.toList args.toList ds p := hA0
  rw [Tryz.params8] at hA hval
  rw [MakeChecks.laidMetH_plain _ _ _ (by kernel_rfl)] at hL
  obtain ⟨m, hg⟩ := A3c hsh (A1z (Lib.laidMet.reads hL (n := "internal/strconv.uint64pow10") (d := Rows.laid_internal_strconv_uint64pow10) (.tail _ (.tail _ (.head _))))) (A0n (Lib.laidMet.reads hL (n := "transhipment/seal.keys") (d := Rows.laid_transhipment_seal_keys) (.tail _ (.tail _ (.tail _ (.tail _ (.tail _ (.head _)))))))) (A0o (Lib.laidMet.reads hL (n := "transhipment/hours.names") (d := Rows.laid_transhipment_hours_names) (.tail _ (.tail _ (.tail _ (.tail _ (.head _)))))))
  letI : GM := ⟨m, false⟩
  obtain ⟨v0, d0, rfl, rfl, h0⟩ := trodAll_one hA
  obtain ⟨rfl, rfl⟩ := trodVars_none hV
  have h0k := h0
  obtain ⟨cs0, rfl, _⟩ := okWide_struct Tryz.underlying31 (hval 0 31 v0 rfl rfl)
  obtain ⟨fuel0, hf0⟩ := h0
  obtain ⟨c0, hp0, ft0⟩ := Awy hf0
  have hcs0 : (Value.agg cs0).cells.toList.toArray = cs0 := by simp [Value.cells]
  rw [hcs0] at hp0
  have hr := Ao8 c0 ft0
  refine (A2t (Ag0 rfl hr) Tryz.call8 (vals := [.agg cs0]) ⟨rfl, fun i v p hv hp' => ?_⟩ hg).mono fun e W' ⟨he, ho1, ho2, hb⟩ => ?_
  · match i, hv, hp' with
    | 0, hv, hp' => cases hv; cases hp'; exact hp0
    | i + 1, hv, hp' => simp at hv
  · subst he
    have hlt : ∀ x ∈ p, x.block < W.heap.size := fun x hx => hW'.lt x (by simpa using hx)
    exact ⟨_, rfl, _, _, _, [], _, [], hW', trodAll_mk1 (shut_bool Tryz.underlying4 true),
      trodAll_mk1 (WideElems.Trod_stays laidOut (by kernel_rfl) (of_decide_eq_true (by kernel_rfl)) h0k (fun x hx => A2u hb (hlt x hx)) (fun x hx => by simpa using hlt x hx)),
      rfl, kept ho1 ho2 hb _, fun h => by cases h⟩
theorem Arh : (Rows.configMarksRow.wf (OpenSpec.ofChange Rows.configMarksSpec)) = true := by kernel_rfl
theorem Ari : (laidOutB Tryz.pinned.checked.prog) = true := by kernel_rfl
theorem Arj : (mapsRowed Tryz.pinned.checked.prog) = true := by kernel_rfl
theorem Ark : (Tryz.f8.params.all (Tryz.pinned.checked.prog.readableRec ·)) = true := by kernel_rfl
theorem Arl : (namedTie Tryz.pinned.checked.prog Rows.configMarksRow.named Rows.configMarksSpec.vars) = true := by kernel_rfl
theorem Arm : ((Rows.configMarksRow.stops == [])) = true := by kernel_rfl
theorem Arn : ((Tryz.pinned.checked.prog.stops == [])) = true := by kernel_rfl
theorem Aro : ((Rows.configMarksRow.knobs == [])) = true := by kernel_rfl
theorem Arp : ((Tryz.pinned.checked.prog.stopKnobs == [])) = true := by kernel_rfl
theorem Arq : ((Rows.configMarksRow.inPlace == Tryz.pinned.checked.prog.inPlace 8)) = true := by kernel_rfl
theorem Apg : ((Rows.configMarksRow.unfollowed == Tryz.pinned.checked.prog.unfollowed 8)) = true := by kernel_rfl
theorem Aph : ((Rows.configMarksRow.recurses == Tryz.pinned.checked.prog.recurses 8)) = true := by kernel_rfl
theorem Api : ((Rows.configMarksRow.named == Tryz.pinned.checked.prog.varsNamed 8)) = true := by kernel_rfl
theorem Apj : ((Rows.configMarksRow.maps == (Tryz.f8.params.toList ++ Rows.configMarksSpec.plain.varTypes Tryz.pinned.checked.prog).any (Tryz.pinned.checked.prog.mapsRec ·))) = true := by kernel_rfl
theorem Apk : ((Rows.configMarksRow.ifaces == (Tryz.f8.params.toList ++ Rows.configMarksSpec.plain.varTypes Tryz.pinned.checked.prog).any (Tryz.pinned.checked.prog.ifacesRec ·))) = true := by kernel_rfl
theorem Apl : ((Rows.configMarksRow.mapsOut == Tryz.pinned.checked.prog.mapsAmong Tryz.f8.resultTypes.toList)) = true := by kernel_rfl
theorem Apm : ((Rows.configMarksRow.loops == (Tryz.f8.params.toList ++ Rows.configMarksSpec.plain.varTypes Tryz.pinned.checked.prog).any (Tryz.pinned.checked.prog.loopsFrom ·))) = true := by kernel_rfl
theorem Apn : ((Rows.configMarksRow.wideKeys == (Tryz.f8.params.toList ++ Rows.configMarksSpec.plain.varTypes Tryz.pinned.checked.prog ++ Tryz.f8.resultTypes.toList).any (Tryz.pinned.checked.prog.wideKeysFrom ·))) = true := by kernel_rfl
theorem Apo : (Rows.configMarksSpec.vars.all (Tryz.pinned.checked.prog.varReadable ·)) = true := by kernel_rfl
theorem App : (Tryz.f8.resultTypes.all (fun t => Tryz.pinned.checked.prog.readableRec t && decide (t < Tryz.pinned.checked.prog.types.size))) = true := by kernel_rfl
theorem Apq : ((Rows.configMarksRow.ifacesOut == Tryz.f8.resultTypes.toList.any (Tryz.pinned.checked.prog.ifacesRec ·))) = true := by kernel_rfl
theorem Apr : ((Rows.configMarksRow.loopsOut == Tryz.f8.resultTypes.toList.any (Tryz.pinned.checked.prog.loopsFrom ·))) = true := by kernel_rfl
theorem Aps : ((Rows.configMarksRow.plainKeys == Tryz.pinned.checked.prog.plainKeys)) = true := by kernel_rfl
theorem Apt : (Rows.configMarksRow.shortTexts.isNone) = true := by kernel_rfl
theorem Apu : (Tryz.pinned.checked.prog.stopsHeard) = true := by kernel_rfl
theorem Apv : (Tryz.pinned.checked.prog.mayEnter) = true := by kernel_rfl
theorem Apw : ((Rows.configMarksRow.lifted == Tryz.pinned.checked.prog.liftsFinal)) = true := by kernel_rfl
theorem Apx : ((Tryz.pinned.checked.prog.make == some Rows.configMarksRow.make)) = true := by kernel_rfl
theorem Apy : ((Rows.configMarksRow.kinds == (if Rows.configMarksRow.domain.isEmpty then [] else Tryz.f8.params.toList.map fun t => match Tryz.pinned.checked.prog.underlying t with | some (.int k) => some k | _ => none))) = true := by kernel_rfl
theorem Apz : ((Rows.configMarksRow.pinned == Rows.configMarksRow.pinnedBy)) = true := by kernel_rfl
theorem Ap0 : ((Rows.configMarksRow.veiled == (Tryz.f8.params.toList ++ Rows.configMarksSpec.plain.varTypes Tryz.pinned.checked.prog ++ Tryz.f8.resultTypes.toList).any (Tryz.pinned.checked.prog.veiledRec ·))) = true := by kernel_rfl
theorem Ap1 : (Rows.configMarksRow.veiledFits Tryz.pinned.checked.prog Tryz.f8.params.toList (Tryz.f8.params.toList ++ Rows.configMarksSpec.plain.varTypes Tryz.pinned.checked.prog ++ Tryz.f8.resultTypes.toList)) = true := by kernel_rfl
theorem Am2 : joinedFacts Tryz.pinned.checked.prog 8 Tryz.f8 Rows.configMarksSpec Rows.configMarksRow = true := by
  unfold joinedFacts
  exact and_t (and_t (and_t (and_t (and_t (and_t (and_t (and_t (and_t (and_t (and_t (and_t (and_t (and_t (and_t (and_t (and_t (and_t (and_t (and_t (and_t (and_t (and_t (and_t (and_t (and_t (and_t (and_t (and_t (and_t (and_t Arh Ari) Arj) Ark) Arl) Arm) Arn) Aro) Arp) Arq) Apg) Aph) Api) Apj) Apk) Apl) Apm) Apn) Apo) App) Apq) Apr) Aps) Apt) Apu) Apv) Apw) Apx) Apy) Apz) Ap0) Ap1
theorem Arr : Tryz.pinned.checked.prog.funcNamed Rows.configMarksRow.func = some 8 := by kernel_rfl
theorem Ars : Tryz.f8.isInstance Tryz.pinned.checked.prog Rows.configMarksRow.origin Rows.configMarksRow.targs := of_decide_eq_true (by kernel_rfl)
theorem Art : Tryz.f8.isWrapper Tryz.pinned.checked.prog Rows.configMarksRow.wrapper Rows.configMarksRow.mainSum := by unfold Func.isWrapper; first | (rw [if_pos (by decide +kernel)]; kernel_rfl) | (rw [if_neg (by decide +kernel)]; exact ⟨rfl, rfl⟩)
theorem Aru : Rows.configMarksRow.wfByText (OpenSpec.ofChange Rows.configMarksSpec) = true := by kernel_rfl
theorem Arv : Tryz.pinned.checked.prog.mainIs = some (true, "16dc5b216e9e4ba74633c5eb29ed2d8ba72d9e2f4a073134c4cdc249a0f54b8c".toList) := by kernel_rfl
theorem Arw : Tryz.prog.funcNamed "transhipment/transhipmentlaw10.ConfigMarks" = some 8 := by kernel_rfl
theorem Arx : false = Tryz.prog.looks [] := by kernel_rfl
theorem Ary : ([31].all fun u => !Tryz.prog.wantsStandIn u) = true := by kernel_rfl
theorem Arz : false = Rows.configMarksRow.goesBy Tryz.pinned.checked.prog := by kernel_rfl
theorem Anv : Rows.ConfigMarksSaid :=
  OpenClaim.holds_of_wide 8 Tryz.f8 rfl rfl rfl rfl rfl rfl rfl ⟨rfl, rfl, rfl, rfl, rfl⟩ rfl rfl rfl rfl rfl Arr Tryz.func8 Am2 Ars Art
    (fun os started H enc _ => Am1 os started H enc)
theorem configMarks_card : Rows.ConfigMarksCardSaid :=
  Claim7.holds_tied_plain_at .later [] [.data, .data, .data, .data, .widerDeep, .data, .pinned] true (true, "16dc5b216e9e4ba74633c5eb29ed2d8ba72d9e2f4a073134c4cdc249a0f54b8c") false Anv (fun _ h => by cases h) Aru (fun _ h => by cases h) configMarks_row_tie rfl ⟨rfl, rfl⟩ Arv rfl
    (fun f fn hf hfn => by
      obtain rfl : f = 8 := Option.some.inj (Arw.symm.trans hf) |>.symm
      obtain rfl : fn = Tryz.f8 := (Option.some.inj (Tryz.func8.symm.trans hfn)).symm
      exact ⟨Arx, fun j t ht => by
        rw [Tryz.params8] at ht
        have hm : t ∈ [31] := by simpa using Array.mem_of_getElem? ht
        exact (show Tryz.prog.wantsStandIn t = false by simpa using List.all_eq_true.1 Ary t hm)⟩)
    Arz
#print axioms configMarks_card
end Go.Proofs.YtnkaolleaebhnaaGreatDoor
