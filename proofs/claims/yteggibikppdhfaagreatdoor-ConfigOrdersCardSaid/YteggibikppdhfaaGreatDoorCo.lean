/- Texts of this claim: plain laws of what the program's functions compute. No condition of their own. -/
import Derived.Test.YteggibikppdhfaaGreatDoorRa
import Derived.Test.YteggibikppdhfaaGreatDoorFd
import Derived.Test.YteggibikppdhfaaGreatDoorWc
namespace Go.Proofs.YteggibikppdhfaaGreatDoor
set_option linter.unusedSimpArgs false
set_option linter.unusedVariables false
set_option linter.unusedSectionVars false
open Go Go.PL Go.Proofs Go.ChangeShapes Go.WideShapes Go.RowKit Rs
set_option maxRecDepth 100000
theorem configOrders_lifted (os : Os) (started : os.Started) (H : Type) (enc : TypeId × Value → H) :
    ReturnsInHanded {} Tryz.checked os 9 .any (fun w args => (Rows.configOrdersSpec.pre enc Tryz.prog Tryz.f9 [] false w args ∧ laidMetH Tryz.prog Rows.configOrdersRow.laid w) ∧ sizedMet enc Tryz.prog Tryz.f9 (OpenSpec.ofChange Rows.configOrdersSpec) false w args)
      (Rows.configOrdersSpec.post enc Tryz.prog Tryz.f9 false true false false) := by
  refine returns_sx (C := Tryz.checked) (X := fun w _ => laidMetH Tryz.prog Rows.configOrdersRow.laid w) (fun _ _ _ hh h => h.of_heap hh) own started (by kernel_rfl) Tryz.func9
    (ChangeSpec.witness_shaped (enc := enc) (C := Tryz.checked) (os := os) (X := fun w _ => laidMetH Tryz.prog Rows.configOrdersRow.laid w) false (World.laidAll Tryz.prog os Rows.configOrdersRow.laid) #[.agg #[.slice none 0 0, .string .empty, .slice none 0 0, .slice none 0 0, .int .i64 0, .int .i64 0, .int .i64 0, .slice none 0 0, .bool false, .slice none 0 0, .slice none 0 0, .slice none 0 0, .slice none 0 0], .int .i64 0] 8 (World.laidAll_os _ _ _)
      (World.shaped_of_ZipB (by kernel_rfl) (by kernel_rfl)) (by kernel_rfl) (by kernel_rfl) (by kernel_rfl)
      (by rw [MakeChecks.laidMetH_plain _ _ _ (by kernel_rfl)]; exact laidMet_laidAll _ (by kernel_rfl) (by kernel_rfl))) ?_
  intro W base args ds gs before hval0 hW hL hsh
  have hval : ∀ (j : Nat) t v, Tryz.f9.params[j]? = some t → args[j]? = some v → Value.okWide Tryz.prog W .any base t v := hval0
  have hW' := hW
  obtain ⟨p, q, hA0, hV, rfl, _, _⟩ := hW
  have hA : DataW.TrodAll enc Tryz.prog W 0 (fun _ => true) true Tryz.f9.params.toList args.toList ds p := hA0
  rw [Tryz.params9] at hA hval
  rw [MakeChecks.laidMetH_plain _ _ _ (by kernel_rfl)] at hL
  obtain ⟨m, hg⟩ := gi_all hsh (tab_read (Lib.laidMet.reads hL (n := "internal/strconv.uint64pow10") (d := Rows.laid_internal_strconv_uint64pow10) (.tail _ (.tail _ (.head _))))) (days_read (Lib.laidMet.reads hL (n := "transhipment/hours.names") (d := Rows.laid_transhipment_hours_names) (.tail _ (.tail _ (.tail _ (.tail _ (.head _)))))))
  letI : GM := ⟨m, false⟩
  obtain ⟨v0, v1, d0, d1, p0, p1, rfl, rfl, rfl, h0, h1⟩ := trodAll_two hA
  obtain ⟨rfl, rfl⟩ := trodVars_none hV
  have h0k := h0
  obtain ⟨cs0, rfl, _⟩ := okWide_struct Tryz.underlying31 (hval 0 31 v0 rfl rfl)
  obtain ⟨fuel0, hf0⟩ := h0
  obtain ⟨c0, hp0, ft0⟩ := config_read hf0
  have hcs0 : (Value.agg cs0).cells.toList.toArray = cs0 := by simp [Value.cells]
  rw [hcs0] at hp0
  have h1k := h1
  obtain ⟨k1, rfl⟩ := okWide_int Tryz.underlying3 (hval 1 3 v1 rfl rfl)
  have hr := ConfigOrders_true c0 k1 ft0
  refine (law_run (transhipmentlaw10_ConfigOrders_ok rfl hr) Tryz.call9 (vals := [.agg cs0, .int .i64 k1]) ⟨rfl, fun i v p hv hp' => ?_⟩ hg).mono fun e W' ⟨he, ho1, ho2, hb⟩ => ?_
  · match i, hv, hp' with
    | 0, hv, hp' => cases hv; cases hp'; exact hp0
    | 1, hv, hp' => cases hv; cases hp'; exact RP.ofVal ..
    | i + 2, hv, hp' => simp at hv
  · subst he
    have hlt : ∀ x ∈ p0 ++ p1, x.block < W.heap.size := fun x hx => hW'.lt x (by simpa using hx)
    exact ⟨_, rfl, _, _, _, [], _, [], hW', trodAll_mk1 (shut_bool Tryz.underlying4 true),
      trodAll_mk2 (WideElems.Trod_stays laidOut (by kernel_rfl) (of_decide_eq_true (by kernel_rfl)) h0k (fun x hx => same_at hb (hlt x (by simp [hx]))) (fun x hx => by simpa using hlt x (by simp [hx])))
        (WideElems.Trod_stays laidOut (by kernel_rfl) (of_decide_eq_true (by kernel_rfl)) h1k (fun x hx => same_at hb (hlt x (by simp [hx]))) (fun x hx => by simpa using hlt x (by simp [hx]))),
      rfl, kept ho1 ho2 hb _, fun h => by cases h⟩
theorem configOrders_k0 : (Rows.configOrdersRow.wf (OpenSpec.ofChange Rows.configOrdersSpec)) = true := by kernel_rfl
theorem configOrders_k1 : (laidOutB Tryz.pinned.checked.prog) = true := by kernel_rfl
theorem configOrders_k2 : (mapsRowed Tryz.pinned.checked.prog) = true := by kernel_rfl
theorem configOrders_k3 : (Tryz.f9.params.all (Tryz.pinned.checked.prog.readableRec ·)) = true := by kernel_rfl
theorem configOrders_k4 : (namedTie Tryz.pinned.checked.prog Rows.configOrdersRow.named Rows.configOrdersSpec.vars) = true := by kernel_rfl
theorem configOrders_k5 : ((Rows.configOrdersRow.stops == [])) = true := by kernel_rfl
theorem configOrders_k6 : ((Tryz.pinned.checked.prog.stops == [])) = true := by kernel_rfl
theorem configOrders_k7 : ((Rows.configOrdersRow.knobs == [])) = true := by kernel_rfl
theorem configOrders_k8 : ((Tryz.pinned.checked.prog.stopKnobs == [])) = true := by kernel_rfl
theorem configOrders_k9 : ((Rows.configOrdersRow.inPlace == Tryz.pinned.checked.prog.inPlace 9)) = true := by kernel_rfl
theorem configOrders_k10 : ((Rows.configOrdersRow.unfollowed == Tryz.pinned.checked.prog.unfollowed 9)) = true := by kernel_rfl
theorem configOrders_k11 : ((Rows.configOrdersRow.recurses == Tryz.pinned.checked.prog.recurses 9)) = true := by kernel_rfl
theorem configOrders_k12 : ((Rows.configOrdersRow.named == Tryz.pinned.checked.prog.varsNamed 9)) = true := by kernel_rfl
theorem configOrders_k13 : ((Rows.configOrdersRow.maps == (Tryz.f9.params.toList ++ Rows.configOrdersSpec.plain.varTypes Tryz.pinned.checked.prog).any (Tryz.pinned.checked.prog.mapsRec ·))) = true := by kernel_rfl
theorem configOrders_k14 : ((Rows.configOrdersRow.ifaces == (Tryz.f9.params.toList ++ Rows.configOrdersSpec.plain.varTypes Tryz.pinned.checked.prog).any (Tryz.pinned.checked.prog.ifacesRec ·))) = true := by kernel_rfl
theorem configOrders_k15 : ((Rows.configOrdersRow.mapsOut == Tryz.pinned.checked.prog.mapsAmong Tryz.f9.resultTypes.toList)) = true := by kernel_rfl
theorem configOrders_k16 : ((Rows.configOrdersRow.loops == (Tryz.f9.params.toList ++ Rows.configOrdersSpec.plain.varTypes Tryz.pinned.checked.prog).any (Tryz.pinned.checked.prog.loopsFrom ·))) = true := by kernel_rfl
theorem configOrders_k17 : ((Rows.configOrdersRow.wideKeys == (Tryz.f9.params.toList ++ Rows.configOrdersSpec.plain.varTypes Tryz.pinned.checked.prog ++ Tryz.f9.resultTypes.toList).any (Tryz.pinned.checked.prog.wideKeysFrom ·))) = true := by kernel_rfl
theorem configOrders_k18 : (Rows.configOrdersSpec.vars.all (Tryz.pinned.checked.prog.varReadable ·)) = true := by kernel_rfl
theorem configOrders_k19 : (Tryz.f9.resultTypes.all (fun t => Tryz.pinned.checked.prog.readableRec t && decide (t < Tryz.pinned.checked.prog.types.size))) = true := by kernel_rfl
theorem configOrders_k20 : ((Rows.configOrdersRow.ifacesOut == Tryz.f9.resultTypes.toList.any (Tryz.pinned.checked.prog.ifacesRec ·))) = true := by kernel_rfl
theorem configOrders_k21 : ((Rows.configOrdersRow.loopsOut == Tryz.f9.resultTypes.toList.any (Tryz.pinned.checked.prog.loopsFrom ·))) = true := by kernel_rfl
theorem configOrders_k22 : ((Rows.configOrdersRow.plainKeys == Tryz.pinned.checked.prog.plainKeys)) = true := by kernel_rfl
theorem configOrders_k23 : (Rows.configOrdersRow.shortTexts.isNone) = true := by kernel_rfl
theorem configOrders_k24 : (Tryz.pinned.checked.prog.stopsHeard) = true := by kernel_rfl
theorem configOrders_k25 : (Tryz.pinned.checked.prog.mayEnter) = true := by kernel_rfl
theorem configOrders_k26 : ((Rows.configOrdersRow.lifted == Tryz.pinned.checked.prog.liftsFinal)) = true := by kernel_rfl
theorem configOrders_k27 : ((Tryz.pinned.checked.prog.make == some Rows.configOrdersRow.make)) = true := by kernel_rfl
theorem configOrders_k28 : ((Rows.configOrdersRow.kinds == (if Rows.configOrdersRow.domain.isEmpty then [] else Tryz.f9.params.toList.map fun t => match Tryz.pinned.checked.prog.underlying t with | some (.int k) => some k | _ => none))) = true := by kernel_rfl
theorem configOrders_k29 : ((Rows.configOrdersRow.pinned == Rows.configOrdersRow.pinnedBy)) = true := by kernel_rfl
theorem configOrders_k30 : ((Rows.configOrdersRow.veiled == (Tryz.f9.params.toList ++ Rows.configOrdersSpec.plain.varTypes Tryz.pinned.checked.prog ++ Tryz.f9.resultTypes.toList).any (Tryz.pinned.checked.prog.veiledRec ·))) = true := by kernel_rfl
theorem configOrders_k31 : (Rows.configOrdersRow.veiledFits Tryz.pinned.checked.prog Tryz.f9.params.toList (Tryz.f9.params.toList ++ Rows.configOrdersSpec.plain.varTypes Tryz.pinned.checked.prog ++ Tryz.f9.resultTypes.toList)) = true := by kernel_rfl
theorem configOrders_joined : joinedFacts Tryz.pinned.checked.prog 9 Tryz.f9 Rows.configOrdersSpec Rows.configOrdersRow = true := by
  unfold joinedFacts
  exact and_t (and_t (and_t (and_t (and_t (and_t (and_t (and_t (and_t (and_t (and_t (and_t (and_t (and_t (and_t (and_t (and_t (and_t (and_t (and_t (and_t (and_t (and_t (and_t (and_t (and_t (and_t (and_t (and_t (and_t (and_t configOrders_k0 configOrders_k1) configOrders_k2) configOrders_k3) configOrders_k4) configOrders_k5) configOrders_k6) configOrders_k7) configOrders_k8) configOrders_k9) configOrders_k10) configOrders_k11) configOrders_k12) configOrders_k13) configOrders_k14) configOrders_k15) configOrders_k16) configOrders_k17) configOrders_k18) configOrders_k19) configOrders_k20) configOrders_k21) configOrders_k22) configOrders_k23) configOrders_k24) configOrders_k25) configOrders_k26) configOrders_k27) configOrders_k28) configOrders_k29) configOrders_k30) configOrders_k31
theorem configOrders_c1 : Tryz.pinned.checked.prog.funcNamed Rows.configOrdersRow.func = some 9 := by kernel_rfl
theorem configOrders_c2 : Tryz.f9.isInstance Tryz.pinned.checked.prog Rows.configOrdersRow.origin Rows.configOrdersRow.targs := of_decide_eq_true (by kernel_rfl)
theorem configOrders_c3 : Tryz.f9.isWrapper Tryz.pinned.checked.prog Rows.configOrdersRow.wrapper Rows.configOrdersRow.mainSum := by unfold Func.isWrapper; first | (rw [if_pos (by decide +kernel)]; kernel_rfl) | (rw [if_neg (by decide +kernel)]; exact ⟨rfl, rfl⟩)
theorem configOrders_c4 : Rows.configOrdersRow.wfByText (OpenSpec.ofChange Rows.configOrdersSpec) = true := by kernel_rfl
theorem configOrders_c5 : Tryz.pinned.checked.prog.mainIs = some (true, "9cd52a9589119c7ede186be6b14b930fe4e149db92f683512c7999d0f543a68e".toList) := by kernel_rfl
theorem configOrders_c6 : Tryz.prog.funcNamed "transhipment/transhipmentlaw10.ConfigOrders" = some 9 := by kernel_rfl
theorem configOrders_c7 : false = Tryz.prog.looks [] := by kernel_rfl
theorem configOrders_c8 : ([31, 3].all fun u => !Tryz.prog.wantsStandIn u) = true := by kernel_rfl
theorem configOrders_c9 : false = Rows.configOrdersRow.goesBy Tryz.pinned.checked.prog := by kernel_rfl
theorem configOrders_holds : Rows.ConfigOrdersSaid :=
  OpenClaim.holds_of_wide 9 Tryz.f9 rfl rfl rfl rfl rfl rfl rfl ⟨rfl, rfl, rfl, rfl, rfl⟩ rfl rfl rfl rfl rfl configOrders_c1 Tryz.func9 configOrders_joined configOrders_c2 configOrders_c3
    (fun os started H enc _ => configOrders_lifted os started H enc)
theorem configOrders_card : Rows.ConfigOrdersCardSaid :=
  Claim7.holds_tied_plain_at .later [] [.data, .data, .data, .data, .widerDeep, .pinned] true (true, "9cd52a9589119c7ede186be6b14b930fe4e149db92f683512c7999d0f543a68e") false configOrders_holds (fun _ h => by cases h) configOrders_c4 (fun _ h => by cases h) configOrders_row_tie rfl ⟨rfl, rfl⟩ configOrders_c5 rfl
    (fun f fn hf hfn => by
      obtain rfl : f = 9 := Option.some.inj (configOrders_c6.symm.trans hf) |>.symm
      obtain rfl : fn = Tryz.f9 := (Option.some.inj (Tryz.func9.symm.trans hfn)).symm
      exact ⟨configOrders_c7, fun j t ht => by
        rw [Tryz.params9] at ht
        have hm : t ∈ [31, 3] := by simpa using Array.mem_of_getElem? ht
        exact (show Tryz.prog.wantsStandIn t = false by simpa using List.all_eq_true.1 configOrders_c8 t hm)⟩)
    configOrders_c9
#print axioms configOrders_card
end Go.Proofs.YteggibikppdhfaaGreatDoor
