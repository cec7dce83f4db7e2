/- Texts of this claim: plain laws of what the program's functions compute. No condition of their own. -/
import Derived.Test.YtnkaolleaebhnaaGreatDoorDlFc
import Derived.Test.YtnkaolleaebhnaaGreatDoorDlWc
import Derived.Test.YtnkaolleaebhnaaGreatDoorDlRb
import Derived.Test.YtnkaolleaebhnaaGreatDoorDlRc
namespace Go.Proofs.YtnkaolleaebhnaaGreatDoor
set_option linter.unusedSimpArgs false
set_option linter.unusedVariables false
set_option linter.unusedSectionVars false
open Go Go.PL Go.Proofs Go.ChangeShapes Go.WideShapes Go.RowKit Rs
set_option maxRecDepth 100000
theorem Aqa (os : Os) (started : os.Started) (H : Type) (enc : TypeId × Value → H) :
    ReturnsInHanded {} Tryz.checked os 5 .any (fun w args => (Rows.diffLossSpec.pre enc Tryz.prog Tryz.f5 [] false w args ∧ laidMetH Tryz.prog Rows.diffLossRow.laid w) ∧ sizedMet enc Tryz.prog Tryz.f5 (OpenSpec.ofChange Rows.diffLossSpec) false w args)
      (Rows.diffLossSpec.post enc Tryz.prog Tryz.f5 false true false false) := by
  refine A0m (C := Tryz.checked) (X := fun w _ => laidMetH Tryz.prog Rows.diffLossRow.laid w) (fun _ _ _ hh h => h.of_heap hh) own started (by kernel_rfl) Tryz.func5
    (ChangeSpec.witness_shaped (enc := enc) (C := Tryz.checked) (os := os) (X := fun w _ => laidMetH Tryz.prog Rows.diffLossRow.laid w) false (World.laidAll Tryz.prog os Rows.diffLossRow.laid) #[.agg #[.slice none 0 0, .string .empty, .slice none 0 0, .slice none 0 0, .int .i64 0, .int .i64 0, .int .i64 0, .slice none 0 0, .bool false, .slice none 0 0, .slice none 0 0, .slice none 0 0, .slice none 0 0]] 8 (World.laidAll_os _ _ _)
      (World.shaped_of_ZipB (by kernel_rfl) (by kernel_rfl)) (by kernel_rfl) (by kernel_rfl) (by kernel_rfl)
      (by rw [MakeChecks.laidMetH_plain _ _ _ (by kernel_rfl)]; exact laidMet_laidAll _ (by kernel_rfl) (by kernel_rfl))) ?_
  intro W base args ds gs before hval0 hW hL hsh
  have hval : ∀ (j : Nat) t v, Tryz.f5.params[j]? = some t → args[j]? = some v → Value.okWide Tryz.prog W .any base t v := hval0
  have hW' := hW
  obtain ⟨p, q, hA0, hV, rfl, _, _⟩ := hW
  have hA : DataW.TrodAll enc Tryz.prog W 0 (fun _ => true) true Tryz.f5.params.toList args.toList ds p := hA0
  rw [Tryz.params5] at hA hval
  obtain ⟨m, hg⟩ := gi_m hsh
  letI : GM := ⟨m, false⟩
  obtain ⟨v0, d0, rfl, rfl, h0⟩ := trodAll_one hA
  obtain ⟨rfl, rfl⟩ := trodVars_none hV
  have h0k := h0
  obtain ⟨cs0, rfl, _⟩ := okWide_struct Tryz.underlying31 (hval 0 31 v0 rfl rfl)
  obtain ⟨fuel0, hf0⟩ := h0
  obtain ⟨c0, hp0, ft0⟩ := Axv hf0
  have hcs0 : (Value.agg cs0).cells.toList.toArray = cs0 := by simp [Value.cells]
  rw [hcs0] at hp0
  have hr := Aux c0 ft0
  refine (A4y (Aiw rfl hr) Tryz.call5 (vals := [.agg cs0]) ⟨rfl, fun i v p hv hp' => ?_⟩ hg).mono fun e W' ⟨he, ho1, ho2, hb⟩ => ?_
  · match i, hv, hp' with
    | 0, hv, hp' => cases hv; cases hp'; exact hp0
    | i + 1, hv, hp' => simp at hv
  · subst he
    have hlt : ∀ x ∈ p, x.block < W.heap.size := fun x hx => hW'.lt x (by simpa using hx)
    exact ⟨_, rfl, _, _, _, [], _, [], hW', trodAll_mk1 (shut_bool Tryz.underlying4 true),
      trodAll_mk1 (WideElems.Trod_stays laidOut (by kernel_rfl) (of_decide_eq_true (by kernel_rfl)) h0k (fun x hx => A40 hb (hlt x hx)) (fun x hx => by simpa using hlt x hx)),
      rfl, kept ho1 ho2 hb _, fun h => by cases h⟩
theorem Aqb : joinedFacts Tryz.pinned.checked.prog 5 Tryz.f5 Rows.diffLossSpec Rows.diffLossRow = true := by
  unfold joinedFacts
  exact and_t (and_t (and_t (and_t (and_t (and_t (and_t (and_t (and_t (and_t (and_t (and_t (and_t (and_t (and_t (and_t (and_t (and_t (and_t (and_t (and_t (and_t (and_t (and_t (and_t (and_t (and_t (and_t (and_t (and_t (and_t Axw Axx) Axy) Axz) Ax0) Ax1) Ax2) Ax3) Ax4) Ax5) Avs) Avt) Avu) Avv) Avw) Avx) Avy) Avz) Av0) Av1) Av2) Av3) Av4) Av5) Av6) Av7) Av8) Av9) Awa) Awb) Awc) Awd
theorem Ar2 : Rows.DiffLossSaid :=
  OpenClaim.holds_of_wide 5 Tryz.f5 rfl rfl rfl rfl rfl rfl rfl ⟨rfl, rfl, rfl, rfl, rfl⟩ rfl rfl rfl rfl rfl Ax6 Tryz.func5 Aqb Ax7 Ax8
    (fun os started H enc _ => Aqa os started H enc)
theorem diffLoss_card : Rows.DiffLossCardSaid :=
  Claim7.holds_tied_plain_at .later [] [.data, .pinned] true (true, "16dc5b216e9e4ba74633c5eb29ed2d8ba72d9e2f4a073134c4cdc249a0f54b8c") false Ar2 (fun _ h => by cases h) Ax9 (fun _ h => by cases h) diffLoss_row_tie rfl ⟨rfl, rfl⟩ Aya rfl
    (fun f fn hf hfn => by
      obtain rfl : f = 5 := Option.some.inj (Ayb.symm.trans hf) |>.symm
      obtain rfl : fn = Tryz.f5 := (Option.some.inj (Tryz.func5.symm.trans hfn)).symm
      exact ⟨Ayc, fun j t ht => by
        rw [Tryz.params5] at ht
        have hm : t ∈ [31] := by simpa using Array.mem_of_getElem? ht
        exact (show Tryz.prog.wantsStandIn t = false by simpa using List.all_eq_true.1 Ayd t hm)⟩)
    Aye
#print axioms diffLoss_card
end Go.Proofs.YtnkaolleaebhnaaGreatDoor
