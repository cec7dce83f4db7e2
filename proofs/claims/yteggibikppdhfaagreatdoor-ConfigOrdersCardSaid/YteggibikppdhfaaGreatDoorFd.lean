/- Texts of this claim: plain laws of what the program's functions compute. No condition of their own. -/
import Derived.Test.YteggibikppdhfaaGreatDoorFc
namespace Go.PL
set_option linter.unusedSimpArgs false
set_option linter.unusedVariables false
set_option linter.unusedSectionVars false
open Tys (Ty U)
open Enc (sz enc dflt tb ofB toB)
open Dec (dec dok)
set_option maxRecDepth 100000
open Go.Proofs
variable [GM]
theorem slices_Clone_string_string_ok {A : Ar} (hA : A = std) {x0 : List ByteArray} {r : Int × List ByteArray} (h : slices_Clone_string_string A x0 = some r) : PFunM cx 138 [.d (.sl TyS.str x0)] [] ((fun r : Int × List ByteArray => (.ms 2000 1 TyS.str 0 r.1 : PV)) r) ((fun r : Int × List ByteArray => ([⟨2000, 1, .arr 9 TyS.str r.2⟩] : List En)) r) := by
 refine PFunM.walkM (fz := fun k => k == 65541 || k == 65543 || k == 65538 || k == 65538 || k == 65538) hA cx_ok Tryz.func138 rfl rfl fun P R hP hR => ?_
 cbv
 unfold slices_Clone_string_string at h
 iterate 2 refine kj ?_
 replace h := both_e h; obtain ⟨h1, h2⟩ := h
 refine ⟨fun hc => ?_, ?_⟩
 ·have h := h1 hc
  clear h1 h2
  cbv
  refine kj ?_
  cases h
  refine hR _ _ ⟨[(2, 4)], ⟨by rfl, ez, by rfl, ez⟩⟩
 ·have h := h2
  clear h1 h2
  refine kj ?_
  replace h := ck_e h; obtain ⟨c1, h⟩ := h; refine ⟨c1, ?_⟩
  cases h
  refine hR _ _ ⟨[(7, 4)], ⟨by rfl, ez, by rfl, ez⟩⟩
theorem config_sorted_string_1_ok {A : Ar} (hA : A = std) {x0 : ByteArray} {x1 : ByteArray} {qc0 : ByteArray → Option ByteArray} {gc0 : Nat} {capc0 : List D} (hcapc0 : capOK capc0) (hqc0 : ∀ (y0 : ByteArray) (r : ByteArray), qc0 y0 = some r → PFun cx gc0 ((st y0) :: un.uns capc0) (st r)) {r : Int} (h : config_sorted_string_1 A x0 x1 qc0 = some r) : PFun cx 140 [st x0, st x1, .ip [.fun (.func gc0) [] capc0]] ((fun r : Int => (it .i64 r : PV)) r) := by
 rcases hcapc0 with rfl | ⟨dscapc0, rfl⟩
 all_goals
  refine PFun.walkF (fz := fun _ => false) hA cx_ok Tryz.func140 rfl rfl rfl fun P R hP hR => ?_
  cbv
  unfold config_sorted_string_1 at h
  iterate 2 refine kj ?_
  replace h := bd_e h; obtain ⟨w1, hw1, h⟩ := h
  refine CallK.mk _ (by rfl) (fun _ => PFun.to hP (hqc0 _ _ hw1)) ?_
  cbv
  replace h := bd_e h; obtain ⟨w2, hw2, h⟩ := h
  refine CallK.mk _ (by rfl) (fun _ => PFun.to hP (hqc0 _ _ hw2)) ?_
  cbv
  replace h := bd_e h; obtain ⟨w3, hw3, h⟩ := h
  refine CallK.mk _ (by rfl) (fun _ => PFun.to hP (strings_Compare_ok hA hw3)) ?_
  cbv
  refine kj ?_
  cases h; subst hR; exact ey
theorem slices_insertionSortCmpFunc_string_ok {A : Ar} (hA : A = std) {x0 : List ByteArray} {n0 : Int} {x1 : Int} {x2 : Int} {q3 : ByteArray → ByteArray → Option Int} {g3 : Nat} {cap3 : List D} (hcap3 : capOK cap3) (hq3 : ∀ (y0 : ByteArray) (y1 : ByteArray) (r : Int), q3 y0 y1 = some r → PFun cx g3 ((st y0) :: (st y1) :: un.uns cap3) (it .i64 r)) {r : List ByteArray} (h : slices_insertionSortCmpFunc_string A x0 n0 x1 x2 q3 = some r) : PFunM cx 276 [.ms 1000 0 TyS.str 0 n0, it .i64 x1, it .i64 x2, .fn (.func g3) [] (un.uns cap3)] [⟨1000, 0, .arr 9 TyS.str x0⟩] ((fun r : List ByteArray => (.tu [] : PV)) r) ((fun r : List ByteArray => ([⟨1000, 0, .arr 9 TyS.str r⟩] : List En)) r) := by
 rcases hcap3 with rfl | ⟨dscap3, rfl⟩
 all_goals
  refine PFunM.walkM (fz := fun _ => false) hA cx_ok Tryz.func276 rfl rfl fun P R hP hR => ?_
  cbv
  unfold slices_insertionSortCmpFunc_string at h
  refine kj ?_
  replace h := Loop_e h; obtain ⟨n1, hl1⟩ := h
  refine LoopK.q (X := Runs (slices_insertionSortCmpFunc_string_B2 A n0 x1 x2 q3) _) (fun x gh => [(8, it IntKind.i64 x.1.2.1)]) (fun x gh => [⟨1000, 0, .arr 9 TyS.str x.1.2.2⟩]) (fun x => x.1.1) ⟨(n1, _), hl1⟩ [] hdz ?_
  rintro ⟨⟨n1, i8, row1000⟩, hr1⟩ gh1 g1 K1 Q1 hK1 hQ1
  obtain _ | n1 := n1
  ·exact (LoopN_z hr1).elim
  obtain ⟨v1, h, hv1⟩ := LoopN_e hr1
  cbv
  refine kj ?_
  replace h := br_e h; obtain ⟨hb, h⟩ | ⟨hb, h⟩ := h
  ·refine cdT hb ?_; cbv
   refine kj ?_
   replace h := Loop_e h; obtain ⟨n2, hl2⟩ := h
   refine LoopK.q (X := Runs (slices_insertionSortCmpFunc_string_B1 A n0 x1 q3 i8) _) (fun x gh => [(9, it IntKind.i64 x.1.2.1)]) (fun x gh => [⟨1000, 0, .arr 9 TyS.str x.1.2.2⟩]) (fun x => x.1.1) ⟨(n2, _), hl2⟩ [] hdz ?_
   rintro ⟨⟨n2, j9, row1000'⟩, hr2⟩ gh2 g2 K2 Q2 hK2 hQ2
   obtain _ | n2 := n2
   ·exact (LoopN_z hr2).elim
   obtain ⟨v2, h, hv2⟩ := LoopN_e hr2
   cbv
   refine kj ?_
   iterate 2 refine cj ?_
   replace h := ck_e h; obtain ⟨c1, h⟩ := h; refine ⟨c1, ?_⟩
   iterate 2 refine cj ?_
   replace h := ck_e h; obtain ⟨c2, h⟩ := h; refine ⟨c2, ?_⟩
   iterate 3 refine cj ?_
   replace h := ck_e h; obtain ⟨c3, h⟩ := h; refine ⟨c3, ?_⟩
   iterate 2 refine cj ?_
   replace h := ck_e h; obtain ⟨c4, h⟩ := h; refine ⟨c4, ?_⟩
   iterate 3 refine cj ?_
   replace h := bd_e h; obtain ⟨w5, hw5, h⟩ := h
   refine CallK.mk _ (by rfl) (fun hc => PFun.to hP (hq3 _ _ _ (gd_e hw5 hc))) ?_
   cbv
   iterate 2 refine cj ?_
   refine kj ?_
   replace h := br_e h; obtain ⟨hb, h⟩ | ⟨hb, h⟩ := h
   ·refine cdT hb ?_; cbv
    refine kj ?_
    replace h := ck_e h; obtain ⟨c6, h⟩ := h; refine ⟨c6, ?_⟩
    replace h := ck_e h; obtain ⟨c7, h⟩ := h; refine ⟨c7, ?_⟩
    replace h := ck_e h; obtain ⟨c8, h⟩ := h; refine ⟨c8, ?_⟩
    replace h := ck_e h; obtain ⟨c9, h⟩ := h; refine ⟨c9, ?_⟩
    refine ⟨c8, ?_⟩
    refine ⟨c9, ?_⟩
    refine ⟨c6, ?_⟩
    replace h := ck_e h; obtain ⟨c10, h⟩ := h; refine ⟨c10, ?_⟩
    iterate 2 refine kj ?_
    cases h
    exact hK2 _ ⟨(n2, _), hv2⟩ [] (Nat.lt_succ_self _) hdy
   ·refine cdF hb ?_; cbv
    replace h := rt_e h; obtain ⟨_, h, rfl⟩ := h
    cases hv2; refine hQ2 _ _ ?_; cbv
    refine kj ?_
    cases h
    exact hK1 _ ⟨(n1, _), hv1⟩ [] (Nat.lt_succ_self _) hdy
  ·refine cdF hb ?_; cbv
   replace h := rt_e h; obtain ⟨_, h, rfl⟩ := h
   cases hv1; refine hQ1 _ _ ?_; cbv
   cases h
   refine hR _ _ ⟨[], ⟨by rfl, ez, by rfl, ez⟩⟩
theorem slices_stableCmpFunc_string_ok {A : Ar} (hA : A = std) {x0 : List ByteArray} {n0 : Int} {x1 : Int} {q2 : ByteArray → ByteArray → Option Int} {g2 : Nat} {cap2 : List D} (hcap2 : capOK cap2) (hq2 : ∀ (y0 : ByteArray) (y1 : ByteArray) (r : Int), q2 y0 y1 = some r → PFun cx g2 ((st y0) :: (st y1) :: un.uns cap2) (it .i64 r)) {r : List ByteArray} (h : slices_stableCmpFunc_string A x0 n0 x1 q2 = some r) : PFunM cx 219 [.ms 1000 0 TyS.str 0 n0, it .i64 x1, .fn (.func g2) [] (un.uns cap2)] [⟨1000, 0, .arr 9 TyS.str x0⟩] ((fun r : List ByteArray => (.tu [] : PV)) r) ((fun r : List ByteArray => ([⟨1000, 0, .arr 9 TyS.str r⟩] : List En)) r) := by
 rcases hcap2 with rfl | ⟨dscap2, rfl⟩
 ·refine PFunM.walkM (fz := fun _ => false) hA cx_ok Tryz.func219 rfl rfl fun P R hP hR => ?_
  cbv
  unfold slices_stableCmpFunc_string at h
  iterate 2 refine kj ?_
  replace h := Loop_e h; obtain ⟨n1, hl1⟩ := h
  refine LoopK.q (X := Runs (slices_stableCmpFunc_string_B3 A n0 x1 q2) _) (fun x gh => [(7, it IntKind.i64 x.1.2.1), (8, it IntKind.i64 x.1.2.2.1)]) (fun x gh => [⟨1000, 0, .arr 9 TyS.str x.1.2.2.2⟩]) (fun x => x.1.1) ⟨(n1, _), hl1⟩ [] hdz ?_
  rintro ⟨⟨n1, a7, b8, row1000⟩, hr1⟩ gh1 g1 K1 Q1 hK1 hQ1
  obtain _ | n1 := n1
  ·exact (LoopN_z hr1).elim
  obtain ⟨v1, h, hv1⟩ := LoopN_e hr1
  cbv
  refine kj ?_
  replace h := br_e h; obtain ⟨hb, h⟩ | ⟨hb, h⟩ := h
  ·refine cdT hb ?_; cbv
   refine kj ?_
   replace h := bd_e h; obtain ⟨w1, hw1, h⟩ := h
   refine CallK.mem 18 rfl rfl [(1000, 0)] _ _ _ _ (fun _ => PFunM.to hP (slices_insertionSortCmpFunc_string_ok (cap3 := []) hA (by first | exact .inl rfl | exact .inr ⟨_, rfl⟩) hq2 hw1)) (by rfl) (fun _ => ez) ez (by rfl) (by rfl) ?_
   cbv
   iterate 2 refine kj ?_
   cases h
   exact hK1 _ ⟨(n1, _), hv1⟩ [] (Nat.lt_succ_self _) hdy
  ·refine cdF hb ?_; cbv
   replace h := rt_e h; obtain ⟨_, h, rfl⟩ := h
   cases hv1; refine hQ1 _ _ ?_; cbv
   refine kj ?_
   replace h := bd_e h; obtain ⟨w2, hw2, h⟩ := h
   refine CallK.mem 27 rfl rfl [(1000, 0)] _ _ _ _ (fun _ => PFunM.to hP (slices_insertionSortCmpFunc_string_ok (cap3 := []) hA (by first | exact .inl rfl | exact .inr ⟨_, rfl⟩) hq2 hw2)) (by rfl) (fun _ => ez) ez (by rfl) (by rfl) ?_
   cbv
   replace h := Loop_e h; obtain ⟨n2, hl2⟩ := h
   refine LoopK.q (X := Runs (slices_stableCmpFunc_string_B2 A x1 w2) _) (fun x gh => [(6, it IntKind.i64 x.1.2)]) (fun x gh => [⟨1000, 0, Cell.arr 9 TyS.str w2⟩]) (fun x => x.1.1) ⟨(n2, _), hl2⟩ [] hdz ?_
   rintro ⟨⟨n2, blockSize6⟩, hr2⟩ gh2 g2 K2 Q2 hK2 hQ2
   obtain _ | n2 := n2
   ·exact (LoopN_z hr2).elim
   obtain ⟨v2, h, hv2⟩ := LoopN_e hr2
   cbv
   refine kj ?_
   replace h := br_e h; obtain ⟨hb, h⟩ | ⟨hb, h⟩ := h
   ·refine cdT hb ?_; cbv
    refine kj ?_
    replace h := Loop_e h; obtain ⟨n3, hl3⟩ := h
    refine LoopK.q (X := Runs (slices_stableCmpFunc_string_B1 A x1 blockSize6) _) (fun x gh => [(7, it IntKind.i64 x.1.2.1), (8, it IntKind.i64 x.1.2.2)]) (fun x gh => [⟨1000, 0, Cell.arr 9 TyS.str w2⟩]) (fun x => x.1.1) ⟨(n3, _), hl3⟩ [] hdz ?_
    rintro ⟨⟨n3, a7', b8'⟩, hr3⟩ gh3 g3 K3 Q3 hK3 hQ3
    obtain _ | n3 := n3
    ·exact (LoopN_z hr3).elim
    obtain ⟨v3, h, hv3⟩ := LoopN_e hr3
    cbv
    refine kj ?_
    replace h := br_e h; obtain ⟨hb, h⟩ | ⟨hb, h⟩ := h
    ·refine cdT hb ?_; cbv
     refine kj ?_
     cases h
    ·refine cdF hb ?_; cbv
     replace h := rt_e h; obtain ⟨_, h, rfl⟩ := h
     cases hv3; refine hQ3 _ _ ?_; cbv
     iterate 2 refine kj ?_
     replace h := br_e h; obtain ⟨hb, h⟩ | ⟨hb, h⟩ := h
     ·refine cdT hb ?_; cbv
      refine kj ?_
      cases h
     ·refine cdF hb ?_; cbv
      refine kj ?_
      cases h
      exact hK2 _ ⟨(n2, _), hv2⟩ [] (Nat.lt_succ_self _) hdy
   ·refine cdF hb ?_; cbv
    replace h := rt_e h; obtain ⟨_, h, rfl⟩ := h
    cases hv2; refine hQ2 _ _ ?_; cbv
    cases h
    refine hR _ _ ⟨[], ⟨by rfl, ez, by rfl, ez⟩⟩
 ·refine PFunM.walkM (fz := fun _ => false) hA cx_ok Tryz.func219 rfl rfl fun P R hP hR => ?_
  cbv
  unfold slices_stableCmpFunc_string at h
  iterate 2 refine kj ?_
  replace h := Loop_e h; obtain ⟨n1, hl1⟩ := h
  refine LoopK.q (X := Runs (slices_stableCmpFunc_string_B3 A n0 x1 q2) _) (fun x gh => [(7, it IntKind.i64 x.1.2.1), (8, it IntKind.i64 x.1.2.2.1)]) (fun x gh => [⟨1000, 0, .arr 9 TyS.str x.1.2.2.2⟩]) (fun x => x.1.1) ⟨(n1, _), hl1⟩ [] hdz ?_
  rintro ⟨⟨n1, a7, b8, row1000⟩, hr1⟩ gh1 g1 K1 Q1 hK1 hQ1
  obtain _ | n1 := n1
  ·exact (LoopN_z hr1).elim
  obtain ⟨v1, h, hv1⟩ := LoopN_e hr1
  cbv
  refine kj ?_
  replace h := br_e h; obtain ⟨hb, h⟩ | ⟨hb, h⟩ := h
  ·refine cdT hb ?_; cbv
   refine kj ?_
   replace h := bd_e h; obtain ⟨w1, hw1, h⟩ := h
   refine CallK.mem 18 rfl rfl [(1000, 0)] _ _ _ _ (fun _ => PFunM.to hP (slices_insertionSortCmpFunc_string_ok (cap3 := [D.ptr dscap2]) hA (by first | exact .inl rfl | exact .inr ⟨_, rfl⟩) hq2 hw1)) (by rfl) (fun _ => ez) ez (by rfl) (by rfl) ?_
   cbv
   iterate 2 refine kj ?_
   cases h
   exact hK1 _ ⟨(n1, _), hv1⟩ [] (Nat.lt_succ_self _) hdy
  ·refine cdF hb ?_; cbv
   replace h := rt_e h; obtain ⟨_, h, rfl⟩ := h
   cases hv1; refine hQ1 _ _ ?_; cbv
   refine kj ?_
   replace h := bd_e h; obtain ⟨w2, hw2, h⟩ := h
   refine CallK.mem 27 rfl rfl [(1000, 0)] _ _ _ _ (fun _ => PFunM.to hP (slices_insertionSortCmpFunc_string_ok (cap3 := [D.ptr dscap2]) hA (by first | exact .inl rfl | exact .inr ⟨_, rfl⟩) hq2 hw2)) (by rfl) (fun _ => ez) ez (by rfl) (by rfl) ?_
   cbv
   replace h := Loop_e h; obtain ⟨n2, hl2⟩ := h
   refine LoopK.q (X := Runs (slices_stableCmpFunc_string_B2 A x1 w2) _) (fun x gh => [(6, it IntKind.i64 x.1.2)]) (fun x gh => [⟨1000, 0, Cell.arr 9 TyS.str w2⟩]) (fun x => x.1.1) ⟨(n2, _), hl2⟩ [] hdz ?_
   rintro ⟨⟨n2, blockSize6⟩, hr2⟩ gh2 g2 K2 Q2 hK2 hQ2
   obtain _ | n2 := n2
   ·exact (LoopN_z hr2).elim
   obtain ⟨v2, h, hv2⟩ := LoopN_e hr2
   cbv
   refine kj ?_
   replace h := br_e h; obtain ⟨hb, h⟩ | ⟨hb, h⟩ := h
   ·refine cdT hb ?_; cbv
    refine kj ?_
    replace h := Loop_e h; obtain ⟨n3, hl3⟩ := h
    refine LoopK.q (X := Runs (slices_stableCmpFunc_string_B1 A x1 blockSize6) _) (fun x gh => [(7, it IntKind.i64 x.1.2.1), (8, it IntKind.i64 x.1.2.2)]) (fun x gh => [⟨1000, 0, Cell.arr 9 TyS.str w2⟩]) (fun x => x.1.1) ⟨(n3, _), hl3⟩ [] hdz ?_
    rintro ⟨⟨n3, a7', b8'⟩, hr3⟩ gh3 g3 K3 Q3 hK3 hQ3
    obtain _ | n3 := n3
    ·exact (LoopN_z hr3).elim
    obtain ⟨v3, h, hv3⟩ := LoopN_e hr3
    cbv
    refine kj ?_
    replace h := br_e h; obtain ⟨hb, h⟩ | ⟨hb, h⟩ := h
    ·refine cdT hb ?_; cbv
     refine kj ?_
     cases h
    ·refine cdF hb ?_; cbv
     replace h := rt_e h; obtain ⟨_, h, rfl⟩ := h
     cases hv3; refine hQ3 _ _ ?_; cbv
     iterate 2 refine kj ?_
     replace h := br_e h; obtain ⟨hb, h⟩ | ⟨hb, h⟩ := h
     ·refine cdT hb ?_; cbv
      refine kj ?_
      cases h
     ·refine cdF hb ?_; cbv
      refine kj ?_
      cases h
      exact hK2 _ ⟨(n2, _), hv2⟩ [] (Nat.lt_succ_self _) hdy
   ·refine cdF hb ?_; cbv
    replace h := rt_e h; obtain ⟨_, h, rfl⟩ := h
    cases hv2; refine hQ2 _ _ ?_; cbv
    cases h
    refine hR _ _ ⟨[], ⟨by rfl, ez, by rfl, ez⟩⟩
theorem slices_SortStableFunc_string_string_ok {A : Ar} (hA : A = std) {x0 : List ByteArray} {n0 : Int} {q1 : ByteArray → ByteArray → Option Int} {g1 : Nat} {cap1 : List D} (hcap1 : capOK cap1) (hq1 : ∀ (y0 : ByteArray) (y1 : ByteArray) (r : Int), q1 y0 y1 = some r → PFun cx g1 ((st y0) :: (st y1) :: un.uns cap1) (it .i64 r)) {r : List ByteArray} (h : slices_SortStableFunc_string_string A x0 n0 q1 = some r) : PFunM cx 139 [.ms 1000 0 TyS.str 0 n0, .fn (.func g1) [] (un.uns cap1)] [⟨1000, 0, .arr 9 TyS.str x0⟩] ((fun r : List ByteArray => (.tu [] : PV)) r) ((fun r : List ByteArray => ([⟨1000, 0, .arr 9 TyS.str r⟩] : List En)) r) := by
 rcases hcap1 with rfl | ⟨dscap1, rfl⟩
 ·refine PFunM.walkM (fz := fun _ => false) hA cx_ok Tryz.func139 rfl rfl fun P R hP hR => ?_
  cbv
  unfold slices_SortStableFunc_string_string at h
  refine kj ?_
  replace h := bd_e h; obtain ⟨w1, hw1, h⟩ := h
  refine CallK.mem 8 rfl rfl [(1000, 0)] _ _ _ _ (fun _ => PFunM.to hP (slices_stableCmpFunc_string_ok (cap2 := []) hA (by first | exact .inl rfl | exact .inr ⟨_, rfl⟩) hq1 hw1)) (by rfl) (fun _ => ez) ez (by rfl) (by rfl) ?_
  cbv
  cases h
  refine hR _ _ ⟨[], ⟨by rfl, ez, by rfl, ez⟩⟩
 ·refine PFunM.walkM (fz := fun _ => false) hA cx_ok Tryz.func139 rfl rfl fun P R hP hR => ?_
  cbv
  unfold slices_SortStableFunc_string_string at h
  refine kj ?_
  replace h := bd_e h; obtain ⟨w1, hw1, h⟩ := h
  refine CallK.mem 8 rfl rfl [(1000, 0)] _ _ _ _ (fun _ => PFunM.to hP (slices_stableCmpFunc_string_ok (cap2 := [D.ptr dscap1]) hA (by first | exact .inl rfl | exact .inr ⟨_, rfl⟩) hq1 hw1)) (by rfl) (fun _ => ez) ez (by rfl) (by rfl) ?_
  cbv
  cases h
  refine hR _ _ ⟨[], ⟨by rfl, ez, by rfl, ez⟩⟩
theorem config_sorted_string_ok {A : Ar} (hA : A = std) {x0 : List ByteArray} {q1 : ByteArray → Option ByteArray} {g1 : Nat} {cap1 : List D} (hcap1 : capOK cap1) (hq1 : ∀ (y0 : ByteArray) (r : ByteArray), q1 y0 = some r → PFun cx g1 ((st y0) :: un.uns cap1) (st r)) {r : List ByteArray} (h : config_sorted_string A x0 q1 = some r) : PFun cx 49 [.d (.sl TyS.str x0), .fn (.func g1) [] (un.uns cap1)] ((fun r : List ByteArray => (.d (.sl TyS.str r) : PV)) r) := by
 rcases hcap1 with rfl | ⟨dscap1, rfl⟩
 ·refine PFun.walkF (fz := fun k => k == 3) hA cx_ok Tryz.func49 rfl rfl rfl fun P R hP hR => ?_
  cbv
  unfold config_sorted_string at h
  iterate 2 refine kj ?_
  replace h := bd_e h; obtain ⟨w1, hw1, h⟩ := h
  refine CallK.mem 7 rfl rfl [] _ _ _ _ (fun _ => PFunM.to hP (slices_Clone_string_string_ok hA hw1)) (by rfl) (fun _ => ez) ez (by rfl) (by rfl) ?_
  cbv
  refine kj ?_
  replace h := bd_e h; obtain ⟨w2, hw2, h⟩ := h
  refine CallK.mem 10 rfl rfl [(7, 1)] _ _ _ _ (fun _ => PFunM.to hP (slices_SortStableFunc_string_string_ok (cap1 := [D.ptr [D.fun (Fn.func g1) [] []]]) hA (by first | exact .inl rfl | exact .inr ⟨_, rfl⟩) (fun _ _ _ hw => config_sorted_string_1_ok (capc0 := []) hA (by first | exact .inl rfl | exact .inr ⟨_, rfl⟩) hq1 hw) hw2)) (by rfl) (fun _ => ez) ez (by rfl) (by rfl) ?_
  cbv
  refine kj ?_
  replace h := ck_e h; obtain ⟨c3, h⟩ := h; refine ⟨c3, ?_⟩
  cases h; subst hR; exact ey
 ·refine PFun.walkF (fz := fun k => k == 3) hA cx_ok Tryz.func49 rfl rfl rfl fun P R hP hR => ?_
  cbv
  unfold config_sorted_string at h
  iterate 2 refine kj ?_
  replace h := bd_e h; obtain ⟨w1, hw1, h⟩ := h
  refine CallK.mem 7 rfl rfl [] _ _ _ _ (fun _ => PFunM.to hP (slices_Clone_string_string_ok hA hw1)) (by rfl) (fun _ => ez) ez (by rfl) (by rfl) ?_
  cbv
  refine kj ?_
  replace h := bd_e h; obtain ⟨w2, hw2, h⟩ := h
  refine CallK.mem 10 rfl rfl [(7, 1)] _ _ _ _ (fun _ => PFunM.to hP (slices_SortStableFunc_string_string_ok (cap1 := [D.ptr [D.fun (Fn.func g1) [] [D.ptr dscap1]]]) hA (by first | exact .inl rfl | exact .inr ⟨_, rfl⟩) (fun _ _ _ hw => config_sorted_string_1_ok (capc0 := [D.ptr dscap1]) hA (by first | exact .inl rfl | exact .inr ⟨_, rfl⟩) hq1 hw) hw2)) (by rfl) (fun _ => ez) ez (by rfl) (by rfl) ?_
  cbv
  refine kj ?_
  replace h := ck_e h; obtain ⟨c3, h⟩ := h; refine ⟨c3, ?_⟩
  cases h; subst hR; exact ey
theorem slices_Clone_Hours_Hours_ok {A : Ar} (hA : A = std) {x0 : List Hours} {r : Int × List Hours} (h : slices_Clone_Hours_Hours A x0 = some r) : PFunM cx 141 [.d (.sl TyS.hours x0)] [] ((fun r : Int × List Hours => (.ms 2000 1 TyS.hours 0 r.1 : PV)) r) ((fun r : Int × List Hours => ([⟨2000, 1, .arr 61 TyS.hours r.2⟩] : List En)) r) := by
 refine PFunM.walkM (fz := fun k => k == 65541 || k == 65543 || k == 65538 || k == 65538 || k == 65538) hA cx_ok Tryz.func141 rfl rfl fun P R hP hR => ?_
 cbv
 unfold slices_Clone_Hours_Hours at h
 iterate 2 refine kj ?_
 replace h := both_e h; obtain ⟨h1, h2⟩ := h
 refine ⟨fun hc => ?_, ?_⟩
 ·have h := h1 hc
  clear h1 h2
  cbv
  refine kj ?_
  cases h
  refine hR _ _ ⟨[(2, 4)], ⟨by rfl, ez, by rfl, ez⟩⟩
 ·have h := h2
  clear h1 h2
  refine kj ?_
  replace h := ck_e h; obtain ⟨c1, h⟩ := h; refine ⟨c1, ?_⟩
  cases h
  refine hR _ _ ⟨[(7, 4)], ⟨by rfl, ez, by rfl, ez⟩⟩
theorem config_sorted_Hours_1_ok {A : Ar} (hA : A = std) {x0 : Hours} {x1 : Hours} {qc0 : Hours → Option ByteArray} {gc0 : Nat} {capc0 : List D} (hcapc0 : capOK capc0) (hqc0 : ∀ (y0 : Hours) (r : ByteArray), qc0 y0 = some r → PFun cx gc0 ((hoursPV y0) :: un.uns capc0) (st r)) {r : Int} (h : config_sorted_Hours_1 A x0 x1 qc0 = some r) : PFun cx 143 [hoursPV x0, hoursPV x1, .ip [.fun (.func gc0) [] capc0]] ((fun r : Int => (it .i64 r : PV)) r) := by
 rcases hcapc0 with rfl | ⟨dscapc0, rfl⟩
 all_goals
  refine PFun.walkF (fz := fun _ => false) hA cx_ok Tryz.func143 rfl rfl rfl fun P R hP hR => ?_
  cbv
  unfold config_sorted_Hours_1 at h
  iterate 2 refine kj ?_
  replace h := bd_e h; obtain ⟨w1, hw1, h⟩ := h
  refine CallK.mk _ (by rfl) (fun _ => PFun.to hP (hqc0 _ _ hw1)) ?_
  cbv
  replace h := bd_e h; obtain ⟨w2, hw2, h⟩ := h
  refine CallK.mk _ (by rfl) (fun _ => PFun.to hP (hqc0 _ _ hw2)) ?_
  cbv
  replace h := bd_e h; obtain ⟨w3, hw3, h⟩ := h
  refine CallK.mk _ (by rfl) (fun _ => PFun.to hP (strings_Compare_ok hA hw3)) ?_
  cbv
  refine kj ?_
  cases h; subst hR; exact ey
theorem slices_insertionSortCmpFunc_Hours_ok {A : Ar} (hA : A = std) {x0 : List Hours} {n0 : Int} {x1 : Int} {x2 : Int} {q3 : Hours → Hours → Option Int} {g3 : Nat} {cap3 : List D} (hcap3 : capOK cap3) (hq3 : ∀ (y0 : Hours) (y1 : Hours) (r : Int), q3 y0 y1 = some r → PFun cx g3 ((hoursPV y0) :: (hoursPV y1) :: un.uns cap3) (it .i64 r)) {r : List Hours} (h : slices_insertionSortCmpFunc_Hours A x0 n0 x1 x2 q3 = some r) : PFunM cx 278 [.ms 1000 0 TyS.hours 0 n0, it .i64 x1, it .i64 x2, .fn (.func g3) [] (un.uns cap3)] [⟨1000, 0, .arr 61 TyS.hours x0⟩] ((fun r : List Hours => (.tu [] : PV)) r) ((fun r : List Hours => ([⟨1000, 0, .arr 61 TyS.hours r⟩] : List En)) r) := by
 rcases hcap3 with rfl | ⟨dscap3, rfl⟩
 all_goals
  refine PFunM.walkM (fz := fun _ => false) hA cx_ok Tryz.func278 rfl rfl fun P R hP hR => ?_
  cbv
  unfold slices_insertionSortCmpFunc_Hours at h
  refine kj ?_
  replace h := Loop_e h; obtain ⟨n1, hl1⟩ := h
  refine LoopK.q (X := Runs (slices_insertionSortCmpFunc_Hours_B2 A n0 x1 x2 q3) _) (fun x gh => [(8, it IntKind.i64 x.1.2.1)]) (fun x gh => [⟨1000, 0, .arr 61 TyS.hours x.1.2.2⟩]) (fun x => x.1.1) ⟨(n1, _), hl1⟩ [] hdz ?_
  rintro ⟨⟨n1, i8, row1000⟩, hr1⟩ gh1 g1 K1 Q1 hK1 hQ1
  obtain _ | n1 := n1
  ·exact (LoopN_z hr1).elim
  obtain ⟨v1, h, hv1⟩ := LoopN_e hr1
  cbv
  refine kj ?_
  replace h := br_e h; obtain ⟨hb, h⟩ | ⟨hb, h⟩ := h
  ·refine cdT hb ?_; cbv
   refine kj ?_
   replace h := Loop_e h; obtain ⟨n2, hl2⟩ := h
   refine LoopK.q (X := Runs (slices_insertionSortCmpFunc_Hours_B1 A n0 x1 q3 i8) _) (fun x gh => [(9, it IntKind.i64 x.1.2.1)]) (fun x gh => [⟨1000, 0, .arr 61 TyS.hours x.1.2.2⟩]) (fun x => x.1.1) ⟨(n2, _), hl2⟩ [] hdz ?_
   rintro ⟨⟨n2, j9, row1000'⟩, hr2⟩ gh2 g2 K2 Q2 hK2 hQ2
   obtain _ | n2 := n2
   ·exact (LoopN_z hr2).elim
   obtain ⟨v2, h, hv2⟩ := LoopN_e hr2
   cbv
   refine kj ?_
   iterate 2 refine cj ?_
   replace h := ck_e h; obtain ⟨c1, h⟩ := h; refine ⟨c1, ?_⟩
   iterate 2 refine cj ?_
   replace h := ck_e h; obtain ⟨c2, h⟩ := h; refine ⟨c2, ?_⟩
   iterate 3 refine cj ?_
   replace h := ck_e h; obtain ⟨c3, h⟩ := h; refine ⟨c3, ?_⟩
   iterate 2 refine cj ?_
   replace h := ck_e h; obtain ⟨c4, h⟩ := h; refine ⟨c4, ?_⟩
   iterate 3 refine cj ?_
   replace h := bd_e h; obtain ⟨w5, hw5, h⟩ := h
   refine CallK.mk _ (by rfl) (fun hc => PFun.to hP (hq3 _ _ _ (gd_e hw5 hc))) ?_
   cbv
   iterate 2 refine cj ?_
   refine kj ?_
   replace h := br_e h; obtain ⟨hb, h⟩ | ⟨hb, h⟩ := h
   ·refine cdT hb ?_; cbv
    refine kj ?_
    replace h := ck_e h; obtain ⟨c6, h⟩ := h; refine ⟨c6, ?_⟩
    replace h := ck_e h; obtain ⟨c7, h⟩ := h; refine ⟨c7, ?_⟩
    replace h := ck_e h; obtain ⟨c8, h⟩ := h; refine ⟨c8, ?_⟩
    replace h := ck_e h; obtain ⟨c9, h⟩ := h; refine ⟨c9, ?_⟩
    refine ⟨c8, ?_⟩
    refine ⟨c9, ?_⟩
    refine ⟨c6, ?_⟩
    replace h := ck_e h; obtain ⟨c10, h⟩ := h; refine ⟨c10, ?_⟩
    iterate 2 refine kj ?_
    cases h
    exact hK2 _ ⟨(n2, _), hv2⟩ [] (Nat.lt_succ_self _) hdy
   ·refine cdF hb ?_; cbv
    replace h := rt_e h; obtain ⟨_, h, rfl⟩ := h
    cases hv2; refine hQ2 _ _ ?_; cbv
    refine kj ?_
    cases h
    exact hK1 _ ⟨(n1, _), hv1⟩ [] (Nat.lt_succ_self _) hdy
  ·refine cdF hb ?_; cbv
   replace h := rt_e h; obtain ⟨_, h, rfl⟩ := h
   cases hv1; refine hQ1 _ _ ?_; cbv
   cases h
   refine hR _ _ ⟨[], ⟨by rfl, ez, by rfl, ez⟩⟩
theorem slices_stableCmpFunc_Hours_ok {A : Ar} (hA : A = std) {x0 : List Hours} {n0 : Int} {x1 : Int} {q2 : Hours → Hours → Option Int} {g2 : Nat} {cap2 : List D} (hcap2 : capOK cap2) (hq2 : ∀ (y0 : Hours) (y1 : Hours) (r : Int), q2 y0 y1 = some r → PFun cx g2 ((hoursPV y0) :: (hoursPV y1) :: un.uns cap2) (it .i64 r)) {r : List Hours} (h : slices_stableCmpFunc_Hours A x0 n0 x1 q2 = some r) : PFunM cx 220 [.ms 1000 0 TyS.hours 0 n0, it .i64 x1, .fn (.func g2) [] (un.uns cap2)] [⟨1000, 0, .arr 61 TyS.hours x0⟩] ((fun r : List Hours => (.tu [] : PV)) r) ((fun r : List Hours => ([⟨1000, 0, .arr 61 TyS.hours r⟩] : List En)) r) := by
 rcases hcap2 with rfl | ⟨dscap2, rfl⟩
 ·refine PFunM.walkM (fz := fun _ => false) hA cx_ok Tryz.func220 rfl rfl fun P R hP hR => ?_
  cbv
  unfold slices_stableCmpFunc_Hours at h
  iterate 2 refine kj ?_
  replace h := Loop_e h; obtain ⟨n1, hl1⟩ := h
  refine LoopK.q (X := Runs (slices_stableCmpFunc_Hours_B3 A n0 x1 q2) _) (fun x gh => [(7, it IntKind.i64 x.1.2.1), (8, it IntKind.i64 x.1.2.2.1)]) (fun x gh => [⟨1000, 0, .arr 61 TyS.hours x.1.2.2.2⟩]) (fun x => x.1.1) ⟨(n1, _), hl1⟩ [] hdz ?_
  rintro ⟨⟨n1, a7, b8, row1000⟩, hr1⟩ gh1 g1 K1 Q1 hK1 hQ1
  obtain _ | n1 := n1
  ·exact (LoopN_z hr1).elim
  obtain ⟨v1, h, hv1⟩ := LoopN_e hr1
  cbv
  refine kj ?_
  replace h := br_e h; obtain ⟨hb, h⟩ | ⟨hb, h⟩ := h
  ·refine cdT hb ?_; cbv
   refine kj ?_
   replace h := bd_e h; obtain ⟨w1, hw1, h⟩ := h
   refine CallK.mem 18 rfl rfl [(1000, 0)] _ _ _ _ (fun _ => PFunM.to hP (slices_insertionSortCmpFunc_Hours_ok (cap3 := []) hA (by first | exact .inl rfl | exact .inr ⟨_, rfl⟩) hq2 hw1)) (by rfl) (fun _ => ez) ez (by rfl) (by rfl) ?_
   cbv
   iterate 2 refine kj ?_
   cases h
   exact hK1 _ ⟨(n1, _), hv1⟩ [] (Nat.lt_succ_self _) hdy
  ·refine cdF hb ?_; cbv
   replace h := rt_e h; obtain ⟨_, h, rfl⟩ := h
   cases hv1; refine hQ1 _ _ ?_; cbv
   refine kj ?_
   replace h := bd_e h; obtain ⟨w2, hw2, h⟩ := h
   refine CallK.mem 27 rfl rfl [(1000, 0)] _ _ _ _ (fun _ => PFunM.to hP (slices_insertionSortCmpFunc_Hours_ok (cap3 := []) hA (by first | exact .inl rfl | exact .inr ⟨_, rfl⟩) hq2 hw2)) (by rfl) (fun _ => ez) ez (by rfl) (by rfl) ?_
   cbv
   replace h := Loop_e h; obtain ⟨n2, hl2⟩ := h
   refine LoopK.q (X := Runs (slices_stableCmpFunc_Hours_B2 A x1 w2) _) (fun x gh => [(6, it IntKind.i64 x.1.2)]) (fun x gh => [⟨1000, 0, Cell.arr 61 TyS.hours w2⟩]) (fun x => x.1.1) ⟨(n2, _), hl2⟩ [] hdz ?_
   rintro ⟨⟨n2, blockSize6⟩, hr2⟩ gh2 g2 K2 Q2 hK2 hQ2
   obtain _ | n2 := n2
   ·exact (LoopN_z hr2).elim
   obtain ⟨v2, h, hv2⟩ := LoopN_e hr2
   cbv
   refine kj ?_
   replace h := br_e h; obtain ⟨hb, h⟩ | ⟨hb, h⟩ := h
   ·refine cdT hb ?_; cbv
    refine kj ?_
    replace h := Loop_e h; obtain ⟨n3, hl3⟩ := h
    refine LoopK.q (X := Runs (slices_stableCmpFunc_Hours_B1 A x1 blockSize6) _) (fun x gh => [(7, it IntKind.i64 x.1.2.1), (8, it IntKind.i64 x.1.2.2)]) (fun x gh => [⟨1000, 0, Cell.arr 61 TyS.hours w2⟩]) (fun x => x.1.1) ⟨(n3, _), hl3⟩ [] hdz ?_
    rintro ⟨⟨n3, a7', b8'⟩, hr3⟩ gh3 g3 K3 Q3 hK3 hQ3
    obtain _ | n3 := n3
    ·exact (LoopN_z hr3).elim
    obtain ⟨v3, h, hv3⟩ := LoopN_e hr3
    cbv
    refine kj ?_
    replace h := br_e h; obtain ⟨hb, h⟩ | ⟨hb, h⟩ := h
    ·refine cdT hb ?_; cbv
     refine kj ?_
     cases h
    ·refine cdF hb ?_; cbv
     replace h := rt_e h; obtain ⟨_, h, rfl⟩ := h
     cases hv3; refine hQ3 _ _ ?_; cbv
     iterate 2 refine kj ?_
     replace h := br_e h; obtain ⟨hb, h⟩ | ⟨hb, h⟩ := h
     ·refine cdT hb ?_; cbv
      refine kj ?_
      cases h
     ·refine cdF hb ?_; cbv
      refine kj ?_
      cases h
      exact hK2 _ ⟨(n2, _), hv2⟩ [] (Nat.lt_succ_self _) hdy
   ·refine cdF hb ?_; cbv
    replace h := rt_e h; obtain ⟨_, h, rfl⟩ := h
    cases hv2; refine hQ2 _ _ ?_; cbv
    cases h
    refine hR _ _ ⟨[], ⟨by rfl, ez, by rfl, ez⟩⟩
 ·refine PFunM.walkM (fz := fun _ => false) hA cx_ok Tryz.func220 rfl rfl fun P R hP hR => ?_
  cbv
  unfold slices_stableCmpFunc_Hours at h
  iterate 2 refine kj ?_
  replace h := Loop_e h; obtain ⟨n1, hl1⟩ := h
  refine LoopK.q (X := Runs (slices_stableCmpFunc_Hours_B3 A n0 x1 q2) _) (fun x gh => [(7, it IntKind.i64 x.1.2.1), (8, it IntKind.i64 x.1.2.2.1)]) (fun x gh => [⟨1000, 0, .arr 61 TyS.hours x.1.2.2.2⟩]) (fun x => x.1.1) ⟨(n1, _), hl1⟩ [] hdz ?_
  rintro ⟨⟨n1, a7, b8, row1000⟩, hr1⟩ gh1 g1 K1 Q1 hK1 hQ1
  obtain _ | n1 := n1
  ·exact (LoopN_z hr1).elim
  obtain ⟨v1, h, hv1⟩ := LoopN_e hr1
  cbv
  refine kj ?_
  replace h := br_e h; obtain ⟨hb, h⟩ | ⟨hb, h⟩ := h
  ·refine cdT hb ?_; cbv
   refine kj ?_
   replace h := bd_e h; obtain ⟨w1, hw1, h⟩ := h
   refine CallK.mem 18 rfl rfl [(1000, 0)] _ _ _ _ (fun _ => PFunM.to hP (slices_insertionSortCmpFunc_Hours_ok (cap3 := [D.ptr dscap2]) hA (by first | exact .inl rfl | exact .inr ⟨_, rfl⟩) hq2 hw1)) (by rfl) (fun _ => ez) ez (by rfl) (by rfl) ?_
   cbv
   iterate 2 refine kj ?_
   cases h
   exact hK1 _ ⟨(n1, _), hv1⟩ [] (Nat.lt_succ_self _) hdy
  ·refine cdF hb ?_; cbv
   replace h := rt_e h; obtain ⟨_, h, rfl⟩ := h
   cases hv1; refine hQ1 _ _ ?_; cbv
   refine kj ?_
   replace h := bd_e h; obtain ⟨w2, hw2, h⟩ := h
   refine CallK.mem 27 rfl rfl [(1000, 0)] _ _ _ _ (fun _ => PFunM.to hP (slices_insertionSortCmpFunc_Hours_ok (cap3 := [D.ptr dscap2]) hA (by first | exact .inl rfl | exact .inr ⟨_, rfl⟩) hq2 hw2)) (by rfl) (fun _ => ez) ez (by rfl) (by rfl) ?_
   cbv
   replace h := Loop_e h; obtain ⟨n2, hl2⟩ := h
   refine LoopK.q (X := Runs (slices_stableCmpFunc_Hours_B2 A x1 w2) _) (fun x gh => [(6, it IntKind.i64 x.1.2)]) (fun x gh => [⟨1000, 0, Cell.arr 61 TyS.hours w2⟩]) (fun x => x.1.1) ⟨(n2, _), hl2⟩ [] hdz ?_
   rintro ⟨⟨n2, blockSize6⟩, hr2⟩ gh2 g2 K2 Q2 hK2 hQ2
   obtain _ | n2 := n2
   ·exact (LoopN_z hr2).elim
   obtain ⟨v2, h, hv2⟩ := LoopN_e hr2
   cbv
   refine kj ?_
   replace h := br_e h; obtain ⟨hb, h⟩ | ⟨hb, h⟩ := h
   ·refine cdT hb ?_; cbv
    refine kj ?_
    replace h := Loop_e h; obtain ⟨n3, hl3⟩ := h
    refine LoopK.q (X := Runs (slices_stableCmpFunc_Hours_B1 A x1 blockSize6) _) (fun x gh => [(7, it IntKind.i64 x.1.2.1), (8, it IntKind.i64 x.1.2.2)]) (fun x gh => [⟨1000, 0, Cell.arr 61 TyS.hours w2⟩]) (fun x => x.1.1) ⟨(n3, _), hl3⟩ [] hdz ?_
    rintro ⟨⟨n3, a7', b8'⟩, hr3⟩ gh3 g3 K3 Q3 hK3 hQ3
    obtain _ | n3 := n3
    ·exact (LoopN_z hr3).elim
    obtain ⟨v3, h, hv3⟩ := LoopN_e hr3
    cbv
    refine kj ?_
    replace h := br_e h; obtain ⟨hb, h⟩ | ⟨hb, h⟩ := h
    ·refine cdT hb ?_; cbv
     refine kj ?_
     cases h
    ·refine cdF hb ?_; cbv
     replace h := rt_e h; obtain ⟨_, h, rfl⟩ := h
     cases hv3; refine hQ3 _ _ ?_; cbv
     iterate 2 refine kj ?_
     replace h := br_e h; obtain ⟨hb, h⟩ | ⟨hb, h⟩ := h
     ·refine cdT hb ?_; cbv
      refine kj ?_
      cases h
     ·refine cdF hb ?_; cbv
      refine kj ?_
      cases h
      exact hK2 _ ⟨(n2, _), hv2⟩ [] (Nat.lt_succ_self _) hdy
   ·refine cdF hb ?_; cbv
    replace h := rt_e h; obtain ⟨_, h, rfl⟩ := h
    cases hv2; refine hQ2 _ _ ?_; cbv
    cases h
    refine hR _ _ ⟨[], ⟨by rfl, ez, by rfl, ez⟩⟩
theorem slices_SortStableFunc_Hours_Hours_ok {A : Ar} (hA : A = std) {x0 : List Hours} {n0 : Int} {q1 : Hours → Hours → Option Int} {g1 : Nat} {cap1 : List D} (hcap1 : capOK cap1) (hq1 : ∀ (y0 : Hours) (y1 : Hours) (r : Int), q1 y0 y1 = some r → PFun cx g1 ((hoursPV y0) :: (hoursPV y1) :: un.uns cap1) (it .i64 r)) {r : List Hours} (h : slices_SortStableFunc_Hours_Hours A x0 n0 q1 = some r) : PFunM cx 142 [.ms 1000 0 TyS.hours 0 n0, .fn (.func g1) [] (un.uns cap1)] [⟨1000, 0, .arr 61 TyS.hours x0⟩] ((fun r : List Hours => (.tu [] : PV)) r) ((fun r : List Hours => ([⟨1000, 0, .arr 61 TyS.hours r⟩] : List En)) r) := by
 rcases hcap1 with rfl | ⟨dscap1, rfl⟩
 ·refine PFunM.walkM (fz := fun _ => false) hA cx_ok Tryz.func142 rfl rfl fun P R hP hR => ?_
  cbv
  unfold slices_SortStableFunc_Hours_Hours at h
  refine kj ?_
  replace h := bd_e h; obtain ⟨w1, hw1, h⟩ := h
  refine CallK.mem 8 rfl rfl [(1000, 0)] _ _ _ _ (fun _ => PFunM.to hP (slices_stableCmpFunc_Hours_ok (cap2 := []) hA (by first | exact .inl rfl | exact .inr ⟨_, rfl⟩) hq1 hw1)) (by rfl) (fun _ => ez) ez (by rfl) (by rfl) ?_
  cbv
  cases h
  refine hR _ _ ⟨[], ⟨by rfl, ez, by rfl, ez⟩⟩
 ·refine PFunM.walkM (fz := fun _ => false) hA cx_ok Tryz.func142 rfl rfl fun P R hP hR => ?_
  cbv
  unfold slices_SortStableFunc_Hours_Hours at h
  refine kj ?_
  replace h := bd_e h; obtain ⟨w1, hw1, h⟩ := h
  refine CallK.mem 8 rfl rfl [(1000, 0)] _ _ _ _ (fun _ => PFunM.to hP (slices_stableCmpFunc_Hours_ok (cap2 := [D.ptr dscap1]) hA (by first | exact .inl rfl | exact .inr ⟨_, rfl⟩) hq1 hw1)) (by rfl) (fun _ => ez) ez (by rfl) (by rfl) ?_
  cbv
  cases h
  refine hR _ _ ⟨[], ⟨by rfl, ez, by rfl, ez⟩⟩
theorem config_sorted_Hours_ok {A : Ar} (hA : A = std) {x0 : List Hours} {q1 : Hours → Option ByteArray} {g1 : Nat} {cap1 : List D} (hcap1 : capOK cap1) (hq1 : ∀ (y0 : Hours) (r : ByteArray), q1 y0 = some r → PFun cx g1 ((hoursPV y0) :: un.uns cap1) (st r)) {r : List Hours} (h : config_sorted_Hours A x0 q1 = some r) : PFun cx 51 [.d (.sl TyS.hours x0), .fn (.func g1) [] (un.uns cap1)] ((fun r : List Hours => (.d (.sl TyS.hours r) : PV)) r) := by
 rcases hcap1 with rfl | ⟨dscap1, rfl⟩
 ·refine PFun.walkF (fz := fun k => k == 3) hA cx_ok Tryz.func51 rfl rfl rfl fun P R hP hR => ?_
  cbv
  unfold config_sorted_Hours at h
  iterate 2 refine kj ?_
  replace h := bd_e h; obtain ⟨w1, hw1, h⟩ := h
  refine CallK.mem 7 rfl rfl [] _ _ _ _ (fun _ => PFunM.to hP (slices_Clone_Hours_Hours_ok hA hw1)) (by rfl) (fun _ => ez) ez (by rfl) (by rfl) ?_
  cbv
  refine kj ?_
  replace h := bd_e h; obtain ⟨w2, hw2, h⟩ := h
  refine CallK.mem 10 rfl rfl [(7, 1)] _ _ _ _ (fun _ => PFunM.to hP (slices_SortStableFunc_Hours_Hours_ok (cap1 := [D.ptr [D.fun (Fn.func g1) [] []]]) hA (by first | exact .inl rfl | exact .inr ⟨_, rfl⟩) (fun _ _ _ hw => config_sorted_Hours_1_ok (capc0 := []) hA (by first | exact .inl rfl | exact .inr ⟨_, rfl⟩) hq1 hw) hw2)) (by rfl) (fun _ => ez) ez (by rfl) (by rfl) ?_
  cbv
  refine kj ?_
  replace h := ck_e h; obtain ⟨c3, h⟩ := h; refine ⟨c3, ?_⟩
  cases h; subst hR; exact ey
 ·refine PFun.walkF (fz := fun k => k == 3) hA cx_ok Tryz.func51 rfl rfl rfl fun P R hP hR => ?_
  cbv
  unfold config_sorted_Hours at h
  iterate 2 refine kj ?_
  replace h := bd_e h; obtain ⟨w1, hw1, h⟩ := h
  refine CallK.mem 7 rfl rfl [] _ _ _ _ (fun _ => PFunM.to hP (slices_Clone_Hours_Hours_ok hA hw1)) (by rfl) (fun _ => ez) ez (by rfl) (by rfl) ?_
  cbv
  refine kj ?_
  replace h := bd_e h; obtain ⟨w2, hw2, h⟩ := h
  refine CallK.mem 10 rfl rfl [(7, 1)] _ _ _ _ (fun _ => PFunM.to hP (slices_SortStableFunc_Hours_Hours_ok (cap1 := [D.ptr [D.fun (Fn.func g1) [] [D.ptr dscap1]]]) hA (by first | exact .inl rfl | exact .inr ⟨_, rfl⟩) (fun _ _ _ hw => config_sorted_Hours_1_ok (capc0 := [D.ptr dscap1]) hA (by first | exact .inl rfl | exact .inr ⟨_, rfl⟩) hq1 hw) hw2)) (by rfl) (fun _ => ez) ez (by rfl) (by rfl) ?_
  cbv
  refine kj ?_
  replace h := ck_e h; obtain ⟨c3, h⟩ := h; refine ⟨c3, ?_⟩
  cases h; subst hR; exact ey
theorem slices_Clone_Inhibit_Inhibit_ok {A : Ar} (hA : A = std) {x0 : List Inhibit} {r : Int × List Inhibit} (h : slices_Clone_Inhibit_Inhibit A x0 = some r) : PFunM cx 144 [.d (.sl TyS.inhibit x0)] [] ((fun r : Int × List Inhibit => (.ms 2000 1 TyS.inhibit 0 r.1 : PV)) r) ((fun r : Int × List Inhibit => ([⟨2000, 1, .arr 58 TyS.inhibit r.2⟩] : List En)) r) := by
 refine PFunM.walkM (fz := fun k => k == 65541 || k == 65543 || k == 65538 || k == 65538 || k == 65538) hA cx_ok Tryz.func144 rfl rfl fun P R hP hR => ?_
 cbv
 unfold slices_Clone_Inhibit_Inhibit at h
 iterate 2 refine kj ?_
 replace h := both_e h; obtain ⟨h1, h2⟩ := h
 refine ⟨fun hc => ?_, ?_⟩
 ·have h := h1 hc
  clear h1 h2
  cbv
  refine kj ?_
  cases h
  refine hR _ _ ⟨[(2, 4)], ⟨by rfl, ez, by rfl, ez⟩⟩
 ·have h := h2
  clear h1 h2
  refine kj ?_
  replace h := ck_e h; obtain ⟨c1, h⟩ := h; refine ⟨c1, ?_⟩
  cases h
  refine hR _ _ ⟨[(7, 4)], ⟨by rfl, ez, by rfl, ez⟩⟩
theorem config_sorted_Inhibit_1_ok {A : Ar} (hA : A = std) {x0 : Inhibit} {x1 : Inhibit} {c0 : Bool} {r : Int × Bool} (h : config_sorted_Inhibit_1 A x0 x1 c0 = some r) : PFunM cx 146 [inhibitPV x0, inhibitPV x1, .bx 1000 0 0] [⟨1000, 0, .box 69 [.fn (.func 45) [] [.bx 1001 0 0]]⟩, ⟨1001, 0, .box 4 [bl c0]⟩] ((fun r : Int × Bool => (it .i64 r.1 : PV)) r) ((fun r : Int × Bool => ([⟨1000, 0, .box 69 [.fn (.func 45) [] [.bx 1001 0 0]]⟩, ⟨1001, 0, .box 4 [bl r.2]⟩] : List En)) r) := by
 refine PFunM.walkM (fz := fun _ => false) hA cx_ok Tryz.func146 rfl rfl fun P R hP hR => ?_
 cbv
 unfold config_sorted_Inhibit_1 at h
 iterate 2 refine kj ?_
 replace h := bd_e h; obtain ⟨w1, hw1, h⟩ := h
 refine CallK.mem 8 rfl rfl [(1001, 0)] _ _ _ _ (fun _ => PFunM.to hP (config_Normal_1_ok hA hw1)) (by rfl) (fun _ => ez) ez (by rfl) (by rfl) ?_
 cbv
 replace h := bd_e h; obtain ⟨w2, hw2, h⟩ := h
 refine CallK.mem 11 rfl rfl [(1001, 0)] _ _ _ _ (fun _ => PFunM.to hP (config_Normal_1_ok hA hw2)) (by rfl) (fun _ => ez) ez (by rfl) (by rfl) ?_
 cbv
 replace h := bd_e h; obtain ⟨w3, hw3, h⟩ := h
 refine CallK.mk _ (by rfl) (fun _ => PFun.to hP (strings_Compare_ok hA hw3)) ?_
 cbv
 refine kj ?_
 cases h
 refine hR _ _ ⟨[], ⟨by rfl, ez, by rfl, ez⟩⟩
theorem slices_insertionSortCmpFunc_Inhibit_ok {A : Ar} (hA : A = std) {x0 : List Inhibit} {n0 : Int} {x1 : Int} {x2 : Int} {c0 : Bool} {r : List Inhibit × Bool} (h : slices_insertionSortCmpFunc_Inhibit A x0 n0 x1 x2 c0 = some r) : PFunM cx 280 [.ms 1000 0 TyS.inhibit 0 n0, it .i64 x1, it .i64 x2, .fn (.func 146) [] [.bx 1001 0 0]] [⟨1000, 0, .arr 58 TyS.inhibit x0⟩, ⟨1001, 0, .box 69 [.fn (.func 45) [] [.bx 1002 0 0]]⟩, ⟨1002, 0, .box 4 [bl c0]⟩] ((fun r : List Inhibit × Bool => (.tu [] : PV)) r) ((fun r : List Inhibit × Bool => ([⟨1000, 0, .arr 58 TyS.inhibit r.1⟩, ⟨1001, 0, .box 69 [.fn (.func 45) [] [.bx 1002 0 0]]⟩, ⟨1002, 0, .box 4 [bl r.2]⟩] : List En)) r) := by
 refine PFunM.walkM (fz := fun k => k == 196629) hA cx_ok Tryz.func280 rfl rfl fun P R hP hR => ?_
 cbv
 unfold slices_insertionSortCmpFunc_Inhibit at h
 refine kj ?_
 replace h := Loop_e h; obtain ⟨n1, hl1⟩ := h
 refine LoopK.q (X := Runs (slices_insertionSortCmpFunc_Inhibit_B2 A n0 x1 x2) _) (fun x gh => [(8, it IntKind.i64 x.1.2.1)]) (fun x gh => [⟨1001, 0, .box 69 [PV.fn (Fn.func 45) [] [PV.bx 1002 0 0]]⟩, ⟨1002, 0, .box 4 [bl x.1.2.2.1]⟩, ⟨1000, 0, .arr 58 TyS.inhibit x.1.2.2.2⟩]) (fun x => x.1.1) ⟨(n1, _), hl1⟩ [] hdz ?_
 rintro ⟨⟨n1, i8, b0_1002, row1000⟩, hr1⟩ gh1 g1 K1 Q1 hK1 hQ1
 obtain _ | n1 := n1
 ·exact (LoopN_z hr1).elim
 obtain ⟨v1, h, hv1⟩ := LoopN_e hr1
 cbv
 refine kj ?_
 replace h := br_e h; obtain ⟨hb, h⟩ | ⟨hb, h⟩ := h
 ·refine cdT hb ?_; cbv
  refine kj ?_
  replace h := Loop_e h; obtain ⟨n2, hl2⟩ := h
  refine LoopK.q (X := Runs (slices_insertionSortCmpFunc_Inhibit_B1 A n0 x1 i8) _) (fun x gh => [(9, it IntKind.i64 x.1.2.1)]) (fun x gh => [⟨1001, 0, .box 69 [PV.fn (Fn.func 45) [] [PV.bx 1002 0 0]]⟩, ⟨1002, 0, .box 4 [bl x.1.2.2.1]⟩, ⟨1000, 0, .arr 58 TyS.inhibit x.1.2.2.2⟩]) (fun x => x.1.1) ⟨(n2, _), hl2⟩ [] hdz ?_
  rintro ⟨⟨n2, j9, b0_1002', row1000'⟩, hr2⟩ gh2 g2 K2 Q2 hK2 hQ2
  obtain _ | n2 := n2
  ·exact (LoopN_z hr2).elim
  obtain ⟨v2, h, hv2⟩ := LoopN_e hr2
  cbv
  refine kj ?_
  replace h := br_e h; obtain ⟨hb, h⟩ | ⟨hb, h⟩ := h
  ·refine selT hb ?_
   cbv
   replace h := ck_e h; obtain ⟨c1, h⟩ := h; refine ⟨c1, ?_⟩
   replace h := ck_e h; obtain ⟨c2, h⟩ := h; refine ⟨c2, ?_⟩
   replace h := ck_e h; obtain ⟨c3, h⟩ := h; refine ⟨c3, ?_⟩
   replace h := ck_e h; obtain ⟨c4, h⟩ := h; refine ⟨c4, ?_⟩
   replace h := bd_e h; obtain ⟨w5, hw5, h⟩ := h
   refine CallK.mem 32 rfl rfl [(1001, 0), (1002, 0)] _ _ _ _ (fun _ => PFunM.to hP (config_sorted_Inhibit_1_ok hA hw5)) (by rfl) (fun _ => ez) ez (by rfl) (by rfl) ?_
   cbv
   refine kj ?_
   replace h := br_e h; obtain ⟨hb, h⟩ | ⟨hb, h⟩ := h
   ·refine cdT hb ?_; cbv
    refine kj ?_
    refine ⟨c3, ?_⟩
    refine ⟨c4, ?_⟩
    refine ⟨c1, ?_⟩
    refine ⟨c2, ?_⟩
    refine ⟨c1, ?_⟩
    refine ⟨c2, ?_⟩
    refine ⟨c3, ?_⟩
    replace h := ck_e h; obtain ⟨c6, h⟩ := h; refine ⟨c6, ?_⟩
    iterate 2 refine kj ?_
    cases h
    exact hK2 _ ⟨(n2, _), hv2⟩ [] (Nat.lt_succ_self _) hdy
   ·refine cdF hb ?_; cbv
    replace h := rt_e h; obtain ⟨_, h, rfl⟩ := h
    cases hv2; refine hQ2 _ _ ?_; cbv
    refine kj ?_
    cases h
    exact hK1 _ ⟨(n1, _), hv1⟩ [] (Nat.lt_succ_self _) hdy
  ·refine selF hb ?_
   cbv
   refine kj ?_
   replace h := br_e h; obtain ⟨hb, h⟩ | ⟨hb, h⟩ := h
   ·refine cdT hb ?_; cbv
    refine kj ?_
    replace h := ck_e h; obtain ⟨c7, h⟩ := h; refine ⟨c7, ?_⟩
    replace h := ck_e h; obtain ⟨c8, h⟩ := h; refine ⟨c8, ?_⟩
    replace h := ck_e h; obtain ⟨c9, h⟩ := h; refine ⟨c9, ?_⟩
    replace h := ck_e h; obtain ⟨c10, h⟩ := h; refine ⟨c10, ?_⟩
    refine ⟨c9, ?_⟩
    refine ⟨c10, ?_⟩
    refine ⟨c7, ?_⟩
    replace h := ck_e h; obtain ⟨c11, h⟩ := h; refine ⟨c11, ?_⟩
    iterate 2 refine kj ?_
    cases h
    exact hK2 _ ⟨(n2, _), hv2⟩ [] (Nat.lt_succ_self _) hdy
   ·refine cdF hb ?_; cbv
    replace h := rt_e h; obtain ⟨_, h, rfl⟩ := h
    cases hv2; refine hQ2 _ _ ?_; cbv
    refine kj ?_
    cases h
    exact hK1 _ ⟨(n1, _), hv1⟩ [] (Nat.lt_succ_self _) hdy
 ·refine cdF hb ?_; cbv
  replace h := rt_e h; obtain ⟨_, h, rfl⟩ := h
  cases hv1; refine hQ1 _ _ ?_; cbv
  cases h
  refine hR _ _ ⟨[], ⟨by rfl, ez, by rfl, ez⟩⟩
theorem slices_stableCmpFunc_Inhibit_ok {A : Ar} (hA : A = std) {x0 : List Inhibit} {n0 : Int} {x1 : Int} {c0 : Bool} {r : List Inhibit × Bool} (h : slices_stableCmpFunc_Inhibit A x0 n0 x1 c0 = some r) : PFunM cx 221 [.ms 1000 0 TyS.inhibit 0 n0, it .i64 x1, .fn (.func 146) [] [.bx 1001 0 0]] [⟨1000, 0, .arr 58 TyS.inhibit x0⟩, ⟨1001, 0, .box 69 [.fn (.func 45) [] [.bx 1002 0 0]]⟩, ⟨1002, 0, .box 4 [bl c0]⟩] ((fun r : List Inhibit × Bool => (.tu [] : PV)) r) ((fun r : List Inhibit × Bool => ([⟨1000, 0, .arr 58 TyS.inhibit r.1⟩, ⟨1001, 0, .box 69 [.fn (.func 45) [] [.bx 1002 0 0]]⟩, ⟨1002, 0, .box 4 [bl r.2]⟩] : List En)) r) := by
 refine PFunM.walkM (fz := fun _ => false) hA cx_ok Tryz.func221 rfl rfl fun P R hP hR => ?_
 cbv
 unfold slices_stableCmpFunc_Inhibit at h
 iterate 2 refine kj ?_
 replace h := Loop_e h; obtain ⟨n1, hl1⟩ := h
 refine LoopK.q (X := Runs (slices_stableCmpFunc_Inhibit_B3 A n0 x1) _) (fun x gh => [(7, it IntKind.i64 x.1.2.1), (8, it IntKind.i64 x.1.2.2.1)]) (fun x gh => [⟨1001, 0, .box 69 [PV.fn (Fn.func 45) [] [PV.bx 1002 0 0]]⟩, ⟨1002, 0, .box 4 [bl x.1.2.2.2.1]⟩, ⟨1000, 0, .arr 58 TyS.inhibit x.1.2.2.2.2⟩]) (fun x => x.1.1) ⟨(n1, _), hl1⟩ [] hdz ?_
 rintro ⟨⟨n1, a7, b8, b0_1002, row1000⟩, hr1⟩ gh1 g1 K1 Q1 hK1 hQ1
 obtain _ | n1 := n1
 ·exact (LoopN_z hr1).elim
 obtain ⟨v1, h, hv1⟩ := LoopN_e hr1
 cbv
 refine kj ?_
 replace h := br_e h; obtain ⟨hb, h⟩ | ⟨hb, h⟩ := h
 ·refine cdT hb ?_; cbv
  refine kj ?_
  replace h := bd_e h; obtain ⟨w1, hw1, h⟩ := h
  refine CallK.mem 18 rfl rfl [(1000, 0), (1001, 0), (1002, 0)] _ _ _ _ (fun _ => PFunM.to hP (slices_insertionSortCmpFunc_Inhibit_ok hA hw1)) (by rfl) (fun _ => ez) ez (by rfl) (by rfl) ?_
  cbv
  iterate 2 refine kj ?_
  cases h
  exact hK1 _ ⟨(n1, _), hv1⟩ [] (Nat.lt_succ_self _) hdy
 ·refine cdF hb ?_; cbv
  replace h := rt_e h; obtain ⟨_, h, rfl⟩ := h
  cases hv1; refine hQ1 _ _ ?_; cbv
  refine kj ?_
  replace h := bd_e h; obtain ⟨w2, hw2, h⟩ := h
  refine CallK.mem 27 rfl rfl [(1000, 0), (1001, 0), (1002, 0)] _ _ _ _ (fun _ => PFunM.to hP (slices_insertionSortCmpFunc_Inhibit_ok hA hw2)) (by rfl) (fun _ => ez) ez (by rfl) (by rfl) ?_
  cbv
  replace h := Loop_e h; obtain ⟨n2, hl2⟩ := h
  refine LoopK.q (X := Runs (slices_stableCmpFunc_Inhibit_B2 A x1 w2) _) (fun x gh => [(6, it IntKind.i64 x.1.2)]) (fun x gh => [⟨1001, 0, .box 69 [PV.fn (Fn.func 45) [] [PV.bx 1002 0 0]]⟩, ⟨1002, 0, .box 4 [PV.d (D.v (Value.bool w2.2))]⟩, ⟨1000, 0, Cell.arr 58 TyS.inhibit w2.1⟩]) (fun x => x.1.1) ⟨(n2, _), hl2⟩ [] hdz ?_
  rintro ⟨⟨n2, blockSize6⟩, hr2⟩ gh2 g2 K2 Q2 hK2 hQ2
  obtain _ | n2 := n2
  ·exact (LoopN_z hr2).elim
  obtain ⟨v2, h, hv2⟩ := LoopN_e hr2
  cbv
  refine kj ?_
  replace h := br_e h; obtain ⟨hb, h⟩ | ⟨hb, h⟩ := h
  ·refine cdT hb ?_; cbv
   refine kj ?_
   replace h := Loop_e h; obtain ⟨n3, hl3⟩ := h
   refine LoopK.q (X := Runs (slices_stableCmpFunc_Inhibit_B1 A x1 blockSize6) _) (fun x gh => [(7, it IntKind.i64 x.1.2.1), (8, it IntKind.i64 x.1.2.2)]) (fun x gh => [⟨1001, 0, .box 69 [PV.fn (Fn.func 45) [] [PV.bx 1002 0 0]]⟩, ⟨1002, 0, .box 4 [PV.d (D.v (Value.bool w2.2))]⟩, ⟨1000, 0, Cell.arr 58 TyS.inhibit w2.1⟩]) (fun x => x.1.1) ⟨(n3, _), hl3⟩ [] hdz ?_
   rintro ⟨⟨n3, a7', b8'⟩, hr3⟩ gh3 g3 K3 Q3 hK3 hQ3
   obtain _ | n3 := n3
   ·exact (LoopN_z hr3).elim
   obtain ⟨v3, h, hv3⟩ := LoopN_e hr3
   cbv
   refine kj ?_
   replace h := br_e h; obtain ⟨hb, h⟩ | ⟨hb, h⟩ := h
   ·refine cdT hb ?_; cbv
    refine kj ?_
    cases h
   ·refine cdF hb ?_; cbv
    replace h := rt_e h; obtain ⟨_, h, rfl⟩ := h
    cases hv3; refine hQ3 _ _ ?_; cbv
    iterate 2 refine kj ?_
    replace h := br_e h; obtain ⟨hb, h⟩ | ⟨hb, h⟩ := h
    ·refine cdT hb ?_; cbv
     refine kj ?_
     cases h
    ·refine cdF hb ?_; cbv
     refine kj ?_
     cases h
     exact hK2 _ ⟨(n2, _), hv2⟩ [] (Nat.lt_succ_self _) hdy
  ·refine cdF hb ?_; cbv
   replace h := rt_e h; obtain ⟨_, h, rfl⟩ := h
   cases hv2; refine hQ2 _ _ ?_; cbv
   cases h
   refine hR _ _ ⟨[], ⟨by rfl, ez, by rfl, ez⟩⟩
theorem slices_SortStableFunc_Inhibit_Inhibit_ok {A : Ar} (hA : A = std) {x0 : List Inhibit} {n0 : Int} {c0 : Bool} {r : List Inhibit × Bool} (h : slices_SortStableFunc_Inhibit_Inhibit A x0 n0 c0 = some r) : PFunM cx 145 [.ms 1000 0 TyS.inhibit 0 n0, .fn (.func 146) [] [.bx 1001 0 0]] [⟨1000, 0, .arr 58 TyS.inhibit x0⟩, ⟨1001, 0, .box 69 [.fn (.func 45) [] [.bx 1002 0 0]]⟩, ⟨1002, 0, .box 4 [bl c0]⟩] ((fun r : List Inhibit × Bool => (.tu [] : PV)) r) ((fun r : List Inhibit × Bool => ([⟨1000, 0, .arr 58 TyS.inhibit r.1⟩, ⟨1001, 0, .box 69 [.fn (.func 45) [] [.bx 1002 0 0]]⟩, ⟨1002, 0, .box 4 [bl r.2]⟩] : List En)) r) := by
 refine PFunM.walkM (fz := fun _ => false) hA cx_ok Tryz.func145 rfl rfl fun P R hP hR => ?_
 cbv
 unfold slices_SortStableFunc_Inhibit_Inhibit at h
 refine kj ?_
 replace h := bd_e h; obtain ⟨w1, hw1, h⟩ := h
 refine CallK.mem 8 rfl rfl [(1000, 0), (1001, 0), (1002, 0)] _ _ _ _ (fun _ => PFunM.to hP (slices_stableCmpFunc_Inhibit_ok hA hw1)) (by rfl) (fun _ => ez) ez (by rfl) (by rfl) ?_
 cbv
 cases h
 refine hR _ _ ⟨[], ⟨by rfl, ez, by rfl, ez⟩⟩
theorem config_sorted_Inhibit_ok {A : Ar} (hA : A = std) {x0 : List Inhibit} {c0 : Bool} {r : Int × List Inhibit × Bool} (h : config_sorted_Inhibit A x0 c0 = some r) : PFunM cx 54 [.d (.sl TyS.inhibit x0), .fn (.func 45) [] [.bx 1000 0 0]] [⟨1000, 0, .box 4 [bl c0]⟩] ((fun r : Int × List Inhibit × Bool => (.ms 2000 1 TyS.inhibit 0 r.1 : PV)) r) ((fun r : Int × List Inhibit × Bool => ([⟨1000, 0, .box 4 [bl r.2.2]⟩, ⟨2000, 1, .arr 58 TyS.inhibit r.2.1⟩] : List En)) r) := by
 refine PFunM.walkM (fz := fun _ => false) hA cx_ok Tryz.func54 rfl rfl fun P R hP hR => ?_
 cbv
 unfold config_sorted_Inhibit at h
 iterate 2 refine kj ?_
 replace h := bd_e h; obtain ⟨w1, hw1, h⟩ := h
 refine CallK.mem 7 rfl rfl [] _ _ _ _ (fun _ => PFunM.to hP (slices_Clone_Inhibit_Inhibit_ok hA hw1)) (by rfl) (fun _ => ez) ez (by rfl) (by rfl) ?_
 cbv
 refine kj ?_
 replace h := bd_e h; obtain ⟨w2, hw2, h⟩ := h
 refine CallK.mem 10 rfl rfl [(7, 3), (3, 2), (1000, 0)] _ _ _ _ (fun _ => PFunM.to hP (slices_SortStableFunc_Inhibit_Inhibit_ok hA hw2)) (by rfl) (fun _ => ez) ez (by rfl) (by rfl) ?_
 cbv
 refine kj ?_
 cases h
 refine hR _ _ ⟨[(7, 3)], ⟨by rfl, ez, by rfl, ez⟩⟩
theorem config_Normal_2_ok {A : Ar} (hA : A = std) {x0 : Inhibit} {x1 : Inhibit} {c0 : Bool} {r : Bool × Bool} (h : config_Normal_2 A x0 x1 c0 = some r) : PFunM cx 55 [inhibitPV x0, inhibitPV x1, .bx 1000 0 0] [⟨1000, 0, .box 69 [.fn (.func 45) [] [.bx 1001 0 0]]⟩, ⟨1001, 0, .box 4 [bl c0]⟩] ((fun r : Bool × Bool => (bl r.1 : PV)) r) ((fun r : Bool × Bool => ([⟨1000, 0, .box 69 [.fn (.func 45) [] [.bx 1001 0 0]]⟩, ⟨1001, 0, .box 4 [bl r.2]⟩] : List En)) r) := by
 refine PFunM.walkM (fz := fun _ => false) hA cx_ok Tryz.func55 rfl rfl fun P R hP hR => ?_
 cbv
 unfold config_Normal_2 at h
 iterate 2 refine kj ?_
 replace h := bd_e h; obtain ⟨w1, hw1, h⟩ := h
 refine CallK.mem 8 rfl rfl [(1001, 0)] _ _ _ _ (fun _ => PFunM.to hP (config_Normal_1_ok hA hw1)) (by rfl) (fun _ => ez) ez (by rfl) (by rfl) ?_
 cbv
 replace h := bd_e h; obtain ⟨w2, hw2, h⟩ := h
 refine CallK.mem 11 rfl rfl [(1001, 0)] _ _ _ _ (fun _ => PFunM.to hP (config_Normal_1_ok hA hw2)) (by rfl) (fun _ => ez) ez (by rfl) (by rfl) ?_
 cbv
 refine kj ?_
 cases h
 refine hR _ _ ⟨[], ⟨by rfl, ez, by rfl, ez⟩⟩
theorem slices_CompactFunc_Inhibit_Inhibit_ok {A : Ar} (hA : A = std) {x0 : List Inhibit} {n0 : Int} {c0 : Bool} {r : Int × Int × List Inhibit × Bool} (h : slices_CompactFunc_Inhibit_Inhibit A x0 n0 c0 = some r) : PFunM cx 53 [.ms 1000 0 TyS.inhibit 0 n0, .fn (.func 55) [] [.bx 1001 0 0]] [⟨1000, 0, .arr 58 TyS.inhibit x0⟩, ⟨1001, 0, .box 69 [.fn (.func 45) [] [.bx 1002 0 0]]⟩, ⟨1002, 0, .box 4 [bl c0]⟩] ((fun r : Int × Int × List Inhibit × Bool => (.ms 1000 0 TyS.inhibit r.1 r.2.1 : PV)) r) ((fun r : Int × Int × List Inhibit × Bool => ([⟨1000, 0, .arr 58 TyS.inhibit r.2.2.1⟩, ⟨1001, 0, .box 69 [.fn (.func 45) [] [.bx 1002 0 0]]⟩, ⟨1002, 0, .box 4 [bl r.2.2.2]⟩] : List En)) r) := by
 refine PFunM.walkM (fz := fun _ => false) hA cx_ok Tryz.func53 rfl rfl fun P R hP hR => ?_
 cbv
 unfold slices_CompactFunc_Inhibit_Inhibit at h
 iterate 2 refine kj ?_
 replace h := br_e h; obtain ⟨hb, h⟩ | ⟨hb, h⟩ := h
 ·refine cdT hb ?_; cbv
  refine kj ?_
  cases h
  refine hR _ _ ⟨[], ⟨by rfl, ez, by rfl, ez⟩⟩
 ·refine cdF hb ?_; cbv
  refine kj ?_
  replace h := Loop_e h; obtain ⟨n1, hl1⟩ := h
  refine LoopK.q (X := Runs (slices_CompactFunc_Inhibit_Inhibit_B2 A x0 n0) _) (fun x gh => [(5, it IntKind.i64 x.1.2.1)]) (fun x gh => [⟨1001, 0, .box 69 [PV.fn (Fn.func 45) [] [PV.bx 1002 0 0]]⟩, ⟨1002, 0, .box 4 [bl x.1.2.2]⟩, ⟨1000, 0, Cell.arr 58 TyS.inhibit x0⟩]) (fun x => x.1.1) ⟨(n1, _), hl1⟩ [] hdz ?_
  rintro ⟨⟨n1, t5, b0_1002⟩, hr1⟩ gh1 g1 K1 Q1 hK1 hQ1
  obtain _ | n1 := n1
  ·exact (LoopN_z hr1).elim
  obtain ⟨v1, h, hv1⟩ := LoopN_e hr1
  cbv
  refine kj ?_
  replace h := br_e h; obtain ⟨hb, h⟩ | ⟨hb, h⟩ := h
  ·refine cdT hb ?_; cbv
   refine kj ?_
   replace h := ck_e h; obtain ⟨c1, h⟩ := h; refine ⟨c1, ?_⟩
   replace h := ck_e h; obtain ⟨c2, h⟩ := h; refine ⟨c2, ?_⟩
   replace h := ck_e h; obtain ⟨c3, h⟩ := h; refine ⟨c3, ?_⟩
   replace h := ck_e h; obtain ⟨c4, h⟩ := h; refine ⟨c4, ?_⟩
   replace h := bd_e h; obtain ⟨w5, hw5, h⟩ := h
   refine CallK.mem 28 rfl rfl [(1001, 0), (1002, 0)] _ _ _ _ (fun _ => PFunM.to hP (config_Normal_2_ok hA hw5)) (by rfl) (fun _ => ez) ez (by rfl) (by rfl) ?_
   cbv
   refine kj ?_
   replace h := br_e h; obtain ⟨hb, h⟩ | ⟨hb, h⟩ := h
   ·refine cdT hb ?_; cbv
    refine kj ?_
    replace h := ck_e h; obtain ⟨c6, h⟩ := h; refine ⟨c6, ?_⟩
    refine kj ?_
    replace h := Loop_e h; obtain ⟨n2, hl2⟩ := h
    refine LoopK.q (X := Runs (slices_CompactFunc_Inhibit_Inhibit_B1 A n0 t5) _) (fun x gh => [(5, it IntKind.i64 x.1.2.1), (7, it IntKind.i64 x.1.2.2.1)]) (fun x gh => [⟨1001, 0, .box 69 [PV.fn (Fn.func 45) [] [PV.bx 1002 0 0]]⟩, ⟨1002, 0, .box 4 [bl x.1.2.2.2.1]⟩, ⟨1000, 0, .arr 58 TyS.inhibit x.1.2.2.2.2⟩]) (fun x => x.1.1) ⟨(n2, _), hl2⟩ [] hdz ?_
    rintro ⟨⟨n2, t5', t7, b0_1002', row1000⟩, hr2⟩ gh2 g2 K2 Q2 hK2 hQ2
    obtain _ | n2 := n2
    ·exact (LoopN_z hr2).elim
    obtain ⟨v2, h, hv2⟩ := LoopN_e hr2
    cbv
    refine kj ?_
    replace h := br_e h; obtain ⟨hb, h⟩ | ⟨hb, h⟩ := h
    ·refine cdT hb ?_; cbv
     refine kj ?_
     replace h := ck_e h; obtain ⟨c7, h⟩ := h; refine ⟨c7, ?_⟩
     replace h := ck_e h; obtain ⟨c8, h⟩ := h; refine ⟨c8, ?_⟩
     replace h := ck_e h; obtain ⟨c9, h⟩ := h; refine ⟨c9, ?_⟩
     replace h := ck_e h; obtain ⟨c10, h⟩ := h; refine ⟨c10, ?_⟩
     replace h := bd_e h; obtain ⟨w11, hw11, h⟩ := h
     refine CallK.mem 48 rfl rfl [(1001, 0), (1002, 0)] _ _ _ _ (fun _ => PFunM.to hP (config_Normal_2_ok hA hw11)) (by rfl) (fun _ => ez) ez (by rfl) (by rfl) ?_
     cbv
     refine kj ?_
     replace h := br_e h; obtain ⟨hb, h⟩ | ⟨hb, h⟩ := h
     ·refine cdT hb ?_; cbv
      refine kj ?_
      refine ⟨c7, ?_⟩
      refine ⟨c8, ?_⟩
      replace h := ck_e h; obtain ⟨c12, h⟩ := h; refine ⟨c12, ?_⟩
      replace h := ck_e h; obtain ⟨c13, h⟩ := h; refine ⟨c13, ?_⟩
      iterate 2 refine kj ?_
      cases h
      exact hK2 _ ⟨(n2, _), hv2⟩ [] (Nat.lt_succ_self _) hdy
     ·refine cdF hb ?_; cbv
      refine kj ?_
      cases h
      exact hK2 _ ⟨(n2, _), hv2⟩ [] (Nat.lt_succ_self _) hdy
    ·refine cdF hb ?_; cbv
     replace h := rt_e h; obtain ⟨_, h, rfl⟩ := h
     cases hv2; refine hQ2 _ _ ?_; cbv
     refine kj ?_
     replace h := ck_e h; obtain ⟨c14, h⟩ := h; refine ⟨c14, ?_⟩
     replace h := ck_e h; obtain ⟨c15, h⟩ := h; refine ⟨c15, ?_⟩
     refine kj ?_
     replace h := ck_e h; obtain ⟨c16, h⟩ := h; refine ⟨c16, ?_⟩
     replace h := rt_e h; obtain ⟨_, h, rfl⟩ := h
     cases hv1; refine hQ1 _ _ ?_; cbv
     cases h
     refine hR _ _ ⟨[], ⟨by rfl, ez, by rfl, ez⟩⟩
   ·refine cdF hb ?_; cbv
    refine kj ?_
    cases h
    exact hK1 _ ⟨(n1, _), hv1⟩ [] (Nat.lt_succ_self _) hdy
  ·refine cdF hb ?_; cbv
   replace h := rt_e h; obtain ⟨_, h, rfl⟩ := h
   cases hv1; refine hQ1 _ _ ?_; cbv
   refine kj ?_
   cases h
   refine hR _ _ ⟨[], ⟨by rfl, ez, by rfl, ez⟩⟩
theorem config_Normal_ok {A : Ar} (hA : A = std) {x0 : Config} {r : Config × Int} (h : config_Normal A x0 = some r) : PFun cx 15 [configPV x0] ((fun r : Config × Int => (.tu [configPV r.1, it .i64 r.2] : PV)) r) := by
 refine PFun.walkF (fz := fun _ => false) hA cx_ok Tryz.func15 rfl rfl rfl fun P R hP hR => ?_
 cbv
 unfold config_Normal at h
 iterate 2 refine kj ?_
 replace h := bd_e h; obtain ⟨w1, hw1, h⟩ := h
 refine CallK.mk _ (by rfl) (fun _ => PFun.to hP (config_Right_ok hA hw1)) ?_
 cbv
 replace h := br_e h; obtain ⟨hb, h⟩ | ⟨hb, h⟩ := h
 ·refine cdT hb ?_; cbv
  refine kj ?_
  cases h; subst hR; exact ey
 ·refine cdF hb ?_; cbv
  iterate 3 refine kj ?_
  replace h := bd_e h; obtain ⟨w2, hw2, h⟩ := h
  refine CallK.le _ _ (by rfl) (fun _ => ey) (fun _ => PFun.to hP (config_sorted_Rule_ok (cap1 := []) hA (by first | exact .inl rfl | exact .inr ⟨_, rfl⟩) (fun _ _ hw => config_ruled_ok hA hw) hw2)) ?_
  cbv
  replace h := bd_e h; obtain ⟨w3, hw3, h⟩ := h
  refine CallK.le _ _ (by rfl) (fun _ => ey) (fun _ => PFun.to hP (config_sorted_string_ok (cap1 := []) hA (by first | exact .inl rfl | exact .inr ⟨_, rfl⟩) (fun _ _ hw => config_itself_ok hA hw) hw3)) ?_
  cbv
  replace h := bd_e h; obtain ⟨w4, hw4, h⟩ := h
  refine CallK.le _ _ (by rfl) (fun _ => ey) (fun _ => PFun.to hP (config_sorted_Hours_ok (cap1 := []) hA (by first | exact .inl rfl | exact .inr ⟨_, rfl⟩) (fun _ _ hw => config_houred_ok hA hw) hw4)) ?_
  cbv
  iterate 2 refine kj ?_
  replace h := bd_e h; obtain ⟨w5, hw5, h⟩ := h
  refine CallK.mem 26 rfl rfl [(4, 2)] _ _ _ _ (fun _ => PFunM.to hP (config_sorted_Inhibit_ok hA hw5)) (by rfl) (fun _ => ez) ez (by rfl) (by rfl) ?_
  cbv
  replace h := bd_e h; obtain ⟨w6, hw6, h⟩ := h
  refine CallK.mem 28 rfl rfl [(26, 5), (5, 3), (4, 2)] _ _ _ _ (fun _ => PFunM.to hP (slices_CompactFunc_Inhibit_Inhibit_ok hA hw6)) (by rfl) (fun _ => ez) ez (by rfl) (by rfl) ?_
  cbv
  refine kj ?_
  replace h := ck_e h; obtain ⟨c7, h⟩ := h; refine ⟨c7, ?_⟩
  cases h; subst hR; exact ey
theorem transhipmentlaw10_alive_ok {A : Ar} (hA : A = std) {r : Bool} (h : transhipmentlaw10_alive A = some r) : PFun cx 14 [] ((fun r : Bool => (bl r : PV)) r) := by
 refine PFun.walkF (fz := fun _ => false) hA cx_ok Tryz.func14 rfl rfl rfl fun P R hP hR => ?_
 cbv
 unfold transhipmentlaw10_alive at h
 iterate 2 refine kj ?_
 replace h := bd_e h; obtain ⟨w1, hw1, h⟩ := h
 refine CallK.le _ _ (by rfl) (fun _ => ey) (fun _ => PFun.to hP (config_Normal_ok hA hw1)) ?_
 cbv
 refine kj ?_
 iterate 8 refine cj ?_
 replace h := ck_e h; obtain ⟨c2, h⟩ := h; refine ⟨c2, ?_⟩
 iterate 5 refine cj ?_
 replace h := bd_e h; obtain ⟨w3, hw3, h⟩ := h
 refine CallK.mk _ (by rfl) (fun hc => PFun.to hP (config_Right_ok hA (gd_e hw3 hc))) ?_
 cbv
 refine cj ?_
 cases h; subst hR; exact ey
theorem transhipmentlaw10_turned_Rule_ok {A : Ar} (hA : A = std) {x0 : List Rule} {x1 : Int} {r : List Rule} (h : transhipmentlaw10_turned_Rule A x0 x1 = some r) : PFun cx 33 [.d (.sl TyS.rule x0), it .i64 x1] ((fun r : List Rule => (.d (.sl TyS.rule r) : PV)) r) := by
 refine PFun.walkF (fz := fun _ => false) hA cx_ok Tryz.func33 rfl rfl rfl fun P R hP hR => ?_
 cbv
 unfold transhipmentlaw10_turned_Rule at h
 iterate 2 refine kj ?_
 replace h := br_e h; obtain ⟨hb, h⟩ | ⟨hb, h⟩ := h
 ·refine cdT hb ?_; cbv
  refine kj ?_
  cases h; subst hR; exact ey
 ·refine cdF hb ?_; cbv
  refine kj ?_
  replace h := ck_e h; obtain ⟨c1, h⟩ := h
  iterate 2 (refine ⟨c1, ?_⟩)
  refine kj ?_
  replace h := ck_e h; obtain ⟨c2, h⟩ := h; refine ⟨c2, ?_⟩
  replace h := ck_e h; obtain ⟨c3, h⟩ := h; refine ⟨c3, ?_⟩
  replace h := ck_e h; obtain ⟨c4, h⟩ := h; refine ⟨c4, ?_⟩
  replace h := ck_e h; obtain ⟨c5, h⟩ := h; refine ⟨c5, ?_⟩
  refine kj ?_
  cases h; subst hR; exact ey
theorem transhipmentlaw10_turned_string_ok {A : Ar} (hA : A = std) {x0 : List ByteArray} {x1 : Int} {r : List ByteArray} (h : transhipmentlaw10_turned_string A x0 x1 = some r) : PFun cx 34 [.d (.sl TyS.str x0), it .i64 x1] ((fun r : List ByteArray => (.d (.sl TyS.str r) : PV)) r) := by
 refine PFun.walkF (fz := fun _ => false) hA cx_ok Tryz.func34 rfl rfl rfl fun P R hP hR => ?_
 cbv
 unfold transhipmentlaw10_turned_string at h
 iterate 2 refine kj ?_
 replace h := br_e h; obtain ⟨hb, h⟩ | ⟨hb, h⟩ := h
 ·refine cdT hb ?_; cbv
  refine kj ?_
  cases h; subst hR; exact ey
 ·refine cdF hb ?_; cbv
  refine kj ?_
  replace h := ck_e h; obtain ⟨c1, h⟩ := h
  iterate 2 (refine ⟨c1, ?_⟩)
  refine kj ?_
  replace h := ck_e h; obtain ⟨c2, h⟩ := h; refine ⟨c2, ?_⟩
  replace h := ck_e h; obtain ⟨c3, h⟩ := h; refine ⟨c3, ?_⟩
  replace h := ck_e h; obtain ⟨c4, h⟩ := h; refine ⟨c4, ?_⟩
  replace h := ck_e h; obtain ⟨c5, h⟩ := h; refine ⟨c5, ?_⟩
  refine kj ?_
  cases h; subst hR; exact ey
theorem transhipmentlaw10_turned_Inhibit_ok {A : Ar} (hA : A = std) {x0 : List Inhibit} {x1 : Int} {r : List Inhibit} (h : transhipmentlaw10_turned_Inhibit A x0 x1 = some r) : PFun cx 35 [.d (.sl TyS.inhibit x0), it .i64 x1] ((fun r : List Inhibit => (.d (.sl TyS.inhibit r) : PV)) r) := by
 refine PFun.walkF (fz := fun _ => false) hA cx_ok Tryz.func35 rfl rfl rfl fun P R hP hR => ?_
 cbv
 unfold transhipmentlaw10_turned_Inhibit at h
 iterate 2 refine kj ?_
 replace h := br_e h; obtain ⟨hb, h⟩ | ⟨hb, h⟩ := h
 ·refine cdT hb ?_; cbv
  refine kj ?_
  cases h; subst hR; exact ey
 ·refine cdF hb ?_; cbv
  refine kj ?_
  replace h := ck_e h; obtain ⟨c1, h⟩ := h
  iterate 2 (refine ⟨c1, ?_⟩)
  refine kj ?_
  replace h := ck_e h; obtain ⟨c2, h⟩ := h; refine ⟨c2, ?_⟩
  replace h := ck_e h; obtain ⟨c3, h⟩ := h; refine ⟨c3, ?_⟩
  replace h := ck_e h; obtain ⟨c4, h⟩ := h; refine ⟨c4, ?_⟩
  replace h := ck_e h; obtain ⟨c5, h⟩ := h; refine ⟨c5, ?_⟩
  refine kj ?_
  cases h; subst hR; exact ey
theorem transhipmentlaw10_turned_Hours_ok {A : Ar} (hA : A = std) {x0 : List Hours} {x1 : Int} {r : List Hours} (h : transhipmentlaw10_turned_Hours A x0 x1 = some r) : PFun cx 36 [.d (.sl TyS.hours x0), it .i64 x1] ((fun r : List Hours => (.d (.sl TyS.hours r) : PV)) r) := by
 refine PFun.walkF (fz := fun _ => false) hA cx_ok Tryz.func36 rfl rfl rfl fun P R hP hR => ?_
 cbv
 unfold transhipmentlaw10_turned_Hours at h
 iterate 2 refine kj ?_
 replace h := br_e h; obtain ⟨hb, h⟩ | ⟨hb, h⟩ := h
 ·refine cdT hb ?_; cbv
  refine kj ?_
  cases h; subst hR; exact ey
 ·refine cdF hb ?_; cbv
  refine kj ?_
  replace h := ck_e h; obtain ⟨c1, h⟩ := h
  iterate 2 (refine ⟨c1, ?_⟩)
  refine kj ?_
  replace h := ck_e h; obtain ⟨c2, h⟩ := h; refine ⟨c2, ?_⟩
  replace h := ck_e h; obtain ⟨c3, h⟩ := h; refine ⟨c3, ?_⟩
  replace h := ck_e h; obtain ⟨c4, h⟩ := h; refine ⟨c4, ?_⟩
  replace h := ck_e h; obtain ⟨c5, h⟩ := h; refine ⟨c5, ?_⟩
  refine kj ?_
  cases h; subst hR; exact ey
theorem label_marks_ok {A : Ar} (hA : A = std) {x0 : List Label} {r : List label_mark} (h : label_marks A x0 = some r) : PFun cx 252 [.d (.sl TyS.label x0)] ((fun r : List label_mark => (.d (.sl TyS.mark r) : PV)) r) := by
 refine PFun.walkF (fz := fun _ => false) hA cx_ok Tryz.func252 rfl rfl rfl fun P R hP hR => ?_
 cbv
 unfold label_marks at h
 iterate 3 refine kj ?_
 replace h := Loop_e h; obtain ⟨n1, hl1⟩ := h
 refine LoopK.q (X := Runs (label_marks_B1 A x0) _) (fun x gh => [(3, .os 4030 gh TyS.mark x.1.2.1), (8, it IntKind.i64 x.1.2.2)]) (fun x gh => [⟨4030, gh, .tok 235 TyS.mark (A.nlen TyS.mark x.1.2.1)⟩]) (fun x => x.1.1) ⟨(n1, _), hl1⟩ [] hdz ?_
 rintro ⟨⟨n1, out3, t8⟩, hr1⟩ gh1 g1 K1 Q1 hK1 hQ1
 obtain _ | n1 := n1
 ·exact (LoopN_z hr1).elim
 obtain ⟨v1, h, hv1⟩ := LoopN_e hr1
 cbv
 refine kj ?_
 replace h := br_e h; obtain ⟨hb, h⟩ | ⟨hb, h⟩ := h
 ·refine cdT hb ?_; cbv
  refine kj ?_
  replace h := ck_e h; obtain ⟨c1, h⟩ := h; refine ⟨c1, ?_⟩
  refine kj ?_
  replace h := ck_e h; obtain ⟨c2, h⟩ := h; refine ⟨c2, ?_⟩
  refine kj ?_
  cases h
  exact hK1 _ ⟨(n1, _), hv1⟩ [(4030, 15, g1.succ.succ)] (Nat.lt_succ_self _) hdy
 ·refine cdF hb ?_; cbv
  replace h := rt_e h; obtain ⟨_, h, rfl⟩ := h
  cases hv1; refine hQ1 _ _ ?_; cbv
  refine kj ?_
  cases h; subst hR; exact ey
theorem label_mark_text_ok {A : Ar} (hA : A = std) {x0 : label_mark} {r : ByteArray} (h : label_mark_text A x0 = some r) : PFun cx 253 [label_markPV x0] ((fun r : ByteArray => (st r : PV)) r) := by
 refine PFun.walkF (fz := fun _ => false) hA cx_ok Tryz.func253 rfl rfl rfl fun P R hP hR => ?_
 cbv
 unfold label_mark_text at h
 iterate 2 refine kj ?_
 replace h := ck_e h; obtain ⟨c1, h⟩ := h; refine ⟨c1, ?_⟩
 replace h := bd_e h; obtain ⟨w2, hw2, h⟩ := h
 refine CallK.mk _ (by rfl) (fun _ => PFun.to hP (strings_ReplaceAll_ok hA hw2)) ?_
 cbv
 replace h := bd_e h; obtain ⟨w3, hw3, h⟩ := h
 refine CallK.mk _ (by rfl) (fun _ => PFun.to hP (strings_ReplaceAll_ok hA hw3)) ?_
 cbv
 replace h := ck_e h; obtain ⟨c4, h⟩ := h; refine ⟨c4, ?_⟩
 replace h := ck_e h; obtain ⟨c5, h⟩ := h; refine ⟨c5, ?_⟩
 refine kj ?_
 cases h; subst hR; exact ey
theorem label_Text_ok {A : Ar} (hA : A = std) {x0 : List Label} {r : ByteArray × Int} (h : label_Text A x0 = some r) : PFun cx 200 [.d (.sl TyS.label x0)] ((fun r : ByteArray × Int => (.tu [st r.1, it .i64 r.2] : PV)) r) := by
 refine PFun.walkF (fz := fun _ => false) hA cx_ok Tryz.func200 rfl rfl rfl fun P R hP hR => ?_
 cbv
 unfold label_Text at h
 iterate 2 refine kj ?_
 replace h := bd_e h; obtain ⟨w1, hw1, h⟩ := h
 refine CallK.mk _ (by rfl) (fun _ => PFun.to hP (label_Right_ok hA hw1)) ?_
 cbv
 replace h := br_e h; obtain ⟨hb, h⟩ | ⟨hb, h⟩ := h
 ·refine cdT hb ?_; cbv
  refine kj ?_
  cases h; subst hR; exact ey
 ·refine cdF hb ?_; cbv
  iterate 2 refine kj ?_
  replace h := bd_e h; obtain ⟨w2, hw2, h⟩ := h
  refine CallK.mk _ (by rfl) (fun _ => PFun.to hP (label_marks_ok hA hw2)) ?_
  cbv
  replace h := Loop_e h; obtain ⟨n1, hl1⟩ := h
  refine LoopK.q (X := Runs (label_Text_B1 A w2) _) (fun x gh => [(4, .os 4030 gh TyS.str x.1.2.1), (13, it IntKind.i64 x.1.2.2)]) (fun x gh => [⟨4030, gh, .tok 9 TyS.str (A.nlen TyS.str x.1.2.1)⟩]) (fun x => x.1.1) ⟨(n1, _), hl1⟩ [] hdz ?_
  rintro ⟨⟨n1, parts4, t13⟩, hr1⟩ gh1 g1 K1 Q1 hK1 hQ1
  obtain _ | n1 := n1
  ·exact (LoopN_z hr1).elim
  obtain ⟨v1, h, hv1⟩ := LoopN_e hr1
  cbv
  refine kj ?_
  replace h := br_e h; obtain ⟨hb, h⟩ | ⟨hb, h⟩ := h
  ·refine cdT hb ?_; cbv
   refine kj ?_
   replace h := ck_e h; obtain ⟨c3, h⟩ := h; refine ⟨c3, ?_⟩
   refine kj ?_
   replace h := bd_e h; obtain ⟨w4, hw4, h⟩ := h
   refine CallK.mk _ (by rfl) (fun _ => PFun.to hP (label_mark_text_ok hA hw4)) ?_
   cbv
   replace h := ck_e h; obtain ⟨c5, h⟩ := h; refine ⟨c5, ?_⟩
   refine kj ?_
   cases h
   exact hK1 _ ⟨(n1, _), hv1⟩ [(4030, 21, g1.succ.succ)] (Nat.lt_succ_self _) hdy
  ·refine cdF hb ?_; cbv
   replace h := rt_e h; obtain ⟨_, h, rfl⟩ := h
   cases hv1; refine hQ1 _ _ ?_; cbv
   refine kj ?_
   replace h := bd_e h; obtain ⟨w6, hw6, h⟩ := h
   refine CallK.mk _ (by rfl) (fun _ => PFun.to hP (strings_Join_ok hA hw6)) ?_
   cbv
   replace h := ck_e h; obtain ⟨c7, h⟩ := h; refine ⟨c7, ?_⟩
   replace h := ck_e h; obtain ⟨c8, h⟩ := h; refine ⟨c8, ?_⟩
   cases h; subst hR; exact ey
theorem rules_ways_ok {A : Ar} (hA : A = std) {r : Unit} (h : rules_ways A = some r) : PFun cx 201 [] ((fun r : Unit => (.ag [.d (.v (.string (ByteArray.mk (Array.mk [])))), .d (.v .nilFunc), .d (.v (.string (ByteArray.mk (Array.mk [62])))), .d (.v (.func (.func 254) (Array.mk []) (Array.mk []))), .d (.v (.string (ByteArray.mk (Array.mk [62, 61])))), .d (.v (.func (.func 255) (Array.mk []) (Array.mk []))), .d (.v (.string (ByteArray.mk (Array.mk [60])))), .d (.v (.func (.func 256) (Array.mk []) (Array.mk []))), .d (.v (.string (ByteArray.mk (Array.mk [60, 61])))), .d (.v (.func (.func 257) (Array.mk []) (Array.mk []))), .d (.v (.string (ByteArray.mk (Array.mk [61, 61])))), .d (.v (.func (.func 258) (Array.mk []) (Array.mk [])))] : PV)) r) := by
 refine PFun.walkF (fz := fun _ => false) hA cx_ok Tryz.func201 rfl rfl rfl fun P R hP hR => ?_
 cbv
 unfold rules_ways at h
 iterate 2 refine kj ?_
 cases h; subst hR; exact ey
theorem rules_Words_ok {A : Ar} (hA : A = std) {x0 : Rule} {r : (List ByteArray) × Int} (h : rules_Words A x0 = some r) : PFun cx 120 [rulePV x0] ((fun r : (List ByteArray) × Int => (.tu [.d (.sl TyS.str r.1), it .i64 r.2] : PV)) r) := by
 refine PFun.walkF (fz := fun _ => false) hA cx_ok Tryz.func120 rfl rfl rfl fun P R hP hR => ?_
 cbv
 unfold rules_Words at h
 iterate 2 refine kj ?_
 replace h := bd_e h; obtain ⟨w1, hw1, h⟩ := h
 refine CallK.mk _ (by rfl) (fun _ => PFun.to hP (rules_Right_ok hA hw1)) ?_
 cbv
 replace h := br_e h; obtain ⟨hb, h⟩ | ⟨hb, h⟩ := h
 ·refine cdT hb ?_; cbv
  refine kj ?_
  cases h; subst hR; exact ey
 ·refine cdF hb ?_; cbv
  refine kj ?_
  replace h := bd_e h; obtain ⟨w2, hw2, h⟩ := h
  refine CallK.mk _ (by rfl) (fun _ => PFun.to hP (label_Text_ok hA hw2)) ?_
  cbv
  refine kj ?_
  replace h := bd_e h; obtain ⟨w3, hw3, h⟩ := h
  refine CallK.mk _ (by rfl) (fun _ => PFun.to hP (rules_ways_ok hA hw3)) ?_
  cbv
  replace h := ck_e h; obtain ⟨c4, h⟩ := h; refine ⟨c4, ?_⟩
  iterate 2 refine kj ?_
  replace h := Loop_e h; obtain ⟨n1, hl1⟩ := h
  refine LoopK.q (X := Runs (rules_Words_B1 A x0 w2) _) (fun x gh => [(6, .os 4030 gh TyS.str x.1.2.1), (38, it IntKind.i64 x.1.2.2)]) (fun x gh => [⟨4030, gh, .tok 9 TyS.str (A.nlen TyS.str x.1.2.1)⟩, ⟨1, 0, .box 43 [PV.d (D.v (Value.string x0.1)), PV.d (D.v (Value.string x0.2)), PV.d (D.v (Value.int IntKind.i64 x0.3)), PV.d (D.v (Value.int IntKind.i64 x0.4)), PV.d (D.v (Value.int IntKind.i64 x0.5)), PV.d (D.v (Value.int IntKind.i64 x0.6)), PV.d (D.v (Value.int IntKind.i64 x0.7)), PV.d (D.sl TyS.label x0.8)]⟩, ⟨36, 4, Cell.tok 3 TyS.int (A.nlen TyS.int [x0.4, x0.5, x0.6, x0.7])⟩]) (fun x => x.1.1) ⟨(n1, _), hl1⟩ [(4030, 27, 3)] hdz ?_
  rintro ⟨⟨n1, out6, t38⟩, hr1⟩ gh1 g1 K1 Q1 hK1 hQ1
  obtain _ | n1 := n1
  ·exact (LoopN_z hr1).elim
  obtain ⟨v1, h, hv1⟩ := LoopN_e hr1
  cbv
  refine kj ?_
  replace h := br_e h; obtain ⟨hb, h⟩ | ⟨hb, h⟩ := h
  ·refine cdT hb ?_; cbv
   refine kj ?_
   replace h := ck_e h; obtain ⟨c5, h⟩ := h; refine ⟨c5, ?_⟩
   refine kj ?_
   replace h := bd_e h; obtain ⟨w6, hw6, h⟩ := h
   refine CallK.mk _ (by rfl) (fun _ => PFun.to hP (strconv_Itoa_ok hA hw6)) ?_
   cbv
   replace h := ck_e h; obtain ⟨c7, h⟩ := h; refine ⟨c7, ?_⟩
   refine kj ?_
   cases h
   exact hK1 _ ⟨(n1, _), hv1⟩ [(4030, 46, g1.succ.succ)] (Nat.lt_succ_self _) hdy
  ·refine cdF hb ?_; cbv
   replace h := rt_e h; obtain ⟨_, h, rfl⟩ := h
   cases hv1; refine hQ1 _ _ ?_; cbv
   refine kj ?_
   replace h := ck_e h; obtain ⟨c8, h⟩ := h; refine ⟨c8, ?_⟩
   cases h; subst hR; exact ey
theorem hours_two_ok {A : Ar} (hA : A = std) {x0 : Int} {r : ByteArray} (h : hours_two A x0 = some r) : PFun cx 262 [it .i64 x0] ((fun r : ByteArray => (st r : PV)) r) := by
 refine PFun.walkF (fz := fun _ => false) hA cx_ok Tryz.func262 rfl rfl rfl fun P R hP hR => ?_
 cbv
 unfold hours_two at h
 iterate 2 refine kj ?_
 iterate 2 (refine ⟨by subst hA; simp +contextual [vcm], ?_⟩)
 refine and_assoc.2 ?_
 replace h := ck_e h; obtain ⟨c1, h⟩ := h; refine ⟨c1, ?_⟩
 refine and_assoc.2 ?_
 replace h := ck_e h; obtain ⟨c2, h⟩ := h; refine ⟨c2, ?_⟩
 refine cj ?_
 cases h; subst hR; exact ey
theorem hours_clock_ok {A : Ar} (hA : A = std) {x0 : Int} {r : ByteArray} (h : hours_clock A x0 = some r) : PFun cx 204 [it .i64 x0] ((fun r : ByteArray => (st r : PV)) r) := by
 refine PFun.walkF (fz := fun _ => false) hA cx_ok Tryz.func204 rfl rfl rfl fun P R hP hR => ?_
 cbv
 unfold hours_clock at h
 iterate 2 refine kj ?_
 refine ⟨by subst hA; simp +contextual [vcm], ?_⟩
 replace h := bd_e h; obtain ⟨w1, hw1, h⟩ := h
 refine CallK.mk _ (by rfl) (fun _ => PFun.to hP (hours_two_ok hA hw1)) ?_
 cbv
 replace h := ck_e h; obtain ⟨c2, h⟩ := h; refine ⟨c2, ?_⟩
 refine ⟨by subst hA; simp +contextual [vcm], ?_⟩
 replace h := bd_e h; obtain ⟨w3, hw3, h⟩ := h
 refine CallK.mk _ (by rfl) (fun _ => PFun.to hP (hours_two_ok hA hw3)) ?_
 cbv
 replace h := ck_e h; obtain ⟨c4, h⟩ := h; refine ⟨c4, ?_⟩
 cases h; subst hR; exact ey
theorem hours_Text_ok {A : Ar} (hA : A = std) {x0 : Hours} {r : ByteArray × Int} (h : hours_Text A x0 = some r) : PFun cx 121 [hoursPV x0] ((fun r : ByteArray × Int => (.tu [st r.1, it .i64 r.2] : PV)) r) := by
 refine PFun.walkF (fz := fun _ => false) hA cx_ok Tryz.func121 rfl rfl rfl fun P R hP hR => ?_
 cbv
 unfold hours_Text at h
 iterate 2 refine kj ?_
 replace h := bd_e h; obtain ⟨w1, hw1, h⟩ := h
 refine CallK.mk _ (by rfl) (fun _ => PFun.to hP (hours_Right_ok hA hw1)) ?_
 cbv
 replace h := br_e h; obtain ⟨hb, h⟩ | ⟨hb, h⟩ := h
 ·refine cdT hb ?_; cbv
  refine kj ?_
  cases h; subst hR; exact ey
 ·refine cdF hb ?_; cbv
  iterate 2 refine kj ?_
  replace h := Loop_e h; obtain ⟨n1, hl1⟩ := h
  refine LoopK.q (X := Runs (hours_Text_B1 A x0) _) (fun x gh => [(4, .os 4030 gh TyS.str x.1.2.1), (11, it IntKind.i64 x.1.2.2)]) (fun x gh => [⟨4030, gh, .tok 9 TyS.str (A.nlen TyS.str x.1.2.1)⟩, ⟨1, 0, .box 61 [PV.d (D.v (Value.string x0.1)), PV.d (D.v (Value.int IntKind.i64 x0.2)), PV.d (D.v (Value.int IntKind.i64 x0.3)), PV.d (D.v (Value.int IntKind.i64 x0.4))]⟩]) (fun x => x.1.1) ⟨(n1, _), hl1⟩ [] hdz ?_
  rintro ⟨⟨n1, l4, t11⟩, hr1⟩ gh1 g1 K1 Q1 hK1 hQ1
  obtain _ | n1 := n1
  ·exact (LoopN_z hr1).elim
  obtain ⟨v1, h, hv1⟩ := LoopN_e hr1
  cbv
  refine kj ?_
  replace h := br_e h; obtain ⟨hb, h⟩ | ⟨hb, h⟩ := h
  ·refine cdT hb ?_; cbv
   refine kj ?_
   replace h := ck_e h; obtain ⟨c2, h⟩ := h; refine ⟨c2, ?_⟩
   refine kj ?_
   replace h := ck_e h; obtain ⟨c3, h⟩ := h; refine ⟨c3, ?_⟩
   replace h := br_e h; obtain ⟨hb, h⟩ | ⟨hb, h⟩ := h
   ·refine cdT hb ?_; cbv
    refine kj ?_
    replace h := ck_e h; obtain ⟨c4, h⟩ := h; refine ⟨c4, ?_⟩
    refine kj ?_
    cases h
    exact hK1 _ ⟨(n1, _), hv1⟩ [(4030, 24, g1.succ.succ.succ)] (Nat.lt_succ_self _) hdy
   ·refine cdF hb ?_; cbv
    refine kj ?_
    cases h
    exact hK1 _ ⟨(n1, _), hv1⟩ [(4030, 4030, gh1)] (Nat.lt_succ_self _) hdy
  ·refine cdF hb ?_; cbv
   replace h := rt_e h; obtain ⟨_, h, rfl⟩ := h
   cases hv1; refine hQ1 _ _ ?_; cbv
   refine kj ?_
   replace h := bd_e h; obtain ⟨w5, hw5, h⟩ := h
   refine CallK.mk _ (by rfl) (fun _ => PFun.to hP (strings_Join_ok hA hw5)) ?_
   cbv
   replace h := ck_e h; obtain ⟨c6, h⟩ := h; refine ⟨c6, ?_⟩
   replace h := bd_e h; obtain ⟨w7, hw7, h⟩ := h
   refine CallK.mk _ (by rfl) (fun _ => PFun.to hP (hours_clock_ok hA hw7)) ?_
   cbv
   replace h := ck_e h; obtain ⟨c8, h⟩ := h; refine ⟨c8, ?_⟩
   replace h := ck_e h; obtain ⟨c9, h⟩ := h; refine ⟨c9, ?_⟩
   replace h := bd_e h; obtain ⟨w10, hw10, h⟩ := h
   refine CallK.mk _ (by rfl) (fun _ => PFun.to hP (hours_clock_ok hA hw10)) ?_
   cbv
   replace h := ck_e h; obtain ⟨c11, h⟩ := h; refine ⟨c11, ?_⟩
   refine kj ?_
   cases h; subst hR; exact ey
theorem config_route_S_ok {A : Ar} (hA : A = std) {rf : Bool → Route → Option (ByteArray × Bool)} {x0 : Bool} {x1 : Route} (hqr123 : ∀ (x0 : Bool) (x1 : Route) (r : ByteArray × Bool), rf x0 x1 = some r → PFunM cx 123 [.bx 1000 0 0, routePV x1] [⟨1000, 0, .box 4 [bl x0]⟩] (st r.1) [⟨1000, 0, .box 4 [bl r.2]⟩]) {r : ByteArray × Bool} (h : config_route_S A rf x0 x1 = some r) : PFunM cx 123 [.bx 1000 0 0, routePV x1] [⟨1000, 0, .box 4 [bl x0]⟩] ((fun r : ByteArray × Bool => (st r.1 : PV)) r) ((fun r : ByteArray × Bool => ([⟨1000, 0, .box 4 [bl r.2]⟩] : List En)) r) := by
 refine PFunM.walkM (fz := fun _ => false) hA cx_ok Tryz.func123 rfl rfl fun P R hP hR => ?_
 cbv
 unfold config_route_S at h
 iterate 2 refine kj ?_
 replace h := bd_e h; obtain ⟨w1, hw1, h⟩ := h
 refine CallK.mem 19 rfl rfl [(1000, 0)] _ _ _ _ (fun _ => PFunM.to hP (config_matchers_ok hA hw1)) (by rfl) (fun _ => ez) ez (by rfl) (by rfl) ?_
 cbv
 replace h := bd_e h; obtain ⟨w2, hw2, h⟩ := h
 refine CallK.mem 23 rfl rfl [(1000, 0)] _ _ _ _ (fun _ => PFunM.to hP (config_bind_ok hA hw2)) (by rfl) (fun _ => ez) ez (by rfl) (by rfl) ?_
 cbv
 replace h := bd_e h; obtain ⟨w3, hw3, h⟩ := h
 refine CallK.mem 27 rfl rfl [(1000, 0)] _ _ _ _ (fun _ => PFunM.to hP (config_bind_ok hA hw3)) (by rfl) (fun _ => ez) ez (by rfl) (by rfl) ?_
 cbv
 iterate 2 refine kj ?_
 replace h := Loop_e h; obtain ⟨n1, hl1⟩ := h
 refine LoopK.q (X := Runs (config_route_S_B3 A rf x1 w3) _) (fun x gh => [(5, .os 4030 gh TyS.str x.1.2.1), (37, it IntKind.i64 x.1.2.2)]) (fun x gh => [⟨4030, gh, .tok 9 TyS.str (A.nlen TyS.str x.1.2.1)⟩, ⟨1000, 0, .box 4 [PV.d (D.v (Value.bool w3.2))]⟩, ⟨3, 2, .box 27 [PV.d (D.v (Value.string x1.1)), PV.d (D.sl TyS.matcher x1.2), PV.d (D.sl TyS.str x1.3), PV.d (D.v (Value.int IntKind.i64 x1.4)), PV.d (D.v (Value.int IntKind.i64 x1.5)), PV.d (D.v (Value.int IntKind.i64 x1.6)), PV.d (D.sl TyS.str x1.7), PV.d (D.v (Value.bool x1.8)), PV.d (D.sl TyS.route x1.9)]⟩, ⟨35, 4, Cell.tok 3 TyS.int (A.nlen TyS.int [x1.4, x1.5, x1.6])⟩]) (fun x => x.1.1) ⟨(n1, _), hl1⟩ [(4030, 28, 3)] hdz ?_
 rintro ⟨⟨n1, t5, t37⟩, hr1⟩ gh1 g1 K1 Q1 hK1 hQ1
 obtain _ | n1 := n1
 ·exact (LoopN_z hr1).elim
 obtain ⟨v1, h, hv1⟩ := LoopN_e hr1
 cbv
 refine kj ?_
 replace h := br_e h; obtain ⟨hb, h⟩ | ⟨hb, h⟩ := h
 ·refine cdT hb ?_; cbv
  refine kj ?_
  replace h := ck_e h; obtain ⟨c4, h⟩ := h; refine ⟨c4, ?_⟩
  refine kj ?_
  replace h := bd_e h; obtain ⟨w5, hw5, h⟩ := h
  refine CallK.mk _ (by rfl) (fun _ => PFun.to hP (frame_Number_ok hA hw5)) ?_
  cbv
  refine kj ?_
  replace h := ck_e h; obtain ⟨c6, h⟩ := h; refine ⟨c6, ?_⟩
  refine kj ?_
  cases h
  exact hK1 _ ⟨(n1, _), hv1⟩ [(4030, 49, g1.succ.succ.succ)] (Nat.lt_succ_self _) hdy
 ·refine cdF hb ?_; cbv
  replace h := rt_e h; obtain ⟨_, h, rfl⟩ := h
  cases hv1; refine hQ1 _ _ ?_; cbv
  iterate 2 refine kj ?_
  replace h := br_e h; obtain ⟨hb, h⟩ | ⟨hb, h⟩ := h
  ·refine cdT hb ?_; cbv
   iterate 3 refine kj ?_
   replace h := Loop_e h; obtain ⟨n2, hl2⟩ := h
   refine LoopK.q (X := Runs (config_route_S_B1 A rf x1 t5) _) (fun x gh => [(11, .os 4060 gh TyS.str x.1.2.1), (56, it IntKind.i64 x.1.2.2.1)]) (fun x gh => [⟨4060, gh, .tok 9 TyS.str (A.nlen TyS.str x.1.2.1)⟩, ⟨1000, 0, .box 4 [bl x.1.2.2.2]⟩, ⟨3, 2, .box 27 [PV.d (D.v (Value.string x1.1)), PV.d (D.sl TyS.matcher x1.2), PV.d (D.sl TyS.str x1.3), PV.d (D.v (Value.int IntKind.i64 x1.4)), PV.d (D.v (Value.int IntKind.i64 x1.5)), PV.d (D.v (Value.int IntKind.i64 x1.6)), PV.d (D.sl TyS.str x1.7), PV.d (D.v (Value.bool x1.8)), PV.d (D.sl TyS.route x1.9)]⟩, ⟨4030, gh1, Cell.tok 9 TyS.str (A.nlen TyS.str t5)⟩, ⟨35, 4, Cell.tok 3 TyS.int (A.nlen TyS.int [x1.4, x1.5, x1.6])⟩]) (fun x => x.1.1) ⟨(n2, _), hl2⟩ [] hdz ?_
   rintro ⟨⟨n2, t11, t56, b0_1000⟩, hr2⟩ gh2 g2 K2 Q2 hK2 hQ2
   obtain _ | n2 := n2
   ·exact (LoopN_z hr2).elim
   obtain ⟨v2, h, hv2⟩ := LoopN_e hr2
   cbv
   refine kj ?_
   replace h := br_e h; obtain ⟨hb, h⟩ | ⟨hb, h⟩ := h
   ·refine cdT hb ?_; cbv
    refine kj ?_
    replace h := ck_e h; obtain ⟨c7, h⟩ := h; refine ⟨c7, ?_⟩
    refine kj ?_
    replace h := bd_e h; obtain ⟨w8, hw8, h⟩ := h
    refine CallK.mem 63 rfl rfl [(1000, 0)] _ _ _ _ (fun _ => PFunM.to hP (hqr123 _ _ _ hw8)) (by rfl) (fun _ => ez) ez (by rfl) (by rfl) ?_
    cbv
    replace h := ck_e h; obtain ⟨c9, h⟩ := h; refine ⟨c9, ?_⟩
    refine kj ?_
    cases h
    exact hK2 _ ⟨(n2, _), hv2⟩ [(4060, 65, g2.succ.succ)] (Nat.lt_succ_self _) hdy
   ·refine cdF hb ?_; cbv
    replace h := rt_e h; obtain ⟨_, h, rfl⟩ := h
    cases hv2; refine hQ2 _ _ ?_; cbv
    refine kj ?_
    replace h := bd_e h; obtain ⟨w10, hw10, h⟩ := h
    refine CallK.mem 72 rfl rfl [(1000, 0)] _ _ _ _ (fun _ => PFunM.to hP (config_bind_ok hA hw10)) (by rfl) (fun _ => ez) ez (by rfl) (by rfl) ?_
    cbv
    replace h := ck_e h; obtain ⟨c11, h⟩ := h; refine ⟨c11, ?_⟩
    replace h := bd_e h; obtain ⟨w12, hw12, h⟩ := h
    refine CallK.mem 75 rfl rfl [(1000, 0)] _ _ _ _ (fun _ => PFunM.to hP (config_bind_ok hA hw12)) (by rfl) (fun _ => ez) ez (by rfl) (by rfl) ?_
    cbv
    cases h
    refine hR _ _ ⟨[], ⟨by rfl, ez, by rfl, ez⟩⟩
  ·refine cdF hb ?_; cbv
   iterate 2 refine kj ?_
   replace h := Loop_e h; obtain ⟨n3, hl3⟩ := h
   refine LoopK.q (X := Runs (config_route_S_B2 A rf x1 t5) _) (fun x gh => [(11, .os 4090 gh TyS.str x.1.2.1), (56, it IntKind.i64 x.1.2.2.1)]) (fun x gh => [⟨4090, gh, .tok 9 TyS.str (A.nlen TyS.str x.1.2.1)⟩, ⟨1000, 0, .box 4 [bl x.1.2.2.2]⟩, ⟨3, 2, .box 27 [PV.d (D.v (Value.string x1.1)), PV.d (D.sl TyS.matcher x1.2), PV.d (D.sl TyS.str x1.3), PV.d (D.v (Value.int IntKind.i64 x1.4)), PV.d (D.v (Value.int IntKind.i64 x1.5)), PV.d (D.v (Value.int IntKind.i64 x1.6)), PV.d (D.sl TyS.str x1.7), PV.d (D.v (Value.bool x1.8)), PV.d (D.sl TyS.route x1.9)]⟩, ⟨4030, gh1, Cell.tok 9 TyS.str (A.nlen TyS.str t5)⟩, ⟨35, 4, Cell.tok 3 TyS.int (A.nlen TyS.int [x1.4, x1.5, x1.6])⟩]) (fun x => x.1.1) ⟨(n3, _), hl3⟩ [] hdz ?_
   rintro ⟨⟨n3, t11, t56, b0_1000⟩, hr3⟩ gh3 g3 K3 Q3 hK3 hQ3
   obtain _ | n3 := n3
   ·exact (LoopN_z hr3).elim
   obtain ⟨v3, h, hv3⟩ := LoopN_e hr3
   cbv
   refine kj ?_
   replace h := br_e h; obtain ⟨hb, h⟩ | ⟨hb, h⟩ := h
   ·refine cdT hb ?_; cbv
    refine kj ?_
    replace h := ck_e h; obtain ⟨c13, h⟩ := h; refine ⟨c13, ?_⟩
    refine kj ?_
    replace h := bd_e h; obtain ⟨w14, hw14, h⟩ := h
    refine CallK.mem 63 rfl rfl [(1000, 0)] _ _ _ _ (fun _ => PFunM.to hP (hqr123 _ _ _ hw14)) (by rfl) (fun _ => ez) ez (by rfl) (by rfl) ?_
    cbv
    replace h := ck_e h; obtain ⟨c15, h⟩ := h; refine ⟨c15, ?_⟩
    refine kj ?_
    cases h
    exact hK3 _ ⟨(n3, _), hv3⟩ [(4090, 65, g3.succ.succ)] (Nat.lt_succ_self _) hdy
   ·refine cdF hb ?_; cbv
    replace h := rt_e h; obtain ⟨_, h, rfl⟩ := h
    cases hv3; refine hQ3 _ _ ?_; cbv
    refine kj ?_
    replace h := bd_e h; obtain ⟨w16, hw16, h⟩ := h
    refine CallK.mem 72 rfl rfl [(1000, 0)] _ _ _ _ (fun _ => PFunM.to hP (config_bind_ok hA hw16)) (by rfl) (fun _ => ez) ez (by rfl) (by rfl) ?_
    cbv
    replace h := ck_e h; obtain ⟨c17, h⟩ := h; refine ⟨c17, ?_⟩
    replace h := bd_e h; obtain ⟨w18, hw18, h⟩ := h
    refine CallK.mem 75 rfl rfl [(1000, 0)] _ _ _ _ (fun _ => PFunM.to hP (config_bind_ok hA hw18)) (by rfl) (fun _ => ez) ez (by rfl) (by rfl) ?_
    cbv
    cases h
    refine hR _ _ ⟨[], ⟨by rfl, ez, by rfl, ez⟩⟩
theorem config_route_N_ok {A : Ar} (hA : A = std) : ∀ (n : Nat) (x0 : Bool) (x1 : Route) (r : ByteArray × Bool), config_route_N A n x0 x1 = some r → PFunM cx 123 [.bx 1000 0 0, routePV x1] [⟨1000, 0, .box 4 [bl x0]⟩] (st r.1) [⟨1000, 0, .box 4 [bl r.2]⟩]
 | 0, _, _, _, h => by cases h
 | n + 1, x0, x1, r, h => config_route_S_ok hA (fun _ _ _ hh => config_route_N_ok hA n _ _ _ hh) h
theorem config_route_ok {A : Ar} (hA : A = std) {x0 : Bool} {x1 : Route} {r : ByteArray × Bool} (h : config_route A x0 x1 = some r) : PFunM cx 123 [.bx 1000 0 0, routePV x1] [⟨1000, 0, .box 4 [bl x0]⟩] (st r.1) [⟨1000, 0, .box 4 [bl r.2]⟩] := config_route_N_ok hA _ _ _ _ h
theorem config_Text_ok {A : Ar} (hA : A = std) {x0 : Config} {r : ByteArray × Int} (h : config_Text A x0 = some r) : PFun cx 37 [configPV x0] ((fun r : ByteArray × Int => (.tu [st r.1, it .i64 r.2] : PV)) r) := by
 refine PFun.walkF (fz := fun _ => false) hA cx_ok Tryz.func37 rfl rfl rfl fun P R hP hR => ?_
 cbv
 unfold config_Text at h
 iterate 2 refine kj ?_
 replace h := bd_e h; obtain ⟨w1, hw1, h⟩ := h
 refine CallK.mk _ (by rfl) (fun _ => PFun.to hP (config_Normal_ok hA hw1)) ?_
 cbv
 refine kj ?_
 replace h := br_e h; obtain ⟨hb, h⟩ | ⟨hb, h⟩ := h
 ·refine cdT hb ?_; cbv
  refine kj ?_
  cases h; subst hR; exact ey
 ·refine cdF hb ?_; cbv
  iterate 3 refine kj ?_
  replace h := Loop_e h; obtain ⟨n1, hl1⟩ := h
  refine LoopK.q (X := Runs (config_Text_B3 A w1) _) (fun x gh => [(7, .os 4030 gh TyS.str x.1.2.1), (32, it IntKind.i64 x.1.2.2)]) (fun x gh => [⟨4030, gh, .tok 9 TyS.str (A.nlen TyS.str x.1.2.1)⟩, ⟨6, 3, .box 4 [PV.d (D.v (Value.bool false))]⟩, ⟨4, 1, .box 31 [PV.d (D.sl TyS.rule w1.1.1), PV.d (D.v (Value.string w1.1.2.1)), PV.d (D.sl TyS.matcher w1.1.2.2), PV.d (D.sl TyS.str w1.1.2.3), PV.d (D.v (Value.int IntKind.i64 w1.1.2.4)), PV.d (D.v (Value.int IntKind.i64 w1.1.2.5)), PV.d (D.v (Value.int IntKind.i64 w1.1.2.6)), PV.d (D.sl TyS.str w1.1.2.7), PV.d (D.v (Value.bool w1.1.2.8)), PV.d (D.sl TyS.route w1.1.2.9), PV.d (D.sl TyS.str w1.1.3), PV.d (D.sl TyS.inhibit w1.1.4), PV.d (D.sl TyS.hours w1.1.5)]⟩, ⟨1, 0, .box 31 [PV.d (D.sl TyS.rule x0.1), PV.d (D.v (Value.string x0.2.1)), PV.d (D.sl TyS.matcher x0.2.2), PV.d (D.sl TyS.str x0.2.3), PV.d (D.v (Value.int IntKind.i64 x0.2.4)), PV.d (D.v (Value.int IntKind.i64 x0.2.5)), PV.d (D.v (Value.int IntKind.i64 x0.2.6)), PV.d (D.sl TyS.str x0.2.7), PV.d (D.v (Value.bool x0.2.8)), PV.d (D.sl TyS.route x0.2.9), PV.d (D.sl TyS.str x0.3), PV.d (D.sl TyS.inhibit x0.4), PV.d (D.sl TyS.hours x0.5)]⟩]) (fun x => x.1.1) ⟨(n1, _), hl1⟩ [] hdz ?_
  rintro ⟨⟨n1, t7, t32⟩, hr1⟩ gh1 g1 K1 Q1 hK1 hQ1
  obtain _ | n1 := n1
  ·exact (LoopN_z hr1).elim
  obtain ⟨v1, h, hv1⟩ := LoopN_e hr1
  cbv
  refine kj ?_
  replace h := br_e h; obtain ⟨hb, h⟩ | ⟨hb, h⟩ := h
  ·refine cdT hb ?_; cbv
   refine kj ?_
   replace h := ck_e h; obtain ⟨c2, h⟩ := h; refine ⟨c2, ?_⟩
   refine kj ?_
   replace h := bd_e h; obtain ⟨w3, hw3, h⟩ := h
   refine CallK.mk _ (by rfl) (fun _ => PFun.to hP (rules_Words_ok hA hw3)) ?_
   cbv
   refine kj ?_
   replace h := ck_e h; obtain ⟨c4, h⟩ := h; refine ⟨c4, ?_⟩
   refine kj ?_
   cases h
   exact hK1 _ ⟨(n1, _), hv1⟩ [(4030, 43, g1.succ.succ.succ)] (Nat.lt_succ_self _) hdy
  ·refine cdF hb ?_; cbv
   replace h := rt_e h; obtain ⟨_, h, rfl⟩ := h
   cases hv1; refine hQ1 _ _ ?_; cbv
   refine kj ?_
   replace h := Loop_e h; obtain ⟨n2, hl2⟩ := h
   refine LoopK.q (X := Runs (config_Text_B2 A w1 t7) _) (fun x gh => [(8, .os 4060 gh TyS.str x.1.2.1), (48, it IntKind.i64 x.1.2.2)]) (fun x gh => [⟨4060, gh, .tok 9 TyS.str (A.nlen TyS.str x.1.2.1)⟩, ⟨6, 3, .box 4 [PV.d (D.v (Value.bool false))]⟩, ⟨4, 1, .box 31 [PV.d (D.sl TyS.rule w1.1.1), PV.d (D.v (Value.string w1.1.2.1)), PV.d (D.sl TyS.matcher w1.1.2.2), PV.d (D.sl TyS.str w1.1.2.3), PV.d (D.v (Value.int IntKind.i64 w1.1.2.4)), PV.d (D.v (Value.int IntKind.i64 w1.1.2.5)), PV.d (D.v (Value.int IntKind.i64 w1.1.2.6)), PV.d (D.sl TyS.str w1.1.2.7), PV.d (D.v (Value.bool w1.1.2.8)), PV.d (D.sl TyS.route w1.1.2.9), PV.d (D.sl TyS.str w1.1.3), PV.d (D.sl TyS.inhibit w1.1.4), PV.d (D.sl TyS.hours w1.1.5)]⟩, ⟨1, 0, .box 31 [PV.d (D.sl TyS.rule x0.1), PV.d (D.v (Value.string x0.2.1)), PV.d (D.sl TyS.matcher x0.2.2), PV.d (D.sl TyS.str x0.2.3), PV.d (D.v (Value.int IntKind.i64 x0.2.4)), PV.d (D.v (Value.int IntKind.i64 x0.2.5)), PV.d (D.v (Value.int IntKind.i64 x0.2.6)), PV.d (D.sl TyS.str x0.2.7), PV.d (D.v (Value.bool x0.2.8)), PV.d (D.sl TyS.route x0.2.9), PV.d (D.sl TyS.str x0.3), PV.d (D.sl TyS.inhibit x0.4), PV.d (D.sl TyS.hours x0.5)]⟩, ⟨4030, gh1, Cell.tok 9 TyS.str (A.nlen TyS.str t7)⟩]) (fun x => x.1.1) ⟨(n2, _), hl2⟩ [] hdz ?_
   rintro ⟨⟨n2, t8, t48⟩, hr2⟩ gh2 g2 K2 Q2 hK2 hQ2
   obtain _ | n2 := n2
   ·exact (LoopN_z hr2).elim
   obtain ⟨v2, h, hv2⟩ := LoopN_e hr2
   cbv
   refine kj ?_
   replace h := br_e h; obtain ⟨hb, h⟩ | ⟨hb, h⟩ := h
   ·refine cdT hb ?_; cbv
    refine kj ?_
    replace h := ck_e h; obtain ⟨c5, h⟩ := h; refine ⟨c5, ?_⟩
    refine kj ?_
    replace h := bd_e h; obtain ⟨w6, hw6, h⟩ := h
    refine CallK.mk _ (by rfl) (fun _ => PFun.to hP (hours_Text_ok hA hw6)) ?_
    cbv
    refine kj ?_
    replace h := ck_e h; obtain ⟨c7, h⟩ := h; refine ⟨c7, ?_⟩
    refine kj ?_
    cases h
    exact hK2 _ ⟨(n2, _), hv2⟩ [(4060, 62, g2.succ.succ.succ)] (Nat.lt_succ_self _) hdy
   ·refine cdF hb ?_; cbv
    replace h := rt_e h; obtain ⟨_, h, rfl⟩ := h
    cases hv2; refine hQ2 _ _ ?_; cbv
    refine kj ?_
    replace h := Loop_e h; obtain ⟨n3, hl3⟩ := h
    refine LoopK.q (X := Runs (config_Text_B1 A w1 t7 t8) _) (fun x gh => [(9, .os 4090 gh TyS.str x.1.2.1), (67, it IntKind.i64 x.1.2.2.1)]) (fun x gh => [⟨4090, gh, .tok 9 TyS.str (A.nlen TyS.str x.1.2.1)⟩, ⟨6, 3, .box 4 [bl x.1.2.2.2]⟩, ⟨4, 1, .box 31 [PV.d (D.sl TyS.rule w1.1.1), PV.d (D.v (Value.string w1.1.2.1)), PV.d (D.sl TyS.matcher w1.1.2.2), PV.d (D.sl TyS.str w1.1.2.3), PV.d (D.v (Value.int IntKind.i64 w1.1.2.4)), PV.d (D.v (Value.int IntKind.i64 w1.1.2.5)), PV.d (D.v (Value.int IntKind.i64 w1.1.2.6)), PV.d (D.sl TyS.str w1.1.2.7), PV.d (D.v (Value.bool w1.1.2.8)), PV.d (D.sl TyS.route w1.1.2.9), PV.d (D.sl TyS.str w1.1.3), PV.d (D.sl TyS.inhibit w1.1.4), PV.d (D.sl TyS.hours w1.1.5)]⟩, ⟨1, 0, .box 31 [PV.d (D.sl TyS.rule x0.1), PV.d (D.v (Value.string x0.2.1)), PV.d (D.sl TyS.matcher x0.2.2), PV.d (D.sl TyS.str x0.2.3), PV.d (D.v (Value.int IntKind.i64 x0.2.4)), PV.d (D.v (Value.int IntKind.i64 x0.2.5)), PV.d (D.v (Value.int IntKind.i64 x0.2.6)), PV.d (D.sl TyS.str x0.2.7), PV.d (D.v (Value.bool x0.2.8)), PV.d (D.sl TyS.route x0.2.9), PV.d (D.sl TyS.str x0.3), PV.d (D.sl TyS.inhibit x0.4), PV.d (D.sl TyS.hours x0.5)]⟩, ⟨4060, gh2, Cell.tok 9 TyS.str (A.nlen TyS.str t8)⟩, ⟨4030, gh1, Cell.tok 9 TyS.str (A.nlen TyS.str t7)⟩]) (fun x => x.1.1) ⟨(n3, _), hl3⟩ [] hdz ?_
    rintro ⟨⟨n3, t9, t67, b0_6⟩, hr3⟩ gh3 g3 K3 Q3 hK3 hQ3
    obtain _ | n3 := n3
    ·exact (LoopN_z hr3).elim
    obtain ⟨v3, h, hv3⟩ := LoopN_e hr3
    cbv
    refine kj ?_
    replace h := br_e h; obtain ⟨hb, h⟩ | ⟨hb, h⟩ := h
    ·refine cdT hb ?_; cbv
     refine kj ?_
     replace h := ck_e h; obtain ⟨c8, h⟩ := h; refine ⟨c8, ?_⟩
     refine kj ?_
     replace h := bd_e h; obtain ⟨w9, hw9, h⟩ := h
     refine CallK.mem 73 rfl rfl [(6, 3)] _ _ _ _ (fun _ => PFunM.to hP (config_inhibit_ok hA hw9)) (by rfl) (fun _ => ez) ez (by rfl) (by rfl) ?_
     cbv
     replace h := ck_e h; obtain ⟨c10, h⟩ := h; refine ⟨c10, ?_⟩
     refine kj ?_
     cases h
     exact hK3 _ ⟨(n3, _), hv3⟩ [(4090, 75, g3.succ.succ)] (Nat.lt_succ_self _) hdy
    ·refine cdF hb ?_; cbv
     replace h := rt_e h; obtain ⟨_, h, rfl⟩ := h
     cases hv3; refine hQ3 _ _ ?_; cbv
     refine kj ?_
     replace h := bd_e h; obtain ⟨w11, hw11, h⟩ := h
     refine CallK.mem 78 rfl rfl [(6, 3)] _ _ _ _ (fun _ => PFunM.to hP (config_bind_ok hA hw11)) (by rfl) (fun _ => ez) ez (by rfl) (by rfl) ?_
     cbv
     replace h := bd_e h; obtain ⟨w12, hw12, h⟩ := h
     refine CallK.mem 81 rfl rfl [(6, 3)] _ _ _ _ (fun _ => PFunM.to hP (config_bind_ok hA hw12)) (by rfl) (fun _ => ez) ez (by rfl) (by rfl) ?_
     cbv
     replace h := bd_e h; obtain ⟨w13, hw13, h⟩ := h
     refine CallK.mem 83 rfl rfl [(6, 3)] _ _ _ _ (fun _ => PFunM.to hP (config_bind_ok hA hw13)) (by rfl) (fun _ => ez) ez (by rfl) (by rfl) ?_
     cbv
     replace h := bd_e h; obtain ⟨w14, hw14, h⟩ := h
     refine CallK.mem 85 rfl rfl [(6, 3)] _ _ _ _ (fun _ => PFunM.to hP (config_bind_ok hA hw14)) (by rfl) (fun _ => ez) ez (by rfl) (by rfl) ?_
     cbv
     replace h := bd_e h; obtain ⟨w15, hw15, h⟩ := h
     refine CallK.mem 88 rfl rfl [(6, 3)] _ _ _ _ (fun _ => PFunM.to hP (config_route_ok hA hw15)) (by rfl) (fun _ => ez) ez (by rfl) (by rfl) ?_
     cbv
     replace h := bd_e h; obtain ⟨w16, hw16, h⟩ := h
     refine CallK.mem 90 rfl rfl [(6, 3)] _ _ _ _ (fun _ => PFunM.to hP (config_bind_ok hA hw16)) (by rfl) (fun _ => ez) ez (by rfl) (by rfl) ?_
     cbv
     iterate 2 refine kj ?_
     replace h := br_e h; obtain ⟨hb, h⟩ | ⟨hb, h⟩ := h
     ·refine cdT hb ?_; cbv
      refine kj ?_
      cases h; subst hR; exact ey
     ·refine cdF hb ?_; cbv
      refine kj ?_
      cases h; subst hR; exact ey
theorem transhipmentref01_Same_ok {A : Ar} (hA : A = std) {x0 : List ByteArray} {x1 : List ByteArray} {r : Bool} (h : transhipmentref01_Same A x0 x1 = some r) : PFun cx 30 [.d (.sl TyS.str x0), .d (.sl TyS.str x1)] ((fun r : Bool => (bl r : PV)) r) := by
 refine PFun.walkF (fz := fun _ => false) hA cx_ok Tryz.func30 rfl rfl rfl fun P R hP hR => ?_
 cbv
 unfold transhipmentref01_Same at h
 iterate 2 refine kj ?_
 replace h := br_e h; obtain ⟨hb, h⟩ | ⟨hb, h⟩ := h
 ·refine cdT hb ?_; cbv
  refine kj ?_
  cases h; subst hR; exact ey
 ·refine cdF hb ?_; cbv
  refine kj ?_
  replace h := Loop_e h; obtain ⟨n1, hl1⟩ := h
  refine LoopK.q (X := Runs (transhipmentref01_Same_B1 A x0 x1) _) (fun x gh => [(13, it IntKind.i64 x.1.2)]) (fun x gh => []) (fun x => x.1.1) ⟨(n1, _), hl1⟩ [] hdz ?_
  rintro ⟨⟨n1, t13⟩, hr1⟩ gh1 g1 K1 Q1 hK1 hQ1
  obtain _ | n1 := n1
  ·exact (LoopN_z hr1).elim
  obtain ⟨v1, h, hv1⟩ := LoopN_e hr1
  cbv
  refine kj ?_
  replace h := br_e h; obtain ⟨hb, h⟩ | ⟨hb, h⟩ := h
  ·refine cdT hb ?_; cbv
   iterate 2 refine kj ?_
   replace h := ck_e h; obtain ⟨c1, h⟩ := h; refine ⟨c1, ?_⟩
   replace h := ck_e h; obtain ⟨c2, h⟩ := h; refine ⟨c2, ?_⟩
   refine kj ?_
   replace h := br_e h; obtain ⟨hb, h⟩ | ⟨hb, h⟩ := h
   ·refine cdT hb ?_; cbv
    refine kj ?_
    replace h := rt_e h; obtain ⟨_, h, rfl⟩ := h
    cases hv1; refine hQ1 _ _ ?_; cbv
    cases h; subst hR; exact ey
   ·refine cdF hb ?_; cbv
    refine kj ?_
    cases h
    exact hK1 _ ⟨(n1, _), hv1⟩ [] (Nat.lt_succ_self _) hdy
  ·refine cdF hb ?_; cbv
   replace h := rt_e h; obtain ⟨_, h, rfl⟩ := h
   cases hv1; refine hQ1 _ _ ?_; cbv
   refine kj ?_
   cases h; subst hR; exact ey
theorem transhipmentref03_Same_ok {A : Ar} (hA : A = std) {x0 : List Label} {x1 : List Label} {r : Bool} (h : transhipmentref03_Same A x0 x1 = some r) : PFun cx 173 [.d (.sl TyS.label x0), .d (.sl TyS.label x1)] ((fun r : Bool => (bl r : PV)) r) := by
 refine PFun.walkF (fz := fun _ => false) hA cx_ok Tryz.func173 rfl rfl rfl fun P R hP hR => ?_
 cbv
 unfold transhipmentref03_Same at h
 iterate 2 refine kj ?_
 replace h := br_e h; obtain ⟨hb, h⟩ | ⟨hb, h⟩ := h
 ·refine cdT hb ?_; cbv
  refine kj ?_
  cases h; subst hR; exact ey
 ·refine cdF hb ?_; cbv
  refine kj ?_
  replace h := Loop_e h; obtain ⟨n1, hl1⟩ := h
  refine LoopK.q (X := Runs (transhipmentref03_Same_B1 A x0 x1) _) (fun x gh => [(13, it IntKind.i64 x.1.2)]) (fun x gh => []) (fun x => x.1.1) ⟨(n1, _), hl1⟩ [] hdz ?_
  rintro ⟨⟨n1, t13⟩, hr1⟩ gh1 g1 K1 Q1 hK1 hQ1
  obtain _ | n1 := n1
  ·exact (LoopN_z hr1).elim
  obtain ⟨v1, h, hv1⟩ := LoopN_e hr1
  cbv
  refine kj ?_
  replace h := br_e h; obtain ⟨hb, h⟩ | ⟨hb, h⟩ := h
  ·refine cdT hb ?_; cbv
   iterate 2 refine kj ?_
   replace h := ck_e h; obtain ⟨c1, h⟩ := h; refine ⟨c1, ?_⟩
   replace h := ck_e h; obtain ⟨c2, h⟩ := h; refine ⟨c2, ?_⟩
   refine kj ?_
   replace h := br_e h; obtain ⟨hb, h⟩ | ⟨hb, h⟩ := h
   ·refine cdT hb ?_; cbv
    refine kj ?_
    replace h := rt_e h; obtain ⟨_, h, rfl⟩ := h
    cases hv1; refine hQ1 _ _ ?_; cbv
    cases h; subst hR; exact ey
   ·refine cdF hb ?_; cbv
    refine kj ?_
    cases h
    exact hK1 _ ⟨(n1, _), hv1⟩ [] (Nat.lt_succ_self _) hdy
  ·refine cdF hb ?_; cbv
   replace h := rt_e h; obtain ⟨_, h, rfl⟩ := h
   cases hv1; refine hQ1 _ _ ?_; cbv
   refine kj ?_
   cases h; subst hR; exact ey
theorem transhipmentref08_Like_ok {A : Ar} (hA : A = std) {x0 : Rule} {x1 : Rule} {r : Bool} (h : transhipmentref08_Like A x0 x1 = some r) : PFun cx 82 [rulePV x0, rulePV x1] ((fun r : Bool => (bl r : PV)) r) := by
 refine PFun.walkF (fz := fun _ => false) hA cx_ok Tryz.func82 rfl rfl rfl fun P R hP hR => ?_
 cbv
 unfold transhipmentref08_Like at h
 iterate 2 refine kj ?_
 iterate 48 refine cj ?_
 replace h := bd_e h; obtain ⟨w1, hw1, h⟩ := h
 refine CallK.mk _ (by rfl) (fun hc => PFun.to hP (transhipmentref03_Same_ok hA (gd_e hw1 hc))) ?_
 cbv
 refine cj ?_
 cases h; subst hR; exact ey
theorem transhipmentref04_Sign_ok {A : Ar} (hA : A = std) {x0 : Int} {r : ByteArray} (h : transhipmentref04_Sign A x0 = some r) : PFun cx 296 [it .i64 x0] ((fun r : ByteArray => (st r : PV)) r) := by
 refine PFun.walkF (fz := fun _ => false) hA cx_ok Tryz.func296 rfl rfl rfl fun P R hP hR => ?_
 cbv
 unfold transhipmentref04_Sign at h
 iterate 2 refine kj ?_
 replace h := ck_e h; obtain ⟨c1, h⟩ := h; refine ⟨c1, ?_⟩
 cases h; subst hR; exact ey
theorem transhipmentref04_Text_ok {A : Ar} (hA : A = std) {x0 : Matcher} {r : ByteArray} (h : transhipmentref04_Text A x0 = some r) : PFun cx 244 [matcherPV x0] ((fun r : ByteArray => (st r : PV)) r) := by
 refine PFun.walkF (fz := fun _ => false) hA cx_ok Tryz.func244 rfl rfl rfl fun P R hP hR => ?_
 cbv
 unfold transhipmentref04_Text at h
 iterate 2 refine kj ?_
 replace h := bd_e h; obtain ⟨w1, hw1, h⟩ := h
 refine CallK.mk _ (by rfl) (fun _ => PFun.to hP (transhipmentref04_Sign_ok hA hw1)) ?_
 cbv
 replace h := ck_e h; obtain ⟨c2, h⟩ := h; refine ⟨c2, ?_⟩
 replace h := ck_e h; obtain ⟨c3, h⟩ := h; refine ⟨c3, ?_⟩
 iterate 2 refine kj ?_
 replace h := Loop_e h; obtain ⟨n1, hl1⟩ := h
 refine LoopK.q (X := Runs (transhipmentref04_Text_B1 A x0) _) (fun x gh => [(3, st x.1.2.1), (16, it IntKind.i64 x.1.2.2)]) (fun x gh => [⟨1, 0, .box 105 [PV.d (D.v (Value.string x0.1)), PV.d (D.v (Value.int IntKind.i64 x0.2)), PV.d (D.sl TyS.str x0.3)]⟩]) (fun x => x.1.1) ⟨(n1, _), hl1⟩ [] hdz ?_
 rintro ⟨⟨n1, out3, t16⟩, hr1⟩ gh1 g1 K1 Q1 hK1 hQ1
 obtain _ | n1 := n1
 ·exact (LoopN_z hr1).elim
 obtain ⟨v1, h, hv1⟩ := LoopN_e hr1
 cbv
 refine kj ?_
 replace h := br_e h; obtain ⟨hb, h⟩ | ⟨hb, h⟩ := h
 ·refine cdT hb ?_; cbv
  refine kj ?_
  replace h := ck_e h; obtain ⟨c4, h⟩ := h; refine ⟨c4, ?_⟩
  refine kj ?_
  replace h := br_e h; obtain ⟨hb, h⟩ | ⟨hb, h⟩ := h
  ·refine cdT hb ?_; cbv
   refine kj ?_
   replace h := ck_e h; obtain ⟨c5, h⟩ := h; refine ⟨c5, ?_⟩
   refine kj ?_
   replace h := ck_e h; obtain ⟨c6, h⟩ := h; refine ⟨c6, ?_⟩
   refine kj ?_
   cases h
   exact hK1 _ ⟨(n1, _), hv1⟩ [] (Nat.lt_succ_self _) hdy
  ·refine cdF hb ?_; cbv
   refine kj ?_
   replace h := ck_e h; obtain ⟨c7, h⟩ := h; refine ⟨c7, ?_⟩
   refine kj ?_
   cases h
   exact hK1 _ ⟨(n1, _), hv1⟩ [] (Nat.lt_succ_self _) hdy
 ·refine cdF hb ?_; cbv
  replace h := rt_e h; obtain ⟨_, h, rfl⟩ := h
  cases hv1; refine hQ1 _ _ ?_; cbv
  refine kj ?_
  replace h := ck_e h; obtain ⟨c8, h⟩ := h; refine ⟨c8, ?_⟩
  cases h; subst hR; exact ey
theorem transhipmentref01_Number_ok {A : Ar} (hA : A = std) {x0 : Int} {r : ByteArray} (h : transhipmentref01_Number A x0 = some r) : PFun cx 125 [it .i64 x0] ((fun r : ByteArray => (st r : PV)) r) := by
 refine PFun.walkF (fz := fun _ => false) hA cx_ok Tryz.func125 rfl rfl rfl fun P R hP hR => ?_
 cbv
 unfold transhipmentref01_Number at h
 iterate 2 refine kj ?_
 replace h := Loop_e h; obtain ⟨n1, hl1⟩ := h
 refine LoopK.q (X := Runs (transhipmentref01_Number_B1 A) _) (fun x gh => [(0, it IntKind.i64 x.1.2.1), (3, .os 4031 gh TyS.byte x.1.2.2)]) (fun x gh => [⟨4031, gh, .tok 5 TyS.byte (A.nlen TyS.byte x.1.2.2)⟩]) (fun x => x.1.1) ⟨(n1, _), hl1⟩ [(4031, 4, 1)] hdz ?_
 rintro ⟨⟨n1, n0, b3⟩, hr1⟩ gh1 g1 K1 Q1 hK1 hQ1
 obtain _ | n1 := n1
 ·exact (LoopN_z hr1).elim
 obtain ⟨v1, h, hv1⟩ := LoopN_e hr1
 cbv
 refine kj ?_
 replace h := br_e h; obtain ⟨hb, h⟩ | ⟨hb, h⟩ := h
 ·refine cdT hb ?_; cbv
  refine kj ?_
  refine ⟨by subst hA; simp +contextual [vcm], ?_⟩
  refine and_assoc.2 ?_
  replace h := ck_e h; obtain ⟨c1, h⟩ := h; refine ⟨c1, ?_⟩
  refine cj ?_
  replace h := ck_e h; obtain ⟨c2, h⟩ := h; refine ⟨c2, ?_⟩
  refine kj ?_
  refine ⟨by subst hA; simp +contextual [vcm], ?_⟩
  cases h
  exact hK1 _ ⟨(n1, _), hv1⟩ [(4031, 13, g1.succ)] (Nat.lt_succ_self _) hdy
 ·refine cdF hb ?_; cbv
  replace h := rt_e h; obtain ⟨_, h, rfl⟩ := h
  cases hv1; refine hQ1 _ _ ?_; cbv
  refine kj ?_
  refine and_assoc.2 ?_
  replace h := ck_e h; obtain ⟨c3, h⟩ := h; refine ⟨c3, ?_⟩
  refine cj ?_
  replace h := ck_e h; obtain ⟨c4, h⟩ := h; refine ⟨c4, ?_⟩
  refine kj ?_
  cases h; subst hR; exact ey
theorem transhipmentref01_Bind_ok {A : Ar} (hA : A = std) {x0 : List ByteArray} {r : ByteArray} (h : transhipmentref01_Bind A x0 = some r) : PFun cx 40 [.d (.sl TyS.str x0)] ((fun r : ByteArray => (st r : PV)) r) := by
 refine PFun.walkF (fz := fun _ => false) hA cx_ok Tryz.func40 rfl rfl rfl fun P R hP hR => ?_
 cbv
 unfold transhipmentref01_Bind at h
 iterate 3 refine kj ?_
 replace h := Loop_e h; obtain ⟨n1, hl1⟩ := h
 refine LoopK.q (X := Runs (transhipmentref01_Bind_B1 A x0) _) (fun x gh => [(3, st x.1.2.1), (8, it IntKind.i64 x.1.2.2)]) (fun x gh => []) (fun x => x.1.1) ⟨(n1, _), hl1⟩ [] hdz ?_
 rintro ⟨⟨n1, out3, t8⟩, hr1⟩ gh1 g1 K1 Q1 hK1 hQ1
 obtain _ | n1 := n1
 ·exact (LoopN_z hr1).elim
 obtain ⟨v1, h, hv1⟩ := LoopN_e hr1
 cbv
 refine kj ?_
 replace h := br_e h; obtain ⟨hb, h⟩ | ⟨hb, h⟩ := h
 ·refine cdT hb ?_; cbv
  refine kj ?_
  replace h := ck_e h; obtain ⟨c1, h⟩ := h; refine ⟨c1, ?_⟩
  refine kj ?_
  replace h := bd_e h; obtain ⟨w2, hw2, h⟩ := h
  refine CallK.mk _ (by rfl) (fun _ => PFun.to hP (transhipmentref01_Number_ok hA hw2)) ?_
  cbv
  replace h := ck_e h; obtain ⟨c3, h⟩ := h; refine ⟨c3, ?_⟩
  replace h := ck_e h; obtain ⟨c4, h⟩ := h; refine ⟨c4, ?_⟩
  refine kj ?_
  cases h
  exact hK1 _ ⟨(n1, _), hv1⟩ [] (Nat.lt_succ_self _) hdy
 ·refine cdF hb ?_; cbv
  replace h := rt_e h; obtain ⟨_, h, rfl⟩ := h
  cases hv1; refine hQ1 _ _ ?_; cbv
  refine kj ?_
  cases h; subst hR; exact ey
theorem transhipmentref10_Matchers_ok {A : Ar} (hA : A = std) {x0 : List Matcher} {r : ByteArray} (h : transhipmentref10_Matchers A x0 = some r) : PFun cx 174 [.d (.sl TyS.matcher x0)] ((fun r : ByteArray => (st r : PV)) r) := by
 refine PFun.walkF (fz := fun _ => false) hA cx_ok Tryz.func174 rfl rfl rfl fun P R hP hR => ?_
 cbv
 unfold transhipmentref10_Matchers at h
 iterate 3 refine kj ?_
 replace h := Loop_e h; obtain ⟨n1, hl1⟩ := h
 refine LoopK.q (X := Runs (transhipmentref10_Matchers_B1 A x0) _) (fun x gh => [(3, .os 4030 gh TyS.str x.1.2.1), (9, it IntKind.i64 x.1.2.2)]) (fun x gh => [⟨4030, gh, .tok 9 TyS.str (A.nlen TyS.str x.1.2.1)⟩]) (fun x => x.1.1) ⟨(n1, _), hl1⟩ [(4030, 6, 1)] hdz ?_
 rintro ⟨⟨n1, out3, t9⟩, hr1⟩ gh1 g1 K1 Q1 hK1 hQ1
 obtain _ | n1 := n1
 ·exact (LoopN_z hr1).elim
 obtain ⟨v1, h, hv1⟩ := LoopN_e hr1
 cbv
 refine kj ?_
 replace h := br_e h; obtain ⟨hb, h⟩ | ⟨hb, h⟩ := h
 ·refine cdT hb ?_; cbv
  refine kj ?_
  replace h := ck_e h; obtain ⟨c1, h⟩ := h; refine ⟨c1, ?_⟩
  refine kj ?_
  replace h := bd_e h; obtain ⟨w2, hw2, h⟩ := h
  refine CallK.mk _ (by rfl) (fun _ => PFun.to hP (transhipmentref04_Text_ok hA hw2)) ?_
  cbv
  replace h := ck_e h; obtain ⟨c3, h⟩ := h; refine ⟨c3, ?_⟩
  refine kj ?_
  cases h
  exact hK1 _ ⟨(n1, _), hv1⟩ [(4030, 17, g1.succ.succ)] (Nat.lt_succ_self _) hdy
 ·refine cdF hb ?_; cbv
  replace h := rt_e h; obtain ⟨_, h, rfl⟩ := h
  cases hv1; refine hQ1 _ _ ?_; cbv
  refine kj ?_
  replace h := bd_e h; obtain ⟨w4, hw4, h⟩ := h
  refine CallK.mk _ (by rfl) (fun _ => PFun.to hP (transhipmentref01_Bind_ok hA hw4)) ?_
  cbv
  cases h; subst hR; exact ey
theorem transhipmentref10_Quiet_ok {A : Ar} (hA : A = std) {x0 : Inhibit} {r : ByteArray} (h : transhipmentref10_Quiet A x0 = some r) : PFun cx 83 [inhibitPV x0] ((fun r : ByteArray => (st r : PV)) r) := by
 refine PFun.walkF (fz := fun _ => false) hA cx_ok Tryz.func83 rfl rfl rfl fun P R hP hR => ?_
 cbv
 unfold transhipmentref10_Quiet at h
 iterate 2 refine kj ?_
 replace h := bd_e h; obtain ⟨w1, hw1, h⟩ := h
 refine CallK.mk _ (by rfl) (fun _ => PFun.to hP (transhipmentref10_Matchers_ok hA hw1)) ?_
 cbv
 replace h := bd_e h; obtain ⟨w2, hw2, h⟩ := h
 refine CallK.mk _ (by rfl) (fun _ => PFun.to hP (transhipmentref10_Matchers_ok hA hw2)) ?_
 cbv
 replace h := bd_e h; obtain ⟨w3, hw3, h⟩ := h
 refine CallK.mk _ (by rfl) (fun _ => PFun.to hP (transhipmentref01_Bind_ok hA hw3)) ?_
 cbv
 replace h := bd_e h; obtain ⟨w4, hw4, h⟩ := h
 refine CallK.mk _ (by rfl) (fun _ => PFun.to hP (transhipmentref01_Bind_ok hA hw4)) ?_
 cbv
 refine kj ?_
 cases h; subst hR; exact ey
theorem transhipmentref04_Like_ok {A : Ar} (hA : A = std) {x0 : Matcher} {x1 : Matcher} {r : Bool} (h : transhipmentref04_Like A x0 x1 = some r) : PFun cx 175 [matcherPV x0, matcherPV x1] ((fun r : Bool => (bl r : PV)) r) := by
 refine PFun.walkF (fz := fun _ => false) hA cx_ok Tryz.func175 rfl rfl rfl fun P R hP hR => ?_
 cbv
 unfold transhipmentref04_Like at h
 iterate 2 refine kj ?_
 iterate 13 refine cj ?_
 replace h := bd_e h; obtain ⟨w1, hw1, h⟩ := h
 refine CallK.mk _ (by rfl) (fun hc => PFun.to hP (transhipmentref01_Same_ok hA (gd_e hw1 hc))) ?_
 cbv
 refine cj ?_
 cases h; subst hR; exact ey
theorem transhipmentref09_Like_S_ok {A : Ar} (hA : A = std) {rf : Route → Route → Option Bool} {x0 : Route} {x1 : Route} (hqr84 : ∀ (x0 : Route) (x1 : Route) (r : Bool), rf x0 x1 = some r → PFun cx 84 [routePV x0, routePV x1] (bl r)) {r : Bool} (h : transhipmentref09_Like_S A rf x0 x1 = some r) : PFun cx 84 [routePV x0, routePV x1] ((fun r : Bool => (bl r : PV)) r) := by
 refine PFun.walkF (fz := fun _ => false) hA cx_ok Tryz.func84 rfl rfl rfl fun P R hP hR => ?_
 cbv
 unfold transhipmentref09_Like_S at h
 iterate 2 refine kj ?_
 iterate 46 refine cj ?_
 replace h := br_e h; obtain ⟨hb, h⟩ | ⟨hb, h⟩ := h
 ·refine cdT hb ?_; cbv
  refine kj ?_
  cases h; subst hR; exact ey
 ·refine cdF hb ?_; cbv
  refine kj ?_
  replace h := Loop_e h; obtain ⟨n1, hl1⟩ := h
  refine LoopK.q (X := Runs (transhipmentref09_Like_S_B2 A rf x0 x1) _) (fun x gh => [(61, it IntKind.i64 x.1.2)]) (fun x gh => [⟨3, 0, .box 27 [PV.d (D.v (Value.string x1.1)), PV.d (D.sl TyS.matcher x1.2), PV.d (D.sl TyS.str x1.3), PV.d (D.v (Value.int IntKind.i64 x1.4)), PV.d (D.v (Value.int IntKind.i64 x1.5)), PV.d (D.v (Value.int IntKind.i64 x1.6)), PV.d (D.sl TyS.str x1.7), PV.d (D.v (Value.bool x1.8)), PV.d (D.sl TyS.route x1.9)]⟩, ⟨2, 0, .box 27 [PV.d (D.v (Value.string x0.1)), PV.d (D.sl TyS.matcher x0.2), PV.d (D.sl TyS.str x0.3), PV.d (D.v (Value.int IntKind.i64 x0.4)), PV.d (D.v (Value.int IntKind.i64 x0.5)), PV.d (D.v (Value.int IntKind.i64 x0.6)), PV.d (D.sl TyS.str x0.7), PV.d (D.v (Value.bool x0.8)), PV.d (D.sl TyS.route x0.9)]⟩]) (fun x => x.1.1) ⟨(n1, _), hl1⟩ [] hdz ?_
  rintro ⟨⟨n1, t61⟩, hr1⟩ gh1 g1 K1 Q1 hK1 hQ1
  obtain _ | n1 := n1
  ·exact (LoopN_z hr1).elim
  obtain ⟨v1, h, hv1⟩ := LoopN_e hr1
  cbv
  refine kj ?_
  replace h := br_e h; obtain ⟨hb, h⟩ | ⟨hb, h⟩ := h
  ·refine cdT hb ?_; cbv
   iterate 2 refine kj ?_
   replace h := ck_e h; obtain ⟨c1, h⟩ := h; refine ⟨c1, ?_⟩
   replace h := ck_e h; obtain ⟨c2, h⟩ := h; refine ⟨c2, ?_⟩
   replace h := bd_e h; obtain ⟨w3, hw3, h⟩ := h
   refine CallK.mk _ (by rfl) (fun _ => PFun.to hP (transhipmentref04_Like_ok hA hw3)) ?_
   cbv
   refine kj ?_
   replace h := br_e h; obtain ⟨hb, h⟩ | ⟨hb, h⟩ := h
   ·refine cdT hb ?_; cbv
    refine kj ?_
    replace h := rt_e h; obtain ⟨_, h, rfl⟩ := h
    cases hv1; refine hQ1 _ _ ?_; cbv
    cases h; subst hR; exact ey
   ·refine cdF hb ?_; cbv
    refine kj ?_
    cases h
    exact hK1 _ ⟨(n1, _), hv1⟩ [] (Nat.lt_succ_self _) hdy
  ·refine cdF hb ?_; cbv
   replace h := rt_e h; obtain ⟨_, h, rfl⟩ := h
   cases hv1; refine hQ1 _ _ ?_; cbv
   refine kj ?_
   replace h := Loop_e h; obtain ⟨n2, hl2⟩ := h
   refine LoopK.q (X := Runs (transhipmentref09_Like_S_B1 A rf x0 x1) _) (fun x gh => [(80, it IntKind.i64 x.1.2)]) (fun x gh => [⟨3, 0, .box 27 [PV.d (D.v (Value.string x1.1)), PV.d (D.sl TyS.matcher x1.2), PV.d (D.sl TyS.str x1.3), PV.d (D.v (Value.int IntKind.i64 x1.4)), PV.d (D.v (Value.int IntKind.i64 x1.5)), PV.d (D.v (Value.int IntKind.i64 x1.6)), PV.d (D.sl TyS.str x1.7), PV.d (D.v (Value.bool x1.8)), PV.d (D.sl TyS.route x1.9)]⟩, ⟨2, 0, .box 27 [PV.d (D.v (Value.string x0.1)), PV.d (D.sl TyS.matcher x0.2), PV.d (D.sl TyS.str x0.3), PV.d (D.v (Value.int IntKind.i64 x0.4)), PV.d (D.v (Value.int IntKind.i64 x0.5)), PV.d (D.v (Value.int IntKind.i64 x0.6)), PV.d (D.sl TyS.str x0.7), PV.d (D.v (Value.bool x0.8)), PV.d (D.sl TyS.route x0.9)]⟩]) (fun x => x.1.1) ⟨(n2, _), hl2⟩ [] hdz ?_
   rintro ⟨⟨n2, t80⟩, hr2⟩ gh2 g2 K2 Q2 hK2 hQ2
   obtain _ | n2 := n2
   ·exact (LoopN_z hr2).elim
   obtain ⟨v2, h, hv2⟩ := LoopN_e hr2
   cbv
   refine kj ?_
   replace h := br_e h; obtain ⟨hb, h⟩ | ⟨hb, h⟩ := h
   ·refine cdT hb ?_; cbv
    iterate 2 refine kj ?_
    replace h := ck_e h; obtain ⟨c4, h⟩ := h; refine ⟨c4, ?_⟩
    replace h := ck_e h; obtain ⟨c5, h⟩ := h; refine ⟨c5, ?_⟩
    replace h := bd_e h; obtain ⟨w6, hw6, h⟩ := h
    refine CallK.mk _ (by rfl) (fun _ => PFun.to hP (hqr84 _ _ _ hw6)) ?_
    cbv
    refine kj ?_
    replace h := br_e h; obtain ⟨hb, h⟩ | ⟨hb, h⟩ := h
    ·refine cdT hb ?_; cbv
     refine kj ?_
     replace h := rt_e h; obtain ⟨_, h, rfl⟩ := h
     cases hv2; refine hQ2 _ _ ?_; cbv
     cases h; subst hR; exact ey
    ·refine cdF hb ?_; cbv
     refine kj ?_
     cases h
     exact hK2 _ ⟨(n2, _), hv2⟩ [] (Nat.lt_succ_self _) hdy
   ·refine cdF hb ?_; cbv
    replace h := rt_e h; obtain ⟨_, h, rfl⟩ := h
    cases hv2; refine hQ2 _ _ ?_; cbv
    refine kj ?_
    replace h := bd_e h; obtain ⟨w7, hw7, h⟩ := h
    refine CallK.mk _ (by rfl) (fun _ => PFun.to hP (transhipmentref01_Same_ok hA hw7)) ?_
    cbv
    iterate 6 refine cj ?_
    replace h := bd_e h; obtain ⟨w8, hw8, h⟩ := h
    refine CallK.mk _ (by rfl) (fun hc => PFun.to hP (transhipmentref01_Same_ok hA (gd_e hw8 hc))) ?_
    cbv
    refine cj ?_
    cases h; subst hR; exact ey
theorem transhipmentref09_Like_N_ok {A : Ar} (hA : A = std) : ∀ (n : Nat) (x0 : Route) (x1 : Route) (r : Bool), transhipmentref09_Like_N A n x0 x1 = some r → PFun cx 84 [routePV x0, routePV x1] (bl r)
 | 0, _, _, _, h => by cases h
 | n + 1, x0, x1, r, h => transhipmentref09_Like_S_ok hA (fun _ _ _ hh => transhipmentref09_Like_N_ok hA n _ _ _ hh) h
theorem transhipmentref09_Like_ok {A : Ar} (hA : A = std) {x0 : Route} {x1 : Route} {r : Bool} (h : transhipmentref09_Like A x0 x1 = some r) : PFun cx 84 [routePV x0, routePV x1] (bl r) := transhipmentref09_Like_N_ok hA _ _ _ _ h
theorem transhipmentref10_Like_ok {A : Ar} (hA : A = std) {x0 : Config} {x1 : Config} {r : Bool} (h : transhipmentref10_Like A x0 x1 = some r) : PFun cx 18 [configPV x0, configPV x1] ((fun r : Bool => (bl r : PV)) r) := by
 refine PFun.walkF (fz := fun _ => false) hA cx_ok Tryz.func18 rfl rfl rfl fun P R hP hR => ?_
 cbv
 unfold transhipmentref10_Like at h
 iterate 2 refine kj ?_
 iterate 24 refine cj ?_
 replace h := bd_e h; obtain ⟨w1, hw1, h⟩ := h
 refine CallK.mk _ (by rfl) (fun hc => PFun.to hP (transhipmentref01_Same_ok hA (gd_e hw1 hc))) ?_
 cbv
 iterate 2 refine cj ?_
 replace h := br_e h; obtain ⟨hb, h⟩ | ⟨hb, h⟩ := h
 ·refine cdT hb ?_; cbv
  refine kj ?_
  cases h; subst hR; exact ey
 ·refine cdF hb ?_; cbv
  refine kj ?_
  replace h := Loop_e h; obtain ⟨n1, hl1⟩ := h
  refine LoopK.q (X := Runs (transhipmentref10_Like_B3 A x0 x1) _) (fun x gh => [(44, it IntKind.i64 x.1.2)]) (fun x gh => [⟨3, 0, .box 31 [PV.d (D.sl TyS.rule x1.1), PV.d (D.v (Value.string x1.2.1)), PV.d (D.sl TyS.matcher x1.2.2), PV.d (D.sl TyS.str x1.2.3), PV.d (D.v (Value.int IntKind.i64 x1.2.4)), PV.d (D.v (Value.int IntKind.i64 x1.2.5)), PV.d (D.v (Value.int IntKind.i64 x1.2.6)), PV.d (D.sl TyS.str x1.2.7), PV.d (D.v (Value.bool x1.2.8)), PV.d (D.sl TyS.route x1.2.9), PV.d (D.sl TyS.str x1.3), PV.d (D.sl TyS.inhibit x1.4), PV.d (D.sl TyS.hours x1.5)]⟩, ⟨2, 0, .box 31 [PV.d (D.sl TyS.rule x0.1), PV.d (D.v (Value.string x0.2.1)), PV.d (D.sl TyS.matcher x0.2.2), PV.d (D.sl TyS.str x0.2.3), PV.d (D.v (Value.int IntKind.i64 x0.2.4)), PV.d (D.v (Value.int IntKind.i64 x0.2.5)), PV.d (D.v (Value.int IntKind.i64 x0.2.6)), PV.d (D.sl TyS.str x0.2.7), PV.d (D.v (Value.bool x0.2.8)), PV.d (D.sl TyS.route x0.2.9), PV.d (D.sl TyS.str x0.3), PV.d (D.sl TyS.inhibit x0.4), PV.d (D.sl TyS.hours x0.5)]⟩]) (fun x => x.1.1) ⟨(n1, _), hl1⟩ [] hdz ?_
  rintro ⟨⟨n1, t44⟩, hr1⟩ gh1 g1 K1 Q1 hK1 hQ1
  obtain _ | n1 := n1
  ·exact (LoopN_z hr1).elim
  obtain ⟨v1, h, hv1⟩ := LoopN_e hr1
  cbv
  refine kj ?_
  replace h := br_e h; obtain ⟨hb, h⟩ | ⟨hb, h⟩ := h
  ·refine cdT hb ?_; cbv
   iterate 2 refine kj ?_
   replace h := ck_e h; obtain ⟨c2, h⟩ := h; refine ⟨c2, ?_⟩
   replace h := ck_e h; obtain ⟨c3, h⟩ := h; refine ⟨c3, ?_⟩
   replace h := bd_e h; obtain ⟨w4, hw4, h⟩ := h
   refine CallK.mk _ (by rfl) (fun _ => PFun.to hP (transhipmentref08_Like_ok hA hw4)) ?_
   cbv
   refine kj ?_
   replace h := br_e h; obtain ⟨hb, h⟩ | ⟨hb, h⟩ := h
   ·refine cdT hb ?_; cbv
    refine kj ?_
    replace h := rt_e h; obtain ⟨_, h, rfl⟩ := h
    cases hv1; refine hQ1 _ _ ?_; cbv
    cases h; subst hR; exact ey
   ·refine cdF hb ?_; cbv
    refine kj ?_
    cases h
    exact hK1 _ ⟨(n1, _), hv1⟩ [] (Nat.lt_succ_self _) hdy
  ·refine cdF hb ?_; cbv
   replace h := rt_e h; obtain ⟨_, h, rfl⟩ := h
   cases hv1; refine hQ1 _ _ ?_; cbv
   refine kj ?_
   replace h := Loop_e h; obtain ⟨n2, hl2⟩ := h
   refine LoopK.q (X := Runs (transhipmentref10_Like_B2 A x0 x1) _) (fun x gh => [(63, it IntKind.i64 x.1.2)]) (fun x gh => [⟨3, 0, .box 31 [PV.d (D.sl TyS.rule x1.1), PV.d (D.v (Value.string x1.2.1)), PV.d (D.sl TyS.matcher x1.2.2), PV.d (D.sl TyS.str x1.2.3), PV.d (D.v (Value.int IntKind.i64 x1.2.4)), PV.d (D.v (Value.int IntKind.i64 x1.2.5)), PV.d (D.v (Value.int IntKind.i64 x1.2.6)), PV.d (D.sl TyS.str x1.2.7), PV.d (D.v (Value.bool x1.2.8)), PV.d (D.sl TyS.route x1.2.9), PV.d (D.sl TyS.str x1.3), PV.d (D.sl TyS.inhibit x1.4), PV.d (D.sl TyS.hours x1.5)]⟩, ⟨2, 0, .box 31 [PV.d (D.sl TyS.rule x0.1), PV.d (D.v (Value.string x0.2.1)), PV.d (D.sl TyS.matcher x0.2.2), PV.d (D.sl TyS.str x0.2.3), PV.d (D.v (Value.int IntKind.i64 x0.2.4)), PV.d (D.v (Value.int IntKind.i64 x0.2.5)), PV.d (D.v (Value.int IntKind.i64 x0.2.6)), PV.d (D.sl TyS.str x0.2.7), PV.d (D.v (Value.bool x0.2.8)), PV.d (D.sl TyS.route x0.2.9), PV.d (D.sl TyS.str x0.3), PV.d (D.sl TyS.inhibit x0.4), PV.d (D.sl TyS.hours x0.5)]⟩]) (fun x => x.1.1) ⟨(n2, _), hl2⟩ [] hdz ?_
   rintro ⟨⟨n2, t63⟩, hr2⟩ gh2 g2 K2 Q2 hK2 hQ2
   obtain _ | n2 := n2
   ·exact (LoopN_z hr2).elim
   obtain ⟨v2, h, hv2⟩ := LoopN_e hr2
   cbv
   refine kj ?_
   replace h := br_e h; obtain ⟨hb, h⟩ | ⟨hb, h⟩ := h
   ·refine cdT hb ?_; cbv
    iterate 2 refine kj ?_
    replace h := ck_e h; obtain ⟨c5, h⟩ := h; refine ⟨c5, ?_⟩
    replace h := ck_e h; obtain ⟨c6, h⟩ := h; refine ⟨c6, ?_⟩
    refine kj ?_
    replace h := br_e h; obtain ⟨hb, h⟩ | ⟨hb, h⟩ := h
    ·refine cdT hb ?_; cbv
     refine kj ?_
     replace h := rt_e h; obtain ⟨_, h, rfl⟩ := h
     cases hv2; refine hQ2 _ _ ?_; cbv
     cases h; subst hR; exact ey
    ·refine cdF hb ?_; cbv
     refine kj ?_
     cases h
     exact hK2 _ ⟨(n2, _), hv2⟩ [] (Nat.lt_succ_self _) hdy
   ·refine cdF hb ?_; cbv
    replace h := rt_e h; obtain ⟨_, h, rfl⟩ := h
    cases hv2; refine hQ2 _ _ ?_; cbv
    refine kj ?_
    replace h := Loop_e h; obtain ⟨n3, hl3⟩ := h
    refine LoopK.q (X := Runs (transhipmentref10_Like_B1 A x0 x1) _) (fun x gh => [(81, it IntKind.i64 x.1.2)]) (fun x gh => [⟨3, 0, .box 31 [PV.d (D.sl TyS.rule x1.1), PV.d (D.v (Value.string x1.2.1)), PV.d (D.sl TyS.matcher x1.2.2), PV.d (D.sl TyS.str x1.2.3), PV.d (D.v (Value.int IntKind.i64 x1.2.4)), PV.d (D.v (Value.int IntKind.i64 x1.2.5)), PV.d (D.v (Value.int IntKind.i64 x1.2.6)), PV.d (D.sl TyS.str x1.2.7), PV.d (D.v (Value.bool x1.2.8)), PV.d (D.sl TyS.route x1.2.9), PV.d (D.sl TyS.str x1.3), PV.d (D.sl TyS.inhibit x1.4), PV.d (D.sl TyS.hours x1.5)]⟩, ⟨2, 0, .box 31 [PV.d (D.sl TyS.rule x0.1), PV.d (D.v (Value.string x0.2.1)), PV.d (D.sl TyS.matcher x0.2.2), PV.d (D.sl TyS.str x0.2.3), PV.d (D.v (Value.int IntKind.i64 x0.2.4)), PV.d (D.v (Value.int IntKind.i64 x0.2.5)), PV.d (D.v (Value.int IntKind.i64 x0.2.6)), PV.d (D.sl TyS.str x0.2.7), PV.d (D.v (Value.bool x0.2.8)), PV.d (D.sl TyS.route x0.2.9), PV.d (D.sl TyS.str x0.3), PV.d (D.sl TyS.inhibit x0.4), PV.d (D.sl TyS.hours x0.5)]⟩]) (fun x => x.1.1) ⟨(n3, _), hl3⟩ [] hdz ?_
    rintro ⟨⟨n3, t81⟩, hr3⟩ gh3 g3 K3 Q3 hK3 hQ3
    obtain _ | n3 := n3
    ·exact (LoopN_z hr3).elim
    obtain ⟨v3, h, hv3⟩ := LoopN_e hr3
    cbv
    refine kj ?_
    replace h := br_e h; obtain ⟨hb, h⟩ | ⟨hb, h⟩ := h
    ·refine cdT hb ?_; cbv
     iterate 2 refine kj ?_
     replace h := ck_e h; obtain ⟨c7, h⟩ := h; refine ⟨c7, ?_⟩
     replace h := bd_e h; obtain ⟨w8, hw8, h⟩ := h
     refine CallK.mk _ (by rfl) (fun _ => PFun.to hP (transhipmentref10_Quiet_ok hA hw8)) ?_
     cbv
     replace h := ck_e h; obtain ⟨c9, h⟩ := h; refine ⟨c9, ?_⟩
     replace h := bd_e h; obtain ⟨w10, hw10, h⟩ := h
     refine CallK.mk _ (by rfl) (fun _ => PFun.to hP (transhipmentref10_Quiet_ok hA hw10)) ?_
     cbv
     refine kj ?_
     replace h := br_e h; obtain ⟨hb, h⟩ | ⟨hb, h⟩ := h
     ·refine cdT hb ?_; cbv
      refine kj ?_
      replace h := rt_e h; obtain ⟨_, h, rfl⟩ := h
      cases hv3; refine hQ3 _ _ ?_; cbv
      cases h; subst hR; exact ey
     ·refine cdF hb ?_; cbv
      refine kj ?_
      cases h
      exact hK3 _ ⟨(n3, _), hv3⟩ [] (Nat.lt_succ_self _) hdy
    ·refine cdF hb ?_; cbv
     replace h := rt_e h; obtain ⟨_, h, rfl⟩ := h
     cases hv3; refine hQ3 _ _ ?_; cbv
     refine kj ?_
     replace h := bd_e h; obtain ⟨w11, hw11, h⟩ := h
     refine CallK.mk _ (by rfl) (fun _ => PFun.to hP (transhipmentref09_Like_ok hA hw11)) ?_
     cbv
     cases h; subst hR; exact ey
theorem slices_EqualFunc_Matcher_Matcher_Matcher_Matcher_ok {A : Ar} (hA : A = std) {x0 : List Matcher} {x1 : List Matcher} {q2 : Matcher → Matcher → Option Bool} {g2 : Nat} {cap2 : List PV} (hcap2 : bare.bares cap2 = true) (hq2 : ∀ (y0 : Matcher) (y1 : Matcher) (r : Bool), q2 y0 y1 = some r → PFun cx g2 ((matcherPV y0) :: (matcherPV y1) :: cap2) (bl r)) {r : Bool} (h : slices_EqualFunc_Matcher_Matcher_Matcher_Matcher A x0 x1 q2 = some r) : PFun cx 87 [.d (.sl TyS.matcher x0), .d (.sl TyS.matcher x1), .fn (.func g2) [] cap2] ((fun r : Bool => (bl r : PV)) r) := by
 refine PFun.walkF (fz := fun _ => false) hA cx_ok Tryz.func87 rfl rfl rfl fun P R hP hR => ?_
 cbv
 unfold slices_EqualFunc_Matcher_Matcher_Matcher_Matcher at h
 iterate 2 refine kj ?_
 replace h := br_e h; obtain ⟨hb, h⟩ | ⟨hb, h⟩ := h
 ·refine cdT hb ?_; cbv
  refine kj ?_
  cases h; subst hR; exact ey
 ·refine cdF hb ?_; cbv
  refine kj ?_
  replace h := Loop_e h; obtain ⟨n1, hl1⟩ := h
  refine LoopK.q (X := Runs (slices_EqualFunc_Matcher_Matcher_Matcher_Matcher_B1 A x0 x1 q2) _) (fun x gh => [(17, it IntKind.i64 x.1.2)]) (fun x gh => []) (fun x => x.1.1) ⟨(n1, _), hl1⟩ [] hdz ?_
  rintro ⟨⟨n1, t17⟩, hr1⟩ gh1 g1 K1 Q1 hK1 hQ1
  obtain _ | n1 := n1
  ·exact (LoopN_z hr1).elim
  obtain ⟨v1, h, hv1⟩ := LoopN_e hr1
  cbv
  refine kj ?_
  replace h := br_e h; obtain ⟨hb, h⟩ | ⟨hb, h⟩ := h
  ·refine cdT hb ?_; cbv
   refine kj ?_
   replace h := ck_e h; obtain ⟨c1, h⟩ := h; refine ⟨c1, ?_⟩
   refine kj ?_
   replace h := ck_e h; obtain ⟨c2, h⟩ := h; refine ⟨c2, ?_⟩
   refine kj ?_
   replace h := bd_e h; obtain ⟨w3, hw3, h⟩ := h
   refine CallK.mk _ (by first | rfl | simp [bare, bare.bares, hcap2]) (fun _ => PFun.to hP (hq2 _ _ _ hw3)) ?_
   cbv
   replace h := br_e h; obtain ⟨hb, h⟩ | ⟨hb, h⟩ := h
   ·refine cdT hb ?_; cbv
    refine kj ?_
    replace h := rt_e h; obtain ⟨_, h, rfl⟩ := h
    cases hv1; refine hQ1 _ _ ?_; cbv
    cases h; subst hR; exact ey
   ·refine cdF hb ?_; cbv
    refine kj ?_
    cases h
    exact hK1 _ ⟨(n1, _), hv1⟩ [] (Nat.lt_succ_self _) hdy
  ·refine cdF hb ?_; cbv
   replace h := rt_e h; obtain ⟨_, h, rfl⟩ := h
   cases hv1; refine hQ1 _ _ ?_; cbv
   refine kj ?_
   cases h; subst hR; exact ey
theorem slices_Equal_string_string_ok {A : Ar} (hA : A = std) {x0 : List ByteArray} {x1 : List ByteArray} {r : Bool} (h : slices_Equal_string_string A x0 x1 = some r) : PFun cx 89 [.d (.sl TyS.str x0), .d (.sl TyS.str x1)] ((fun r : Bool => (bl r : PV)) r) := by
 refine PFun.walkF (fz := fun _ => false) hA cx_ok Tryz.func89 rfl rfl rfl fun P R hP hR => ?_
 cbv
 unfold slices_Equal_string_string at h
 iterate 2 refine kj ?_
 replace h := br_e h; obtain ⟨hb, h⟩ | ⟨hb, h⟩ := h
 ·refine cdT hb ?_; cbv
  refine kj ?_
  cases h; subst hR; exact ey
 ·refine cdF hb ?_; cbv
  refine kj ?_
  replace h := Loop_e h; obtain ⟨n1, hl1⟩ := h
  refine LoopK.q (X := Runs (slices_Equal_string_string_B1 A x0 x1) _) (fun x gh => [(13, it IntKind.i64 x.1.2)]) (fun x gh => []) (fun x => x.1.1) ⟨(n1, _), hl1⟩ [] hdz ?_
  rintro ⟨⟨n1, t13⟩, hr1⟩ gh1 g1 K1 Q1 hK1 hQ1
  obtain _ | n1 := n1
  ·exact (LoopN_z hr1).elim
  obtain ⟨v1, h, hv1⟩ := LoopN_e hr1
  cbv
  refine kj ?_
  replace h := br_e h; obtain ⟨hb, h⟩ | ⟨hb, h⟩ := h
  ·refine cdT hb ?_; cbv
   iterate 2 refine kj ?_
   replace h := ck_e h; obtain ⟨c1, h⟩ := h; refine ⟨c1, ?_⟩
   replace h := ck_e h; obtain ⟨c2, h⟩ := h; refine ⟨c2, ?_⟩
   refine kj ?_
   replace h := br_e h; obtain ⟨hb, h⟩ | ⟨hb, h⟩ := h
   ·refine cdT hb ?_; cbv
    refine kj ?_
    replace h := rt_e h; obtain ⟨_, h, rfl⟩ := h
    cases hv1; refine hQ1 _ _ ?_; cbv
    cases h; subst hR; exact ey
   ·refine cdF hb ?_; cbv
    refine kj ?_
    cases h
    exact hK1 _ ⟨(n1, _), hv1⟩ [] (Nat.lt_succ_self _) hdy
  ·refine cdF hb ?_; cbv
   replace h := rt_e h; obtain ⟨_, h, rfl⟩ := h
   cases hv1; refine hQ1 _ _ ?_; cbv
   refine kj ?_
   cases h; subst hR; exact ey
theorem matcher_Like_ok {A : Ar} (hA : A = std) {x0 : Matcher} {x1 : Matcher} {r : Bool} (h : matcher_Like A x0 x1 = some r) : PFun cx 88 [matcherPV x0, matcherPV x1] ((fun r : Bool => (bl r : PV)) r) := by
 refine PFun.walkF (fz := fun _ => false) hA cx_ok Tryz.func88 rfl rfl rfl fun P R hP hR => ?_
 cbv
 unfold matcher_Like at h
 iterate 2 refine kj ?_
 iterate 13 refine cj ?_
 replace h := bd_e h; obtain ⟨w1, hw1, h⟩ := h
 refine CallK.mk _ (by rfl) (fun hc => PFun.to hP (slices_Equal_string_string_ok hA (gd_e hw1 hc))) ?_
 cbv
 refine cj ?_
 cases h; subst hR; exact ey
theorem config_Same_1_ok {A : Ar} (hA : A = std) {x0 : Inhibit} {x1 : Inhibit} {r : Bool} (h : config_Same_1 A x0 x1 = some r) : PFun cx 86 [inhibitPV x0, inhibitPV x1] ((fun r : Bool => (bl r : PV)) r) := by
 refine PFun.walkF (fz := fun _ => false) hA cx_ok Tryz.func86 rfl rfl rfl fun P R hP hR => ?_
 cbv
 unfold config_Same_1 at h
 iterate 2 refine kj ?_
 replace h := bd_e h; obtain ⟨w1, hw1, h⟩ := h
 refine CallK.le _ _ (by rfl) (fun _ => ey) (fun _ => PFun.to hP (slices_EqualFunc_Matcher_Matcher_Matcher_Matcher_ok hA (by rfl) (fun _ _ _ hw => matcher_Like_ok hA hw) hw1)) ?_
 cbv
 iterate 6 refine cj ?_
 replace h := bd_e h; obtain ⟨w2, hw2, h⟩ := h
 refine CallK.le _ _ (by rfl) (fun _ => ey) (fun hc => PFun.to hP (slices_EqualFunc_Matcher_Matcher_Matcher_Matcher_ok hA (by rfl) (fun _ _ _ hw => matcher_Like_ok hA hw) (gd_e hw2 hc))) ?_
 cbv
 iterate 7 refine cj ?_
 replace h := bd_e h; obtain ⟨w3, hw3, h⟩ := h
 refine CallK.mk _ (by rfl) (fun hc => PFun.to hP (slices_Equal_string_string_ok hA (gd_e hw3 hc))) ?_
 cbv
 refine cj ?_
 cases h; subst hR; exact ey
theorem slices_EqualFunc_Rule_Rule_Rule_Rule_ok {A : Ar} (hA : A = std) {x0 : List Rule} {x1 : List Rule} {q2 : Rule → Rule → Option Bool} {g2 : Nat} {cap2 : List PV} (hcap2 : bare.bares cap2 = true) (hq2 : ∀ (y0 : Rule) (y1 : Rule) (r : Bool), q2 y0 y1 = some r → PFun cx g2 ((rulePV y0) :: (rulePV y1) :: cap2) (bl r)) {r : Bool} (h : slices_EqualFunc_Rule_Rule_Rule_Rule A x0 x1 q2 = some r) : PFun cx 90 [.d (.sl TyS.rule x0), .d (.sl TyS.rule x1), .fn (.func g2) [] cap2] ((fun r : Bool => (bl r : PV)) r) := by
 refine PFun.walkF (fz := fun _ => false) hA cx_ok Tryz.func90 rfl rfl rfl fun P R hP hR => ?_
 cbv
 unfold slices_EqualFunc_Rule_Rule_Rule_Rule at h
 iterate 2 refine kj ?_
 replace h := br_e h; obtain ⟨hb, h⟩ | ⟨hb, h⟩ := h
 ·refine cdT hb ?_; cbv
  refine kj ?_
  cases h; subst hR; exact ey
 ·refine cdF hb ?_; cbv
  refine kj ?_
  replace h := Loop_e h; obtain ⟨n1, hl1⟩ := h
  refine LoopK.q (X := Runs (slices_EqualFunc_Rule_Rule_Rule_Rule_B1 A x0 x1 q2) _) (fun x gh => [(17, it IntKind.i64 x.1.2)]) (fun x gh => []) (fun x => x.1.1) ⟨(n1, _), hl1⟩ [] hdz ?_
  rintro ⟨⟨n1, t17⟩, hr1⟩ gh1 g1 K1 Q1 hK1 hQ1
  obtain _ | n1 := n1
  ·exact (LoopN_z hr1).elim
  obtain ⟨v1, h, hv1⟩ := LoopN_e hr1
  cbv
  refine kj ?_
  replace h := br_e h; obtain ⟨hb, h⟩ | ⟨hb, h⟩ := h
  ·refine cdT hb ?_; cbv
   refine kj ?_
   replace h := ck_e h; obtain ⟨c1, h⟩ := h; refine ⟨c1, ?_⟩
   refine kj ?_
   replace h := ck_e h; obtain ⟨c2, h⟩ := h; refine ⟨c2, ?_⟩
   refine kj ?_
   replace h := bd_e h; obtain ⟨w3, hw3, h⟩ := h
   refine CallK.mk _ (by first | rfl | simp [bare, bare.bares, hcap2]) (fun _ => PFun.to hP (hq2 _ _ _ hw3)) ?_
   cbv
   replace h := br_e h; obtain ⟨hb, h⟩ | ⟨hb, h⟩ := h
   ·refine cdT hb ?_; cbv
    refine kj ?_
    replace h := rt_e h; obtain ⟨_, h, rfl⟩ := h
    cases hv1; refine hQ1 _ _ ?_; cbv
    cases h; subst hR; exact ey
   ·refine cdF hb ?_; cbv
    refine kj ?_
    cases h
    exact hK1 _ ⟨(n1, _), hv1⟩ [] (Nat.lt_succ_self _) hdy
  ·refine cdF hb ?_; cbv
   replace h := rt_e h; obtain ⟨_, h, rfl⟩ := h
   cases hv1; refine hQ1 _ _ ?_; cbv
   refine kj ?_
   cases h; subst hR; exact ey
theorem slices_Equal_Label_Label_ok {A : Ar} (hA : A = std) {x0 : List Label} {x1 : List Label} {r : Bool} (h : slices_Equal_Label_Label A x0 x1 = some r) : PFun cx 176 [.d (.sl TyS.label x0), .d (.sl TyS.label x1)] ((fun r : Bool => (bl r : PV)) r) := by
 refine PFun.walkF (fz := fun _ => false) hA cx_ok Tryz.func176 rfl rfl rfl fun P R hP hR => ?_
 cbv
 unfold slices_Equal_Label_Label at h
 iterate 2 refine kj ?_
 replace h := br_e h; obtain ⟨hb, h⟩ | ⟨hb, h⟩ := h
 ·refine cdT hb ?_; cbv
  refine kj ?_
  cases h; subst hR; exact ey
 ·refine cdF hb ?_; cbv
  refine kj ?_
  replace h := Loop_e h; obtain ⟨n1, hl1⟩ := h
  refine LoopK.q (X := Runs (slices_Equal_Label_Label_B1 A x0 x1) _) (fun x gh => [(13, it IntKind.i64 x.1.2)]) (fun x gh => []) (fun x => x.1.1) ⟨(n1, _), hl1⟩ [] hdz ?_
  rintro ⟨⟨n1, t13⟩, hr1⟩ gh1 g1 K1 Q1 hK1 hQ1
  obtain _ | n1 := n1
  ·exact (LoopN_z hr1).elim
  obtain ⟨v1, h, hv1⟩ := LoopN_e hr1
  cbv
  refine kj ?_
  replace h := br_e h; obtain ⟨hb, h⟩ | ⟨hb, h⟩ := h
  ·refine cdT hb ?_; cbv
   iterate 2 refine kj ?_
   replace h := ck_e h; obtain ⟨c1, h⟩ := h; refine ⟨c1, ?_⟩
   replace h := ck_e h; obtain ⟨c2, h⟩ := h; refine ⟨c2, ?_⟩
   refine kj ?_
   replace h := br_e h; obtain ⟨hb, h⟩ | ⟨hb, h⟩ := h
   ·refine cdT hb ?_; cbv
    refine kj ?_
    replace h := rt_e h; obtain ⟨_, h, rfl⟩ := h
    cases hv1; refine hQ1 _ _ ?_; cbv
    cases h; subst hR; exact ey
   ·refine cdF hb ?_; cbv
    refine kj ?_
    cases h
    exact hK1 _ ⟨(n1, _), hv1⟩ [] (Nat.lt_succ_self _) hdy
  ·refine cdF hb ?_; cbv
   replace h := rt_e h; obtain ⟨_, h, rfl⟩ := h
   cases hv1; refine hQ1 _ _ ?_; cbv
   refine kj ?_
   cases h; subst hR; exact ey
theorem rules_Like_ok {A : Ar} (hA : A = std) {x0 : Rule} {x1 : Rule} {r : Bool} (h : rules_Like A x0 x1 = some r) : PFun cx 91 [rulePV x0, rulePV x1] ((fun r : Bool => (bl r : PV)) r) := by
 refine PFun.walkF (fz := fun _ => false) hA cx_ok Tryz.func91 rfl rfl rfl fun P R hP hR => ?_
 cbv
 unfold rules_Like at h
 iterate 2 refine kj ?_
 replace h := bd_e h; obtain ⟨w1, hw1, h⟩ := h
 refine CallK.mk _ (by rfl) (fun _ => PFun.to hP (slices_Equal_Label_Label_ok hA hw1)) ?_
 cbv
 refine kj ?_
 iterate 49 refine cj ?_
 cases h; subst hR; exact ey
theorem slices_Equal_Hours_Hours_ok {A : Ar} (hA : A = std) {x0 : List Hours} {x1 : List Hours} {r : Bool} (h : slices_Equal_Hours_Hours A x0 x1 = some r) : PFun cx 92 [.d (.sl TyS.hours x0), .d (.sl TyS.hours x1)] ((fun r : Bool => (bl r : PV)) r) := by
 refine PFun.walkF (fz := fun _ => false) hA cx_ok Tryz.func92 rfl rfl rfl fun P R hP hR => ?_
 cbv
 unfold slices_Equal_Hours_Hours at h
 iterate 2 refine kj ?_
 replace h := br_e h; obtain ⟨hb, h⟩ | ⟨hb, h⟩ := h
 ·refine cdT hb ?_; cbv
  refine kj ?_
  cases h; subst hR; exact ey
 ·refine cdF hb ?_; cbv
  refine kj ?_
  replace h := Loop_e h; obtain ⟨n1, hl1⟩ := h
  refine LoopK.q (X := Runs (slices_Equal_Hours_Hours_B1 A x0 x1) _) (fun x gh => [(13, it IntKind.i64 x.1.2)]) (fun x gh => []) (fun x => x.1.1) ⟨(n1, _), hl1⟩ [] hdz ?_
  rintro ⟨⟨n1, t13⟩, hr1⟩ gh1 g1 K1 Q1 hK1 hQ1
  obtain _ | n1 := n1
  ·exact (LoopN_z hr1).elim
  obtain ⟨v1, h, hv1⟩ := LoopN_e hr1
  cbv
  refine kj ?_
  replace h := br_e h; obtain ⟨hb, h⟩ | ⟨hb, h⟩ := h
  ·refine cdT hb ?_; cbv
   iterate 2 refine kj ?_
   replace h := ck_e h; obtain ⟨c1, h⟩ := h; refine ⟨c1, ?_⟩
   replace h := ck_e h; obtain ⟨c2, h⟩ := h; refine ⟨c2, ?_⟩
   refine kj ?_
   replace h := br_e h; obtain ⟨hb, h⟩ | ⟨hb, h⟩ := h
   ·refine cdT hb ?_; cbv
    refine kj ?_
    replace h := rt_e h; obtain ⟨_, h, rfl⟩ := h
    cases hv1; refine hQ1 _ _ ?_; cbv
    cases h; subst hR; exact ey
   ·refine cdF hb ?_; cbv
    refine kj ?_
    cases h
    exact hK1 _ ⟨(n1, _), hv1⟩ [] (Nat.lt_succ_self _) hdy
  ·refine cdF hb ?_; cbv
   replace h := rt_e h; obtain ⟨_, h, rfl⟩ := h
   cases hv1; refine hQ1 _ _ ?_; cbv
   refine kj ?_
   cases h; subst hR; exact ey
theorem slices_EqualFunc_Inhibit_Inhibit_Inhibit_Inhibit_ok {A : Ar} (hA : A = std) {x0 : List Inhibit} {x1 : List Inhibit} {q2 : Inhibit → Inhibit → Option Bool} {g2 : Nat} {cap2 : List PV} (hcap2 : bare.bares cap2 = true) (hq2 : ∀ (y0 : Inhibit) (y1 : Inhibit) (r : Bool), q2 y0 y1 = some r → PFun cx g2 ((inhibitPV y0) :: (inhibitPV y1) :: cap2) (bl r)) {r : Bool} (h : slices_EqualFunc_Inhibit_Inhibit_Inhibit_Inhibit A x0 x1 q2 = some r) : PFun cx 93 [.d (.sl TyS.inhibit x0), .d (.sl TyS.inhibit x1), .fn (.func g2) [] cap2] ((fun r : Bool => (bl r : PV)) r) := by
 refine PFun.walkF (fz := fun _ => false) hA cx_ok Tryz.func93 rfl rfl rfl fun P R hP hR => ?_
 cbv
 unfold slices_EqualFunc_Inhibit_Inhibit_Inhibit_Inhibit at h
 iterate 2 refine kj ?_
 replace h := br_e h; obtain ⟨hb, h⟩ | ⟨hb, h⟩ := h
 ·refine cdT hb ?_; cbv
  refine kj ?_
  cases h; subst hR; exact ey
 ·refine cdF hb ?_; cbv
  refine kj ?_
  replace h := Loop_e h; obtain ⟨n1, hl1⟩ := h
  refine LoopK.q (X := Runs (slices_EqualFunc_Inhibit_Inhibit_Inhibit_Inhibit_B1 A x0 x1 q2) _) (fun x gh => [(17, it IntKind.i64 x.1.2)]) (fun x gh => []) (fun x => x.1.1) ⟨(n1, _), hl1⟩ [] hdz ?_
  rintro ⟨⟨n1, t17⟩, hr1⟩ gh1 g1 K1 Q1 hK1 hQ1
  obtain _ | n1 := n1
  ·exact (LoopN_z hr1).elim
  obtain ⟨v1, h, hv1⟩ := LoopN_e hr1
  cbv
  refine kj ?_
  replace h := br_e h; obtain ⟨hb, h⟩ | ⟨hb, h⟩ := h
  ·refine cdT hb ?_; cbv
   refine kj ?_
   replace h := ck_e h; obtain ⟨c1, h⟩ := h; refine ⟨c1, ?_⟩
   refine kj ?_
   replace h := ck_e h; obtain ⟨c2, h⟩ := h; refine ⟨c2, ?_⟩
   refine kj ?_
   replace h := bd_e h; obtain ⟨w3, hw3, h⟩ := h
   refine CallK.mk _ (by first | rfl | simp [bare, bare.bares, hcap2]) (fun _ => PFun.to hP (hq2 _ _ _ hw3)) ?_
   cbv
   replace h := br_e h; obtain ⟨hb, h⟩ | ⟨hb, h⟩ := h
   ·refine cdT hb ?_; cbv
    refine kj ?_
    replace h := rt_e h; obtain ⟨_, h, rfl⟩ := h
    cases hv1; refine hQ1 _ _ ?_; cbv
    cases h; subst hR; exact ey
   ·refine cdF hb ?_; cbv
    refine kj ?_
    cases h
    exact hK1 _ ⟨(n1, _), hv1⟩ [] (Nat.lt_succ_self _) hdy
  ·refine cdF hb ?_; cbv
   replace h := rt_e h; obtain ⟨_, h, rfl⟩ := h
   cases hv1; refine hQ1 _ _ ?_; cbv
   refine kj ?_
   cases h; subst hR; exact ey
theorem slices_EqualFunc_Route_Route_Route_Route_ok {A : Ar} (hA : A = std) {x0 : List Route} {x1 : List Route} {q2 : Route → Route → Option Bool} {g2 : Nat} {cap2 : List PV} (hcap2 : bare.bares cap2 = true) (hq2 : ∀ (y0 : Route) (y1 : Route) (r : Bool), q2 y0 y1 = some r → PFun cx g2 ((routePV y0) :: (routePV y1) :: cap2) (bl r)) {r : Bool} (h : slices_EqualFunc_Route_Route_Route_Route A x0 x1 q2 = some r) : PFun cx 177 [.d (.sl TyS.route x0), .d (.sl TyS.route x1), .fn (.func g2) [] cap2] ((fun r : Bool => (bl r : PV)) r) := by
 refine PFun.walkF (fz := fun _ => false) hA cx_ok Tryz.func177 rfl rfl rfl fun P R hP hR => ?_
 cbv
 unfold slices_EqualFunc_Route_Route_Route_Route at h
 iterate 2 refine kj ?_
 replace h := br_e h; obtain ⟨hb, h⟩ | ⟨hb, h⟩ := h
 ·refine cdT hb ?_; cbv
  refine kj ?_
  cases h; subst hR; exact ey
 ·refine cdF hb ?_; cbv
  refine kj ?_
  replace h := Loop_e h; obtain ⟨n1, hl1⟩ := h
  refine LoopK.q (X := Runs (slices_EqualFunc_Route_Route_Route_Route_B1 A x0 x1 q2) _) (fun x gh => [(17, it IntKind.i64 x.1.2)]) (fun x gh => []) (fun x => x.1.1) ⟨(n1, _), hl1⟩ [] hdz ?_
  rintro ⟨⟨n1, t17⟩, hr1⟩ gh1 g1 K1 Q1 hK1 hQ1
  obtain _ | n1 := n1
  ·exact (LoopN_z hr1).elim
  obtain ⟨v1, h, hv1⟩ := LoopN_e hr1
  cbv
  refine kj ?_
  replace h := br_e h; obtain ⟨hb, h⟩ | ⟨hb, h⟩ := h
  ·refine cdT hb ?_; cbv
   refine kj ?_
   replace h := ck_e h; obtain ⟨c1, h⟩ := h; refine ⟨c1, ?_⟩
   refine kj ?_
   replace h := ck_e h; obtain ⟨c2, h⟩ := h; refine ⟨c2, ?_⟩
   refine kj ?_
   replace h := bd_e h; obtain ⟨w3, hw3, h⟩ := h
   refine CallK.mk _ (by first | rfl | simp [bare, bare.bares, hcap2]) (fun _ => PFun.to hP (hq2 _ _ _ hw3)) ?_
   cbv
   replace h := br_e h; obtain ⟨hb, h⟩ | ⟨hb, h⟩ := h
   ·refine cdT hb ?_; cbv
    refine kj ?_
    replace h := rt_e h; obtain ⟨_, h, rfl⟩ := h
    cases hv1; refine hQ1 _ _ ?_; cbv
    cases h; subst hR; exact ey
   ·refine cdF hb ?_; cbv
    refine kj ?_
    cases h
    exact hK1 _ ⟨(n1, _), hv1⟩ [] (Nat.lt_succ_self _) hdy
  ·refine cdF hb ?_; cbv
   replace h := rt_e h; obtain ⟨_, h, rfl⟩ := h
   cases hv1; refine hQ1 _ _ ?_; cbv
   refine kj ?_
   cases h; subst hR; exact ey
theorem routes_Like_S_ok {A : Ar} (hA : A = std) {rf : Route → Route → Option Bool} {x0 : Route} {x1 : Route} (hqr94 : ∀ (x0 : Route) (x1 : Route) (r : Bool), rf x0 x1 = some r → PFun cx 94 [routePV x0, routePV x1] (bl r)) {r : Bool} (h : routes_Like_S A rf x0 x1 = some r) : PFun cx 94 [routePV x0, routePV x1] ((fun r : Bool => (bl r : PV)) r) := by
 refine PFun.walkF (fz := fun _ => false) hA cx_ok Tryz.func94 rfl rfl rfl fun P R hP hR => ?_
 cbv
 unfold routes_Like_S at h
 iterate 2 refine kj ?_
 iterate 28 refine cj ?_
 refine kj ?_
 iterate 6 refine cj ?_
 replace h := bd_e h; obtain ⟨w1, hw1, h⟩ := h
 refine CallK.le _ _ (by rfl) (fun _ => ey) (fun hc => PFun.to hP (slices_EqualFunc_Matcher_Matcher_Matcher_Matcher_ok hA (by rfl) (fun _ _ _ hw => matcher_Like_ok hA hw) (gd_e hw1 hc))) ?_
 cbv
 iterate 7 refine cj ?_
 replace h := bd_e h; obtain ⟨w2, hw2, h⟩ := h
 refine CallK.mk _ (by rfl) (fun hc => PFun.to hP (slices_Equal_string_string_ok hA (gd_e hw2 hc))) ?_
 cbv
 iterate 7 refine cj ?_
 replace h := bd_e h; obtain ⟨w3, hw3, h⟩ := h
 refine CallK.mk _ (by rfl) (fun hc => PFun.to hP (slices_Equal_string_string_ok hA (gd_e hw3 hc))) ?_
 cbv
 iterate 7 refine cj ?_
 replace h := bd_e h; obtain ⟨w4, hw4, h⟩ := h
 refine CallK.le _ _ (by rfl) (fun _ => ey) (fun hc => PFun.to hP (slices_EqualFunc_Route_Route_Route_Route_ok hA (by rfl) hqr94 (gd_e hw4 hc))) ?_
 cbv
 refine cj ?_
 cases h; subst hR; exact ey
theorem routes_Like_N_ok {A : Ar} (hA : A = std) : ∀ (n : Nat) (x0 : Route) (x1 : Route) (r : Bool), routes_Like_N A n x0 x1 = some r → PFun cx 94 [routePV x0, routePV x1] (bl r)
 | 0, _, _, _, h => by cases h
 | n + 1, x0, x1, r, h => routes_Like_S_ok hA (fun _ _ _ hh => routes_Like_N_ok hA n _ _ _ hh) h
theorem routes_Like_ok {A : Ar} (hA : A = std) {x0 : Route} {x1 : Route} {r : Bool} (h : routes_Like A x0 x1 = some r) : PFun cx 94 [routePV x0, routePV x1] (bl r) := routes_Like_N_ok hA _ _ _ _ h
theorem config_Same_ok {A : Ar} (hA : A = std) {x0 : Config} {x1 : Config} {r : Bool} (h : config_Same A x0 x1 = some r) : PFun cx 20 [configPV x0, configPV x1] ((fun r : Bool => (bl r : PV)) r) := by
 refine PFun.walkF (fz := fun _ => false) hA cx_ok Tryz.func20 rfl rfl rfl fun P R hP hR => ?_
 cbv
 unfold config_Same at h
 iterate 2 refine kj ?_
 replace h := bd_e h; obtain ⟨w1, hw1, h⟩ := h
 refine CallK.mk _ (by rfl) (fun _ => PFun.to hP (config_Normal_ok hA hw1)) ?_
 cbv
 refine kj ?_
 replace h := bd_e h; obtain ⟨w2, hw2, h⟩ := h
 refine CallK.mk _ (by rfl) (fun _ => PFun.to hP (config_Normal_ok hA hw2)) ?_
 cbv
 iterate 2 refine kj ?_
 replace h := bd_e h; obtain ⟨w3, hw3, h⟩ := h
 refine CallK.le _ _ (by rfl) (fun _ => ey) (fun _ => PFun.to hP (slices_EqualFunc_Rule_Rule_Rule_Rule_ok hA (by rfl) (fun _ _ _ hw => rules_Like_ok hA hw) hw3)) ?_
 cbv
 iterate 6 refine cj ?_
 replace h := bd_e h; obtain ⟨w4, hw4, h⟩ := h
 refine CallK.mk _ (by rfl) (fun hc => PFun.to hP (slices_Equal_string_string_ok hA (gd_e hw4 hc))) ?_
 cbv
 iterate 7 refine cj ?_
 replace h := bd_e h; obtain ⟨w5, hw5, h⟩ := h
 refine CallK.mk _ (by rfl) (fun hc => PFun.to hP (slices_Equal_Hours_Hours_ok hA (gd_e hw5 hc))) ?_
 cbv
 refine cj ?_
 refine kj ?_
 iterate 10 refine cj ?_
 replace h := bd_e h; obtain ⟨w6, hw6, h⟩ := h
 refine CallK.le _ _ (by rfl) (fun _ => ey) (fun hc => PFun.to hP (slices_EqualFunc_Inhibit_Inhibit_Inhibit_Inhibit_ok hA (by rfl) (fun _ _ _ hw => config_Same_1_ok hA hw) (gd_e hw6 hc))) ?_
 cbv
 iterate 7 refine cj ?_
 replace h := bd_e h; obtain ⟨w7, hw7, h⟩ := h
 refine CallK.mk _ (by rfl) (fun hc => PFun.to hP (routes_Like_ok hA (gd_e hw7 hc))) ?_
 cbv
 refine cj ?_
 cases h; subst hR; exact ey
theorem transhipmentlaw10_ConfigOrders_ok {A : Ar} (hA : A = std) {x0 : Config} {x1 : Int} {r : Bool} (h : transhipmentlaw10_ConfigOrders A x0 x1 = some r) : PFun cx 9 [configPV x0, it .i64 x1] ((fun r : Bool => (bl r : PV)) r) := by
 refine PFun.walkF (fz := fun _ => false) hA cx_ok Tryz.func9 rfl rfl rfl fun P R hP hR => ?_
 cbv
 unfold transhipmentlaw10_ConfigOrders at h
 iterate 2 refine kj ?_
 replace h := bd_e h; obtain ⟨w1, hw1, h⟩ := h
 refine CallK.mk _ (by rfl) (fun _ => PFun.to hP (transhipmentlaw10_big_ok hA hw1)) ?_
 cbv
 iterate 2 refine cj ?_
 replace h := bd_e h; obtain ⟨w2, hw2, h⟩ := h
 refine CallK.mk _ (by rfl) (fun hc => PFun.to hP (config_Right_ok hA (gd_e hw2 hc))) ?_
 cbv
 iterate 2 refine cj ?_
 replace h := br_e h; obtain ⟨hb, h⟩ | ⟨hb, h⟩ := h
 ·refine cdT hb ?_; cbv
  refine kj ?_
  replace h := bd_e h; obtain ⟨w3, hw3, h⟩ := h
  refine CallK.mk _ (by rfl) (fun _ => PFun.to hP (transhipmentlaw10_alive_ok hA hw3)) ?_
  cbv
  cases h; subst hR; exact ey
 ·refine cdF hb ?_; cbv
  refine kj ?_
  replace h := bd_e h; obtain ⟨w4, hw4, h⟩ := h
  refine CallK.mk _ (by rfl) (fun _ => PFun.to hP (transhipmentlaw10_turned_Rule_ok hA hw4)) ?_
  cbv
  replace h := bd_e h; obtain ⟨w5, hw5, h⟩ := h
  refine CallK.mk _ (by rfl) (fun _ => PFun.to hP (transhipmentlaw10_turned_string_ok hA hw5)) ?_
  cbv
  replace h := bd_e h; obtain ⟨w6, hw6, h⟩ := h
  refine CallK.mk _ (by rfl) (fun _ => PFun.to hP (transhipmentlaw10_turned_Inhibit_ok hA hw6)) ?_
  cbv
  replace h := bd_e h; obtain ⟨w7, hw7, h⟩ := h
  refine CallK.mk _ (by rfl) (fun _ => PFun.to hP (transhipmentlaw10_turned_Hours_ok hA hw7)) ?_
  cbv
  iterate 3 refine kj ?_
  iterate 2 refine cj ?_
  replace h := br_e h; obtain ⟨hb, h⟩ | ⟨hb, h⟩ := h
  ·refine cdT hb ?_; cbv
   refine kj ?_
   replace h := ck_e h; obtain ⟨c8, h⟩ := h; refine ⟨c8, ?_⟩
   replace h := ck_e h; obtain ⟨c9, h⟩ := h; refine ⟨c9, ?_⟩
   replace h := ck_e h; obtain ⟨c10, h⟩ := h; refine ⟨c10, ?_⟩
   iterate 2 refine kj ?_
   replace h := bd_e h; obtain ⟨w11, hw11, h⟩ := h
   refine CallK.mk _ (by rfl) (fun _ => PFun.to hP (config_Normal_ok hA hw11)) ?_
   cbv
   refine kj ?_
   replace h := bd_e h; obtain ⟨w12, hw12, h⟩ := h
   refine CallK.le _ _ (by rfl) (fun _ => ey) (fun _ => PFun.to hP (config_Normal_ok hA hw12)) ?_
   cbv
   refine kj ?_
   replace h := bd_e h; obtain ⟨w13, hw13, h⟩ := h
   refine CallK.mk _ (by rfl) (fun _ => PFun.to hP (config_Normal_ok hA hw13)) ?_
   cbv
   refine kj ?_
   replace h := bd_e h; obtain ⟨w14, hw14, h⟩ := h
   refine CallK.mk _ (by rfl) (fun _ => PFun.to hP (config_Text_ok hA hw14)) ?_
   cbv
   refine kj ?_
   replace h := bd_e h; obtain ⟨w15, hw15, h⟩ := h
   refine CallK.le _ _ (by rfl) (fun _ => ey) (fun _ => PFun.to hP (config_Text_ok hA hw15)) ?_
   cbv
   refine kj ?_
   replace h := bd_e h; obtain ⟨w16, hw16, h⟩ := h
   refine CallK.mk _ (by rfl) (fun _ => PFun.to hP (transhipmentlaw10_alive_ok hA hw16)) ?_
   cbv
   iterate 10 refine cj ?_
   replace h := bd_e h; obtain ⟨w17, hw17, h⟩ := h
   refine CallK.mk _ (by rfl) (fun hc => PFun.to hP (transhipmentref10_Like_ok hA (gd_e hw17 hc))) ?_
   cbv
   iterate 5 refine cj ?_
   replace h := bd_e h; obtain ⟨w18, hw18, h⟩ := h
   refine CallK.mk _ (by rfl) (fun hc => PFun.to hP (transhipmentref10_Like_ok hA (gd_e hw18 hc))) ?_
   cbv
   iterate 5 refine cj ?_
   replace h := bd_e h; obtain ⟨w19, hw19, h⟩ := h
   refine CallK.le _ _ (by rfl) (fun _ => ey) (fun hc => PFun.to hP (config_Same_ok hA (gd_e hw19 hc))) ?_
   cbv
   iterate 7 refine cj ?_
   cases h; subst hR; exact ey
  ·refine cdF hb ?_; cbv
   refine kj ?_
   replace h := bd_e h; obtain ⟨w20, hw20, h⟩ := h
   refine CallK.mk _ (by rfl) (fun _ => PFun.to hP (config_Normal_ok hA hw20)) ?_
   cbv
   refine kj ?_
   replace h := bd_e h; obtain ⟨w21, hw21, h⟩ := h
   refine CallK.mk _ (by rfl) (fun _ => PFun.to hP (config_Normal_ok hA hw21)) ?_
   cbv
   refine kj ?_
   replace h := bd_e h; obtain ⟨w22, hw22, h⟩ := h
   refine CallK.mk _ (by rfl) (fun _ => PFun.to hP (config_Normal_ok hA hw22)) ?_
   cbv
   refine kj ?_
   replace h := bd_e h; obtain ⟨w23, hw23, h⟩ := h
   refine CallK.mk _ (by rfl) (fun _ => PFun.to hP (config_Text_ok hA hw23)) ?_
   cbv
   refine kj ?_
   replace h := bd_e h; obtain ⟨w24, hw24, h⟩ := h
   refine CallK.mk _ (by rfl) (fun _ => PFun.to hP (config_Text_ok hA hw24)) ?_
   cbv
   refine kj ?_
   replace h := bd_e h; obtain ⟨w25, hw25, h⟩ := h
   refine CallK.mk _ (by rfl) (fun _ => PFun.to hP (transhipmentlaw10_alive_ok hA hw25)) ?_
   cbv
   iterate 10 refine cj ?_
   replace h := bd_e h; obtain ⟨w26, hw26, h⟩ := h
   refine CallK.mk _ (by rfl) (fun hc => PFun.to hP (transhipmentref10_Like_ok hA (gd_e hw26 hc))) ?_
   cbv
   iterate 5 refine cj ?_
   replace h := bd_e h; obtain ⟨w27, hw27, h⟩ := h
   refine CallK.mk _ (by rfl) (fun hc => PFun.to hP (transhipmentref10_Like_ok hA (gd_e hw27 hc))) ?_
   cbv
   iterate 5 refine cj ?_
   replace h := bd_e h; obtain ⟨w28, hw28, h⟩ := h
   refine CallK.mk _ (by rfl) (fun hc => PFun.to hP (config_Same_ok hA (gd_e hw28 hc))) ?_
   cbv
   iterate 7 refine cj ?_
   cases h; subst hR; exact ey
end Go.PL
