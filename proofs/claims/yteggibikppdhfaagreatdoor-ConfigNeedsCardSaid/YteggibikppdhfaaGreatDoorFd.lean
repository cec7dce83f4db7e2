/- Texts of this claim: plain laws of what the program's functions compute. No condition of their own. -/
import Derived.Test.YteggibikppdhfaaGreatDoorFc
namespace Go.PL
set_option linter.unusedSimpArgs false
set_option linter.unusedVariables false
set_option linter.unusedSectionVars false
open Tys (Ty U)
open Enc (sz enc dflt tb ofB toB)
open Dec (dec dok)
set_option maxRecDepth 100000
open Go.Proofs
variable [GM]
theorem slices_stableCmpFunc_Hours_ok {A : Ar} (hA : A = std) {x0 : List Hours} {n0 : Int} {x1 : Int} {q2 : Hours → Hours → Option Int} {g2 : Nat} {cap2 : List D} (hcap2 : capOK cap2) (hq2 : ∀ (y0 : Hours) (y1 : Hours) (r : Int), q2 y0 y1 = some r → PFun cx g2 ((hoursPV y0) :: (hoursPV y1) :: un.uns cap2) (it .i64 r)) {r : List Hours} (h : slices_stableCmpFunc_Hours A x0 n0 x1 q2 = some r) : PFunM cx 220 [.ms 1000 0 TyS.hours 0 n0, it .i64 x1, .fn (.func g2) [] (un.uns cap2)] [⟨1000, 0, .arr 61 TyS.hours x0⟩] ((fun r : List Hours => (.tu [] : PV)) r) ((fun r : List Hours => ([⟨1000, 0, .arr 61 TyS.hours r⟩] : List En)) r) := by
 rcases hcap2 with rfl | ⟨dscap2, rfl⟩
 ·refine PFunM.walkM (fz := fun _ => false) hA cx_ok Tryz.func220 rfl rfl fun P R hP hR => ?_
  cbv
  unfold slices_stableCmpFunc_Hours at h
  iterate 2 refine kj ?_
  replace h := Loop_e h; obtain ⟨n1, hl1⟩ := h
  refine LoopK.q (X := Runs (slices_stableCmpFunc_Hours_B3 A n0 x1 q2) _) (fun x gh => [(7, it IntKind.i64 x.1.2.1), (8, it IntKind.i64 x.1.2.2.1)]) (fun x gh => [⟨1000, 0, .arr 61 TyS.hours x.1.2.2.2⟩]) (fun x => x.1.1) ⟨(n1, _), hl1⟩ [] hdz ?_
  rintro ⟨⟨n1, a7, b8, row1000⟩, hr1⟩ gh1 g1 K1 Q1 hK1 hQ1
  obtain _ | n1 := n1
  ·exact (LoopN_z hr1).elim
  obtain ⟨v1, h, hv1⟩ := LoopN_e hr1
  cbv
  refine kj ?_
  replace h := br_e h; obtain ⟨hb, h⟩ | ⟨hb, h⟩ := h
  ·refine cdT hb ?_; cbv
   refine kj ?_
   replace h := bd_e h; obtain ⟨w1, hw1, h⟩ := h
   refine CallK.mem 18 rfl rfl [(1000, 0)] _ _ _ _ (fun _ => PFunM.to hP (slices_insertionSortCmpFunc_Hours_ok (cap3 := []) hA (by first | exact .inl rfl | exact .inr ⟨_, rfl⟩) hq2 hw1)) (by rfl) (fun _ => ez) ez (by rfl) (by rfl) ?_
   cbv
   iterate 2 refine kj ?_
   cases h
   exact hK1 _ ⟨(n1, _), hv1⟩ [] (Nat.lt_succ_self _) hdy
  ·refine cdF hb ?_; cbv
   replace h := rt_e h; obtain ⟨_, h, rfl⟩ := h
   cases hv1; refine hQ1 _ _ ?_; cbv
   refine kj ?_
   replace h := bd_e h; obtain ⟨w2, hw2, h⟩ := h
   refine CallK.mem 27 rfl rfl [(1000, 0)] _ _ _ _ (fun _ => PFunM.to hP (slices_insertionSortCmpFunc_Hours_ok (cap3 := []) hA (by first | exact .inl rfl | exact .inr ⟨_, rfl⟩) hq2 hw2)) (by rfl) (fun _ => ez) ez (by rfl) (by rfl) ?_
   cbv
   replace h := Loop_e h; obtain ⟨n2, hl2⟩ := h
   refine LoopK.q (X := Runs (slices_stableCmpFunc_Hours_B2 A x1 w2) _) (fun x gh => [(6, it IntKind.i64 x.1.2)]) (fun x gh => [⟨1000, 0, Cell.arr 61 TyS.hours w2⟩]) (fun x => x.1.1) ⟨(n2, _), hl2⟩ [] hdz ?_
   rintro ⟨⟨n2, blockSize6⟩, hr2⟩ gh2 g2 K2 Q2 hK2 hQ2
   obtain _ | n2 := n2
   ·exact (LoopN_z hr2).elim
   obtain ⟨v2, h, hv2⟩ := LoopN_e hr2
   cbv
   refine kj ?_
   replace h := br_e h; obtain ⟨hb, h⟩ | ⟨hb, h⟩ := h
   ·refine cdT hb ?_; cbv
    refine kj ?_
    replace h := Loop_e h; obtain ⟨n3, hl3⟩ := h
    refine LoopK.q (X := Runs (slices_stableCmpFunc_Hours_B1 A x1 blockSize6) _) (fun x gh => [(7, it IntKind.i64 x.1.2.1), (8, it IntKind.i64 x.1.2.2)]) (fun x gh => [⟨1000, 0, Cell.arr 61 TyS.hours w2⟩]) (fun x => x.1.1) ⟨(n3, _), hl3⟩ [] hdz ?_
    rintro ⟨⟨n3, a7', b8'⟩, hr3⟩ gh3 g3 K3 Q3 hK3 hQ3
    obtain _ | n3 := n3
    ·exact (LoopN_z hr3).elim
    obtain ⟨v3, h, hv3⟩ := LoopN_e hr3
    cbv
    refine kj ?_
    replace h := br_e h; obtain ⟨hb, h⟩ | ⟨hb, h⟩ := h
    ·refine cdT hb ?_; cbv
     refine kj ?_
     cases h
    ·refine cdF hb ?_; cbv
     replace h := rt_e h; obtain ⟨_, h, rfl⟩ := h
     cases hv3; refine hQ3 _ _ ?_; cbv
     iterate 2 refine kj ?_
     replace h := br_e h; obtain ⟨hb, h⟩ | ⟨hb, h⟩ := h
     ·refine cdT hb ?_; cbv
      refine kj ?_
      cases h
     ·refine cdF hb ?_; cbv
      refine kj ?_
      cases h
      exact hK2 _ ⟨(n2, _), hv2⟩ [] (Nat.lt_succ_self _) hdy
   ·refine cdF hb ?_; cbv
    replace h := rt_e h; obtain ⟨_, h, rfl⟩ := h
    cases hv2; refine hQ2 _ _ ?_; cbv
    cases h
    refine hR _ _ ⟨[], ⟨by rfl, ez, by rfl, ez⟩⟩
 ·refine PFunM.walkM (fz := fun _ => false) hA cx_ok Tryz.func220 rfl rfl fun P R hP hR => ?_
  cbv
  unfold slices_stableCmpFunc_Hours at h
  iterate 2 refine kj ?_
  replace h := Loop_e h; obtain ⟨n1, hl1⟩ := h
  refine LoopK.q (X := Runs (slices_stableCmpFunc_Hours_B3 A n0 x1 q2) _) (fun x gh => [(7, it IntKind.i64 x.1.2.1), (8, it IntKind.i64 x.1.2.2.1)]) (fun x gh => [⟨1000, 0, .arr 61 TyS.hours x.1.2.2.2⟩]) (fun x => x.1.1) ⟨(n1, _), hl1⟩ [] hdz ?_
  rintro ⟨⟨n1, a7, b8, row1000⟩, hr1⟩ gh1 g1 K1 Q1 hK1 hQ1
  obtain _ | n1 := n1
  ·exact (LoopN_z hr1).elim
  obtain ⟨v1, h, hv1⟩ := LoopN_e hr1
  cbv
  refine kj ?_
  replace h := br_e h; obtain ⟨hb, h⟩ | ⟨hb, h⟩ := h
  ·refine cdT hb ?_; cbv
   refine kj ?_
   replace h := bd_e h; obtain ⟨w1, hw1, h⟩ := h
   refine CallK.mem 18 rfl rfl [(1000, 0)] _ _ _ _ (fun _ => PFunM.to hP (slices_insertionSortCmpFunc_Hours_ok (cap3 := [D.ptr dscap2]) hA (by first | exact .inl rfl | exact .inr ⟨_, rfl⟩) hq2 hw1)) (by rfl) (fun _ => ez) ez (by rfl) (by rfl) ?_
   cbv
   iterate 2 refine kj ?_
   cases h
   exact hK1 _ ⟨(n1, _), hv1⟩ [] (Nat.lt_succ_self _) hdy
  ·refine cdF hb ?_; cbv
   replace h := rt_e h; obtain ⟨_, h, rfl⟩ := h
   cases hv1; refine hQ1 _ _ ?_; cbv
   refine kj ?_
   replace h := bd_e h; obtain ⟨w2, hw2, h⟩ := h
   refine CallK.mem 27 rfl rfl [(1000, 0)] _ _ _ _ (fun _ => PFunM.to hP (slices_insertionSortCmpFunc_Hours_ok (cap3 := [D.ptr dscap2]) hA (by first | exact .inl rfl | exact .inr ⟨_, rfl⟩) hq2 hw2)) (by rfl) (fun _ => ez) ez (by rfl) (by rfl) ?_
   cbv
   replace h := Loop_e h; obtain ⟨n2, hl2⟩ := h
   refine LoopK.q (X := Runs (slices_stableCmpFunc_Hours_B2 A x1 w2) _) (fun x gh => [(6, it IntKind.i64 x.1.2)]) (fun x gh => [⟨1000, 0, Cell.arr 61 TyS.hours w2⟩]) (fun x => x.1.1) ⟨(n2, _), hl2⟩ [] hdz ?_
   rintro ⟨⟨n2, blockSize6⟩, hr2⟩ gh2 g2 K2 Q2 hK2 hQ2
   obtain _ | n2 := n2
   ·exact (LoopN_z hr2).elim
   obtain ⟨v2, h, hv2⟩ := LoopN_e hr2
   cbv
   refine kj ?_
   replace h := br_e h; obtain ⟨hb, h⟩ | ⟨hb, h⟩ := h
   ·refine cdT hb ?_; cbv
    refine kj ?_
    replace h := Loop_e h; obtain ⟨n3, hl3⟩ := h
    refine LoopK.q (X := Runs (slices_stableCmpFunc_Hours_B1 A x1 blockSize6) _) (fun x gh => [(7, it IntKind.i64 x.1.2.1), (8, it IntKind.i64 x.1.2.2)]) (fun x gh => [⟨1000, 0, Cell.arr 61 TyS.hours w2⟩]) (fun x => x.1.1) ⟨(n3, _), hl3⟩ [] hdz ?_
    rintro ⟨⟨n3, a7', b8'⟩, hr3⟩ gh3 g3 K3 Q3 hK3 hQ3
    obtain _ | n3 := n3
    ·exact (LoopN_z hr3).elim
    obtain ⟨v3, h, hv3⟩ := LoopN_e hr3
    cbv
    refine kj ?_
    replace h := br_e h; obtain ⟨hb, h⟩ | ⟨hb, h⟩ := h
    ·refine cdT hb ?_; cbv
     refine kj ?_
     cases h
    ·refine cdF hb ?_; cbv
     replace h := rt_e h; obtain ⟨_, h, rfl⟩ := h
     cases hv3; refine hQ3 _ _ ?_; cbv
     iterate 2 refine kj ?_
     replace h := br_e h; obtain ⟨hb, h⟩ | ⟨hb, h⟩ := h
     ·refine cdT hb ?_; cbv
      refine kj ?_
      cases h
     ·refine cdF hb ?_; cbv
      refine kj ?_
      cases h
      exact hK2 _ ⟨(n2, _), hv2⟩ [] (Nat.lt_succ_self _) hdy
   ·refine cdF hb ?_; cbv
    replace h := rt_e h; obtain ⟨_, h, rfl⟩ := h
    cases hv2; refine hQ2 _ _ ?_; cbv
    cases h
    refine hR _ _ ⟨[], ⟨by rfl, ez, by rfl, ez⟩⟩
theorem slices_SortStableFunc_Hours_Hours_ok {A : Ar} (hA : A = std) {x0 : List Hours} {n0 : Int} {q1 : Hours → Hours → Option Int} {g1 : Nat} {cap1 : List D} (hcap1 : capOK cap1) (hq1 : ∀ (y0 : Hours) (y1 : Hours) (r : Int), q1 y0 y1 = some r → PFun cx g1 ((hoursPV y0) :: (hoursPV y1) :: un.uns cap1) (it .i64 r)) {r : List Hours} (h : slices_SortStableFunc_Hours_Hours A x0 n0 q1 = some r) : PFunM cx 142 [.ms 1000 0 TyS.hours 0 n0, .fn (.func g1) [] (un.uns cap1)] [⟨1000, 0, .arr 61 TyS.hours x0⟩] ((fun r : List Hours => (.tu [] : PV)) r) ((fun r : List Hours => ([⟨1000, 0, .arr 61 TyS.hours r⟩] : List En)) r) := by
 rcases hcap1 with rfl | ⟨dscap1, rfl⟩
 ·refine PFunM.walkM (fz := fun _ => false) hA cx_ok Tryz.func142 rfl rfl fun P R hP hR => ?_
  cbv
  unfold slices_SortStableFunc_Hours_Hours at h
  refine kj ?_
  replace h := bd_e h; obtain ⟨w1, hw1, h⟩ := h
  refine CallK.mem 8 rfl rfl [(1000, 0)] _ _ _ _ (fun _ => PFunM.to hP (slices_stableCmpFunc_Hours_ok (cap2 := []) hA (by first | exact .inl rfl | exact .inr ⟨_, rfl⟩) hq1 hw1)) (by rfl) (fun _ => ez) ez (by rfl) (by rfl) ?_
  cbv
  cases h
  refine hR _ _ ⟨[], ⟨by rfl, ez, by rfl, ez⟩⟩
 ·refine PFunM.walkM (fz := fun _ => false) hA cx_ok Tryz.func142 rfl rfl fun P R hP hR => ?_
  cbv
  unfold slices_SortStableFunc_Hours_Hours at h
  refine kj ?_
  replace h := bd_e h; obtain ⟨w1, hw1, h⟩ := h
  refine CallK.mem 8 rfl rfl [(1000, 0)] _ _ _ _ (fun _ => PFunM.to hP (slices_stableCmpFunc_Hours_ok (cap2 := [D.ptr dscap1]) hA (by first | exact .inl rfl | exact .inr ⟨_, rfl⟩) hq1 hw1)) (by rfl) (fun _ => ez) ez (by rfl) (by rfl) ?_
  cbv
  cases h
  refine hR _ _ ⟨[], ⟨by rfl, ez, by rfl, ez⟩⟩
theorem config_sorted_Hours_ok {A : Ar} (hA : A = std) {x0 : List Hours} {q1 : Hours → Option ByteArray} {g1 : Nat} {cap1 : List D} (hcap1 : capOK cap1) (hq1 : ∀ (y0 : Hours) (r : ByteArray), q1 y0 = some r → PFun cx g1 ((hoursPV y0) :: un.uns cap1) (st r)) {r : List Hours} (h : config_sorted_Hours A x0 q1 = some r) : PFun cx 51 [.d (.sl TyS.hours x0), .fn (.func g1) [] (un.uns cap1)] ((fun r : List Hours => (.d (.sl TyS.hours r) : PV)) r) := by
 rcases hcap1 with rfl | ⟨dscap1, rfl⟩
 ·refine PFun.walkF (fz := fun k => k == 3) hA cx_ok Tryz.func51 rfl rfl rfl fun P R hP hR => ?_
  cbv
  unfold config_sorted_Hours at h
  iterate 2 refine kj ?_
  replace h := bd_e h; obtain ⟨w1, hw1, h⟩ := h
  refine CallK.mem 7 rfl rfl [] _ _ _ _ (fun _ => PFunM.to hP (slices_Clone_Hours_Hours_ok hA hw1)) (by rfl) (fun _ => ez) ez (by rfl) (by rfl) ?_
  cbv
  refine kj ?_
  replace h := bd_e h; obtain ⟨w2, hw2, h⟩ := h
  refine CallK.mem 10 rfl rfl [(7, 1)] _ _ _ _ (fun _ => PFunM.to hP (slices_SortStableFunc_Hours_Hours_ok (cap1 := [D.ptr [D.fun (Fn.func g1) [] []]]) hA (by first | exact .inl rfl | exact .inr ⟨_, rfl⟩) (fun _ _ _ hw => config_sorted_Hours_1_ok (capc0 := []) hA (by first | exact .inl rfl | exact .inr ⟨_, rfl⟩) hq1 hw) hw2)) (by rfl) (fun _ => ez) ez (by rfl) (by rfl) ?_
  cbv
  refine kj ?_
  replace h := ck_e h; obtain ⟨c3, h⟩ := h; refine ⟨c3, ?_⟩
  cases h; subst hR; exact ey
 ·refine PFun.walkF (fz := fun k => k == 3) hA cx_ok Tryz.func51 rfl rfl rfl fun P R hP hR => ?_
  cbv
  unfold config_sorted_Hours at h
  iterate 2 refine kj ?_
  replace h := bd_e h; obtain ⟨w1, hw1, h⟩ := h
  refine CallK.mem 7 rfl rfl [] _ _ _ _ (fun _ => PFunM.to hP (slices_Clone_Hours_Hours_ok hA hw1)) (by rfl) (fun _ => ez) ez (by rfl) (by rfl) ?_
  cbv
  refine kj ?_
  replace h := bd_e h; obtain ⟨w2, hw2, h⟩ := h
  refine CallK.mem 10 rfl rfl [(7, 1)] _ _ _ _ (fun _ => PFunM.to hP (slices_SortStableFunc_Hours_Hours_ok (cap1 := [D.ptr [D.fun (Fn.func g1) [] [D.ptr dscap1]]]) hA (by first | exact .inl rfl | exact .inr ⟨_, rfl⟩) (fun _ _ _ hw => config_sorted_Hours_1_ok (capc0 := [D.ptr dscap1]) hA (by first | exact .inl rfl | exact .inr ⟨_, rfl⟩) hq1 hw) hw2)) (by rfl) (fun _ => ez) ez (by rfl) (by rfl) ?_
  cbv
  refine kj ?_
  replace h := ck_e h; obtain ⟨c3, h⟩ := h; refine ⟨c3, ?_⟩
  cases h; subst hR; exact ey
theorem slices_Clone_Inhibit_Inhibit_ok {A : Ar} (hA : A = std) {x0 : List Inhibit} {r : Int × List Inhibit} (h : slices_Clone_Inhibit_Inhibit A x0 = some r) : PFunM cx 144 [.d (.sl TyS.inhibit x0)] [] ((fun r : Int × List Inhibit => (.ms 2000 1 TyS.inhibit 0 r.1 : PV)) r) ((fun r : Int × List Inhibit => ([⟨2000, 1, .arr 58 TyS.inhibit r.2⟩] : List En)) r) := by
 refine PFunM.walkM (fz := fun k => k == 65541 || k == 65543 || k == 65538 || k == 65538 || k == 65538) hA cx_ok Tryz.func144 rfl rfl fun P R hP hR => ?_
 cbv
 unfold slices_Clone_Inhibit_Inhibit at h
 iterate 2 refine kj ?_
 replace h := both_e h; obtain ⟨h1, h2⟩ := h
 refine ⟨fun hc => ?_, ?_⟩
 ·have h := h1 hc
  clear h1 h2
  cbv
  refine kj ?_
  cases h
  refine hR _ _ ⟨[(2, 4)], ⟨by rfl, ez, by rfl, ez⟩⟩
 ·have h := h2
  clear h1 h2
  refine kj ?_
  replace h := ck_e h; obtain ⟨c1, h⟩ := h; refine ⟨c1, ?_⟩
  cases h
  refine hR _ _ ⟨[(7, 4)], ⟨by rfl, ez, by rfl, ez⟩⟩
theorem config_sorted_Inhibit_1_ok {A : Ar} (hA : A = std) {x0 : Inhibit} {x1 : Inhibit} {c0 : Bool} {r : Int × Bool} (h : config_sorted_Inhibit_1 A x0 x1 c0 = some r) : PFunM cx 146 [inhibitPV x0, inhibitPV x1, .bx 1000 0 0] [⟨1000, 0, .box 69 [.fn (.func 45) [] [.bx 1001 0 0]]⟩, ⟨1001, 0, .box 4 [bl c0]⟩] ((fun r : Int × Bool => (it .i64 r.1 : PV)) r) ((fun r : Int × Bool => ([⟨1000, 0, .box 69 [.fn (.func 45) [] [.bx 1001 0 0]]⟩, ⟨1001, 0, .box 4 [bl r.2]⟩] : List En)) r) := by
 refine PFunM.walkM (fz := fun _ => false) hA cx_ok Tryz.func146 rfl rfl fun P R hP hR => ?_
 cbv
 unfold config_sorted_Inhibit_1 at h
 iterate 2 refine kj ?_
 replace h := bd_e h; obtain ⟨w1, hw1, h⟩ := h
 refine CallK.mem 8 rfl rfl [(1001, 0)] _ _ _ _ (fun _ => PFunM.to hP (config_Normal_1_ok hA hw1)) (by rfl) (fun _ => ez) ez (by rfl) (by rfl) ?_
 cbv
 replace h := bd_e h; obtain ⟨w2, hw2, h⟩ := h
 refine CallK.mem 11 rfl rfl [(1001, 0)] _ _ _ _ (fun _ => PFunM.to hP (config_Normal_1_ok hA hw2)) (by rfl) (fun _ => ez) ez (by rfl) (by rfl) ?_
 cbv
 replace h := bd_e h; obtain ⟨w3, hw3, h⟩ := h
 refine CallK.mk _ (by rfl) (fun _ => PFun.to hP (strings_Compare_ok hA hw3)) ?_
 cbv
 refine kj ?_
 cases h
 refine hR _ _ ⟨[], ⟨by rfl, ez, by rfl, ez⟩⟩
theorem slices_insertionSortCmpFunc_Inhibit_ok {A : Ar} (hA : A = std) {x0 : List Inhibit} {n0 : Int} {x1 : Int} {x2 : Int} {c0 : Bool} {r : List Inhibit × Bool} (h : slices_insertionSortCmpFunc_Inhibit A x0 n0 x1 x2 c0 = some r) : PFunM cx 280 [.ms 1000 0 TyS.inhibit 0 n0, it .i64 x1, it .i64 x2, .fn (.func 146) [] [.bx 1001 0 0]] [⟨1000, 0, .arr 58 TyS.inhibit x0⟩, ⟨1001, 0, .box 69 [.fn (.func 45) [] [.bx 1002 0 0]]⟩, ⟨1002, 0, .box 4 [bl c0]⟩] ((fun r : List Inhibit × Bool => (.tu [] : PV)) r) ((fun r : List Inhibit × Bool => ([⟨1000, 0, .arr 58 TyS.inhibit r.1⟩, ⟨1001, 0, .box 69 [.fn (.func 45) [] [.bx 1002 0 0]]⟩, ⟨1002, 0, .box 4 [bl r.2]⟩] : List En)) r) := by
 refine PFunM.walkM (fz := fun k => k == 196629) hA cx_ok Tryz.func280 rfl rfl fun P R hP hR => ?_
 cbv
 unfold slices_insertionSortCmpFunc_Inhibit at h
 refine kj ?_
 replace h := Loop_e h; obtain ⟨n1, hl1⟩ := h
 refine LoopK.q (X := Runs (slices_insertionSortCmpFunc_Inhibit_B2 A n0 x1 x2) _) (fun x gh => [(8, it IntKind.i64 x.1.2.1)]) (fun x gh => [⟨1001, 0, .box 69 [PV.fn (Fn.func 45) [] [PV.bx 1002 0 0]]⟩, ⟨1002, 0, .box 4 [bl x.1.2.2.1]⟩, ⟨1000, 0, .arr 58 TyS.inhibit x.1.2.2.2⟩]) (fun x => x.1.1) ⟨(n1, _), hl1⟩ [] hdz ?_
 rintro ⟨⟨n1, i8, b0_1002, row1000⟩, hr1⟩ gh1 g1 K1 Q1 hK1 hQ1
 obtain _ | n1 := n1
 ·exact (LoopN_z hr1).elim
 obtain ⟨v1, h, hv1⟩ := LoopN_e hr1
 cbv
 refine kj ?_
 replace h := br_e h; obtain ⟨hb, h⟩ | ⟨hb, h⟩ := h
 ·refine cdT hb ?_; cbv
  refine kj ?_
  replace h := Loop_e h; obtain ⟨n2, hl2⟩ := h
  refine LoopK.q (X := Runs (slices_insertionSortCmpFunc_Inhibit_B1 A n0 x1 i8) _) (fun x gh => [(9, it IntKind.i64 x.1.2.1)]) (fun x gh => [⟨1001, 0, .box 69 [PV.fn (Fn.func 45) [] [PV.bx 1002 0 0]]⟩, ⟨1002, 0, .box 4 [bl x.1.2.2.1]⟩, ⟨1000, 0, .arr 58 TyS.inhibit x.1.2.2.2⟩]) (fun x => x.1.1) ⟨(n2, _), hl2⟩ [] hdz ?_
  rintro ⟨⟨n2, j9, b0_1002', row1000'⟩, hr2⟩ gh2 g2 K2 Q2 hK2 hQ2
  obtain _ | n2 := n2
  ·exact (LoopN_z hr2).elim
  obtain ⟨v2, h, hv2⟩ := LoopN_e hr2
  cbv
  refine kj ?_
  replace h := br_e h; obtain ⟨hb, h⟩ | ⟨hb, h⟩ := h
  ·refine selT hb ?_
   cbv
   replace h := ck_e h; obtain ⟨c1, h⟩ := h; refine ⟨c1, ?_⟩
   replace h := ck_e h; obtain ⟨c2, h⟩ := h; refine ⟨c2, ?_⟩
   replace h := ck_e h; obtain ⟨c3, h⟩ := h; refine ⟨c3, ?_⟩
   replace h := ck_e h; obtain ⟨c4, h⟩ := h; refine ⟨c4, ?_⟩
   replace h := bd_e h; obtain ⟨w5, hw5, h⟩ := h
   refine CallK.mem 32 rfl rfl [(1001, 0), (1002, 0)] _ _ _ _ (fun _ => PFunM.to hP (config_sorted_Inhibit_1_ok hA hw5)) (by rfl) (fun _ => ez) ez (by rfl) (by rfl) ?_
   cbv
   refine kj ?_
   replace h := br_e h; obtain ⟨hb, h⟩ | ⟨hb, h⟩ := h
   ·refine cdT hb ?_; cbv
    refine kj ?_
    refine ⟨c3, ?_⟩
    refine ⟨c4, ?_⟩
    refine ⟨c1, ?_⟩
    refine ⟨c2, ?_⟩
    refine ⟨c1, ?_⟩
    refine ⟨c2, ?_⟩
    refine ⟨c3, ?_⟩
    replace h := ck_e h; obtain ⟨c6, h⟩ := h; refine ⟨c6, ?_⟩
    iterate 2 refine kj ?_
    cases h
    exact hK2 _ ⟨(n2, _), hv2⟩ [] (Nat.lt_succ_self _) hdy
   ·refine cdF hb ?_; cbv
    replace h := rt_e h; obtain ⟨_, h, rfl⟩ := h
    cases hv2; refine hQ2 _ _ ?_; cbv
    refine kj ?_
    cases h
    exact hK1 _ ⟨(n1, _), hv1⟩ [] (Nat.lt_succ_self _) hdy
  ·refine selF hb ?_
   cbv
   refine kj ?_
   replace h := br_e h; obtain ⟨hb, h⟩ | ⟨hb, h⟩ := h
   ·refine cdT hb ?_; cbv
    refine kj ?_
    replace h := ck_e h; obtain ⟨c7, h⟩ := h; refine ⟨c7, ?_⟩
    replace h := ck_e h; obtain ⟨c8, h⟩ := h; refine ⟨c8, ?_⟩
    replace h := ck_e h; obtain ⟨c9, h⟩ := h; refine ⟨c9, ?_⟩
    replace h := ck_e h; obtain ⟨c10, h⟩ := h; refine ⟨c10, ?_⟩
    refine ⟨c9, ?_⟩
    refine ⟨c10, ?_⟩
    refine ⟨c7, ?_⟩
    replace h := ck_e h; obtain ⟨c11, h⟩ := h; refine ⟨c11, ?_⟩
    iterate 2 refine kj ?_
    cases h
    exact hK2 _ ⟨(n2, _), hv2⟩ [] (Nat.lt_succ_self _) hdy
   ·refine cdF hb ?_; cbv
    replace h := rt_e h; obtain ⟨_, h, rfl⟩ := h
    cases hv2; refine hQ2 _ _ ?_; cbv
    refine kj ?_
    cases h
    exact hK1 _ ⟨(n1, _), hv1⟩ [] (Nat.lt_succ_self _) hdy
 ·refine cdF hb ?_; cbv
  replace h := rt_e h; obtain ⟨_, h, rfl⟩ := h
  cases hv1; refine hQ1 _ _ ?_; cbv
  cases h
  refine hR _ _ ⟨[], ⟨by rfl, ez, by rfl, ez⟩⟩
theorem slices_stableCmpFunc_Inhibit_ok {A : Ar} (hA : A = std) {x0 : List Inhibit} {n0 : Int} {x1 : Int} {c0 : Bool} {r : List Inhibit × Bool} (h : slices_stableCmpFunc_Inhibit A x0 n0 x1 c0 = some r) : PFunM cx 221 [.ms 1000 0 TyS.inhibit 0 n0, it .i64 x1, .fn (.func 146) [] [.bx 1001 0 0]] [⟨1000, 0, .arr 58 TyS.inhibit x0⟩, ⟨1001, 0, .box 69 [.fn (.func 45) [] [.bx 1002 0 0]]⟩, ⟨1002, 0, .box 4 [bl c0]⟩] ((fun r : List Inhibit × Bool => (.tu [] : PV)) r) ((fun r : List Inhibit × Bool => ([⟨1000, 0, .arr 58 TyS.inhibit r.1⟩, ⟨1001, 0, .box 69 [.fn (.func 45) [] [.bx 1002 0 0]]⟩, ⟨1002, 0, .box 4 [bl r.2]⟩] : List En)) r) := by
 refine PFunM.walkM (fz := fun _ => false) hA cx_ok Tryz.func221 rfl rfl fun P R hP hR => ?_
 cbv
 unfold slices_stableCmpFunc_Inhibit at h
 iterate 2 refine kj ?_
 replace h := Loop_e h; obtain ⟨n1, hl1⟩ := h
 refine LoopK.q (X := Runs (slices_stableCmpFunc_Inhibit_B3 A n0 x1) _) (fun x gh => [(7, it IntKind.i64 x.1.2.1), (8, it IntKind.i64 x.1.2.2.1)]) (fun x gh => [⟨1001, 0, .box 69 [PV.fn (Fn.func 45) [] [PV.bx 1002 0 0]]⟩, ⟨1002, 0, .box 4 [bl x.1.2.2.2.1]⟩, ⟨1000, 0, .arr 58 TyS.inhibit x.1.2.2.2.2⟩]) (fun x => x.1.1) ⟨(n1, _), hl1⟩ [] hdz ?_
 rintro ⟨⟨n1, a7, b8, b0_1002, row1000⟩, hr1⟩ gh1 g1 K1 Q1 hK1 hQ1
 obtain _ | n1 := n1
 ·exact (LoopN_z hr1).elim
 obtain ⟨v1, h, hv1⟩ := LoopN_e hr1
 cbv
 refine kj ?_
 replace h := br_e h; obtain ⟨hb, h⟩ | ⟨hb, h⟩ := h
 ·refine cdT hb ?_; cbv
  refine kj ?_
  replace h := bd_e h; obtain ⟨w1, hw1, h⟩ := h
  refine CallK.mem 18 rfl rfl [(1000, 0), (1001, 0), (1002, 0)] _ _ _ _ (fun _ => PFunM.to hP (slices_insertionSortCmpFunc_Inhibit_ok hA hw1)) (by rfl) (fun _ => ez) ez (by rfl) (by rfl) ?_
  cbv
  iterate 2 refine kj ?_
  cases h
  exact hK1 _ ⟨(n1, _), hv1⟩ [] (Nat.lt_succ_self _) hdy
 ·refine cdF hb ?_; cbv
  replace h := rt_e h; obtain ⟨_, h, rfl⟩ := h
  cases hv1; refine hQ1 _ _ ?_; cbv
  refine kj ?_
  replace h := bd_e h; obtain ⟨w2, hw2, h⟩ := h
  refine CallK.mem 27 rfl rfl [(1000, 0), (1001, 0), (1002, 0)] _ _ _ _ (fun _ => PFunM.to hP (slices_insertionSortCmpFunc_Inhibit_ok hA hw2)) (by rfl) (fun _ => ez) ez (by rfl) (by rfl) ?_
  cbv
  replace h := Loop_e h; obtain ⟨n2, hl2⟩ := h
  refine LoopK.q (X := Runs (slices_stableCmpFunc_Inhibit_B2 A x1 w2) _) (fun x gh => [(6, it IntKind.i64 x.1.2)]) (fun x gh => [⟨1001, 0, .box 69 [PV.fn (Fn.func 45) [] [PV.bx 1002 0 0]]⟩, ⟨1002, 0, .box 4 [PV.d (D.v (Value.bool w2.2))]⟩, ⟨1000, 0, Cell.arr 58 TyS.inhibit w2.1⟩]) (fun x => x.1.1) ⟨(n2, _), hl2⟩ [] hdz ?_
  rintro ⟨⟨n2, blockSize6⟩, hr2⟩ gh2 g2 K2 Q2 hK2 hQ2
  obtain _ | n2 := n2
  ·exact (LoopN_z hr2).elim
  obtain ⟨v2, h, hv2⟩ := LoopN_e hr2
  cbv
  refine kj ?_
  replace h := br_e h; obtain ⟨hb, h⟩ | ⟨hb, h⟩ := h
  ·refine cdT hb ?_; cbv
   refine kj ?_
   replace h := Loop_e h; obtain ⟨n3, hl3⟩ := h
   refine LoopK.q (X := Runs (slices_stableCmpFunc_Inhibit_B1 A x1 blockSize6) _) (fun x gh => [(7, it IntKind.i64 x.1.2.1), (8, it IntKind.i64 x.1.2.2)]) (fun x gh => [⟨1001, 0, .box 69 [PV.fn (Fn.func 45) [] [PV.bx 1002 0 0]]⟩, ⟨1002, 0, .box 4 [PV.d (D.v (Value.bool w2.2))]⟩, ⟨1000, 0, Cell.arr 58 TyS.inhibit w2.1⟩]) (fun x => x.1.1) ⟨(n3, _), hl3⟩ [] hdz ?_
   rintro ⟨⟨n3, a7', b8'⟩, hr3⟩ gh3 g3 K3 Q3 hK3 hQ3
   obtain _ | n3 := n3
   ·exact (LoopN_z hr3).elim
   obtain ⟨v3, h, hv3⟩ := LoopN_e hr3
   cbv
   refine kj ?_
   replace h := br_e h; obtain ⟨hb, h⟩ | ⟨hb, h⟩ := h
   ·refine cdT hb ?_; cbv
    refine kj ?_
    cases h
   ·refine cdF hb ?_; cbv
    replace h := rt_e h; obtain ⟨_, h, rfl⟩ := h
    cases hv3; refine hQ3 _ _ ?_; cbv
    iterate 2 refine kj ?_
    replace h := br_e h; obtain ⟨hb, h⟩ | ⟨hb, h⟩ := h
    ·refine cdT hb ?_; cbv
     refine kj ?_
     cases h
    ·refine cdF hb ?_; cbv
     refine kj ?_
     cases h
     exact hK2 _ ⟨(n2, _), hv2⟩ [] (Nat.lt_succ_self _) hdy
  ·refine cdF hb ?_; cbv
   replace h := rt_e h; obtain ⟨_, h, rfl⟩ := h
   cases hv2; refine hQ2 _ _ ?_; cbv
   cases h
   refine hR _ _ ⟨[], ⟨by rfl, ez, by rfl, ez⟩⟩
theorem slices_SortStableFunc_Inhibit_Inhibit_ok {A : Ar} (hA : A = std) {x0 : List Inhibit} {n0 : Int} {c0 : Bool} {r : List Inhibit × Bool} (h : slices_SortStableFunc_Inhibit_Inhibit A x0 n0 c0 = some r) : PFunM cx 145 [.ms 1000 0 TyS.inhibit 0 n0, .fn (.func 146) [] [.bx 1001 0 0]] [⟨1000, 0, .arr 58 TyS.inhibit x0⟩, ⟨1001, 0, .box 69 [.fn (.func 45) [] [.bx 1002 0 0]]⟩, ⟨1002, 0, .box 4 [bl c0]⟩] ((fun r : List Inhibit × Bool => (.tu [] : PV)) r) ((fun r : List Inhibit × Bool => ([⟨1000, 0, .arr 58 TyS.inhibit r.1⟩, ⟨1001, 0, .box 69 [.fn (.func 45) [] [.bx 1002 0 0]]⟩, ⟨1002, 0, .box 4 [bl r.2]⟩] : List En)) r) := by
 refine PFunM.walkM (fz := fun _ => false) hA cx_ok Tryz.func145 rfl rfl fun P R hP hR => ?_
 cbv
 unfold slices_SortStableFunc_Inhibit_Inhibit at h
 refine kj ?_
 replace h := bd_e h; obtain ⟨w1, hw1, h⟩ := h
 refine CallK.mem 8 rfl rfl [(1000, 0), (1001, 0), (1002, 0)] _ _ _ _ (fun _ => PFunM.to hP (slices_stableCmpFunc_Inhibit_ok hA hw1)) (by rfl) (fun _ => ez) ez (by rfl) (by rfl) ?_
 cbv
 cases h
 refine hR _ _ ⟨[], ⟨by rfl, ez, by rfl, ez⟩⟩
theorem config_sorted_Inhibit_ok {A : Ar} (hA : A = std) {x0 : List Inhibit} {c0 : Bool} {r : Int × List Inhibit × Bool} (h : config_sorted_Inhibit A x0 c0 = some r) : PFunM cx 54 [.d (.sl TyS.inhibit x0), .fn (.func 45) [] [.bx 1000 0 0]] [⟨1000, 0, .box 4 [bl c0]⟩] ((fun r : Int × List Inhibit × Bool => (.ms 2000 1 TyS.inhibit 0 r.1 : PV)) r) ((fun r : Int × List Inhibit × Bool => ([⟨1000, 0, .box 4 [bl r.2.2]⟩, ⟨2000, 1, .arr 58 TyS.inhibit r.2.1⟩] : List En)) r) := by
 refine PFunM.walkM (fz := fun _ => false) hA cx_ok Tryz.func54 rfl rfl fun P R hP hR => ?_
 cbv
 unfold config_sorted_Inhibit at h
 iterate 2 refine kj ?_
 replace h := bd_e h; obtain ⟨w1, hw1, h⟩ := h
 refine CallK.mem 7 rfl rfl [] _ _ _ _ (fun _ => PFunM.to hP (slices_Clone_Inhibit_Inhibit_ok hA hw1)) (by rfl) (fun _ => ez) ez (by rfl) (by rfl) ?_
 cbv
 refine kj ?_
 replace h := bd_e h; obtain ⟨w2, hw2, h⟩ := h
 refine CallK.mem 10 rfl rfl [(7, 3), (3, 2), (1000, 0)] _ _ _ _ (fun _ => PFunM.to hP (slices_SortStableFunc_Inhibit_Inhibit_ok hA hw2)) (by rfl) (fun _ => ez) ez (by rfl) (by rfl) ?_
 cbv
 refine kj ?_
 cases h
 refine hR _ _ ⟨[(7, 3)], ⟨by rfl, ez, by rfl, ez⟩⟩
theorem config_Normal_2_ok {A : Ar} (hA : A = std) {x0 : Inhibit} {x1 : Inhibit} {c0 : Bool} {r : Bool × Bool} (h : config_Normal_2 A x0 x1 c0 = some r) : PFunM cx 55 [inhibitPV x0, inhibitPV x1, .bx 1000 0 0] [⟨1000, 0, .box 69 [.fn (.func 45) [] [.bx 1001 0 0]]⟩, ⟨1001, 0, .box 4 [bl c0]⟩] ((fun r : Bool × Bool => (bl r.1 : PV)) r) ((fun r : Bool × Bool => ([⟨1000, 0, .box 69 [.fn (.func 45) [] [.bx 1001 0 0]]⟩, ⟨1001, 0, .box 4 [bl r.2]⟩] : List En)) r) := by
 refine PFunM.walkM (fz := fun _ => false) hA cx_ok Tryz.func55 rfl rfl fun P R hP hR => ?_
 cbv
 unfold config_Normal_2 at h
 iterate 2 refine kj ?_
 replace h := bd_e h; obtain ⟨w1, hw1, h⟩ := h
 refine CallK.mem 8 rfl rfl [(1001, 0)] _ _ _ _ (fun _ => PFunM.to hP (config_Normal_1_ok hA hw1)) (by rfl) (fun _ => ez) ez (by rfl) (by rfl) ?_
 cbv
 replace h := bd_e h; obtain ⟨w2, hw2, h⟩ := h
 refine CallK.mem 11 rfl rfl [(1001, 0)] _ _ _ _ (fun _ => PFunM.to hP (config_Normal_1_ok hA hw2)) (by rfl) (fun _ => ez) ez (by rfl) (by rfl) ?_
 cbv
 refine kj ?_
 cases h
 refine hR _ _ ⟨[], ⟨by rfl, ez, by rfl, ez⟩⟩
theorem slices_CompactFunc_Inhibit_Inhibit_ok {A : Ar} (hA : A = std) {x0 : List Inhibit} {n0 : Int} {c0 : Bool} {r : Int × Int × List Inhibit × Bool} (h : slices_CompactFunc_Inhibit_Inhibit A x0 n0 c0 = some r) : PFunM cx 53 [.ms 1000 0 TyS.inhibit 0 n0, .fn (.func 55) [] [.bx 1001 0 0]] [⟨1000, 0, .arr 58 TyS.inhibit x0⟩, ⟨1001, 0, .box 69 [.fn (.func 45) [] [.bx 1002 0 0]]⟩, ⟨1002, 0, .box 4 [bl c0]⟩] ((fun r : Int × Int × List Inhibit × Bool => (.ms 1000 0 TyS.inhibit r.1 r.2.1 : PV)) r) ((fun r : Int × Int × List Inhibit × Bool => ([⟨1000, 0, .arr 58 TyS.inhibit r.2.2.1⟩, ⟨1001, 0, .box 69 [.fn (.func 45) [] [.bx 1002 0 0]]⟩, ⟨1002, 0, .box 4 [bl r.2.2.2]⟩] : List En)) r) := by
 refine PFunM.walkM (fz := fun _ => false) hA cx_ok Tryz.func53 rfl rfl fun P R hP hR => ?_
 cbv
 unfold slices_CompactFunc_Inhibit_Inhibit at h
 iterate 2 refine kj ?_
 replace h := br_e h; obtain ⟨hb, h⟩ | ⟨hb, h⟩ := h
 ·refine cdT hb ?_; cbv
  refine kj ?_
  cases h
  refine hR _ _ ⟨[], ⟨by rfl, ez, by rfl, ez⟩⟩
 ·refine cdF hb ?_; cbv
  refine kj ?_
  replace h := Loop_e h; obtain ⟨n1, hl1⟩ := h
  refine LoopK.q (X := Runs (slices_CompactFunc_Inhibit_Inhibit_B2 A x0 n0) _) (fun x gh => [(5, it IntKind.i64 x.1.2.1)]) (fun x gh => [⟨1001, 0, .box 69 [PV.fn (Fn.func 45) [] [PV.bx 1002 0 0]]⟩, ⟨1002, 0, .box 4 [bl x.1.2.2]⟩, ⟨1000, 0, Cell.arr 58 TyS.inhibit x0⟩]) (fun x => x.1.1) ⟨(n1, _), hl1⟩ [] hdz ?_
  rintro ⟨⟨n1, t5, b0_1002⟩, hr1⟩ gh1 g1 K1 Q1 hK1 hQ1
  obtain _ | n1 := n1
  ·exact (LoopN_z hr1).elim
  obtain ⟨v1, h, hv1⟩ := LoopN_e hr1
  cbv
  refine kj ?_
  replace h := br_e h; obtain ⟨hb, h⟩ | ⟨hb, h⟩ := h
  ·refine cdT hb ?_; cbv
   refine kj ?_
   replace h := ck_e h; obtain ⟨c1, h⟩ := h; refine ⟨c1, ?_⟩
   replace h := ck_e h; obtain ⟨c2, h⟩ := h; refine ⟨c2, ?_⟩
   replace h := ck_e h; obtain ⟨c3, h⟩ := h; refine ⟨c3, ?_⟩
   replace h := ck_e h; obtain ⟨c4, h⟩ := h; refine ⟨c4, ?_⟩
   replace h := bd_e h; obtain ⟨w5, hw5, h⟩ := h
   refine CallK.mem 28 rfl rfl [(1001, 0), (1002, 0)] _ _ _ _ (fun _ => PFunM.to hP (config_Normal_2_ok hA hw5)) (by rfl) (fun _ => ez) ez (by rfl) (by rfl) ?_
   cbv
   refine kj ?_
   replace h := br_e h; obtain ⟨hb, h⟩ | ⟨hb, h⟩ := h
   ·refine cdT hb ?_; cbv
    refine kj ?_
    replace h := ck_e h; obtain ⟨c6, h⟩ := h; refine ⟨c6, ?_⟩
    refine kj ?_
    replace h := Loop_e h; obtain ⟨n2, hl2⟩ := h
    refine LoopK.q (X := Runs (slices_CompactFunc_Inhibit_Inhibit_B1 A n0 t5) _) (fun x gh => [(5, it IntKind.i64 x.1.2.1), (7, it IntKind.i64 x.1.2.2.1)]) (fun x gh => [⟨1001, 0, .box 69 [PV.fn (Fn.func 45) [] [PV.bx 1002 0 0]]⟩, ⟨1002, 0, .box 4 [bl x.1.2.2.2.1]⟩, ⟨1000, 0, .arr 58 TyS.inhibit x.1.2.2.2.2⟩]) (fun x => x.1.1) ⟨(n2, _), hl2⟩ [] hdz ?_
    rintro ⟨⟨n2, t5', t7, b0_1002', row1000⟩, hr2⟩ gh2 g2 K2 Q2 hK2 hQ2
    obtain _ | n2 := n2
    ·exact (LoopN_z hr2).elim
    obtain ⟨v2, h, hv2⟩ := LoopN_e hr2
    cbv
    refine kj ?_
    replace h := br_e h; obtain ⟨hb, h⟩ | ⟨hb, h⟩ := h
    ·refine cdT hb ?_; cbv
     refine kj ?_
     replace h := ck_e h; obtain ⟨c7, h⟩ := h; refine ⟨c7, ?_⟩
     replace h := ck_e h; obtain ⟨c8, h⟩ := h; refine ⟨c8, ?_⟩
     replace h := ck_e h; obtain ⟨c9, h⟩ := h; refine ⟨c9, ?_⟩
     replace h := ck_e h; obtain ⟨c10, h⟩ := h; refine ⟨c10, ?_⟩
     replace h := bd_e h; obtain ⟨w11, hw11, h⟩ := h
     refine CallK.mem 48 rfl rfl [(1001, 0), (1002, 0)] _ _ _ _ (fun _ => PFunM.to hP (config_Normal_2_ok hA hw11)) (by rfl) (fun _ => ez) ez (by rfl) (by rfl) ?_
     cbv
     refine kj ?_
     replace h := br_e h; obtain ⟨hb, h⟩ | ⟨hb, h⟩ := h
     ·refine cdT hb ?_; cbv
      refine kj ?_
      refine ⟨c7, ?_⟩
      refine ⟨c8, ?_⟩
      replace h := ck_e h; obtain ⟨c12, h⟩ := h; refine ⟨c12, ?_⟩
      replace h := ck_e h; obtain ⟨c13, h⟩ := h; refine ⟨c13, ?_⟩
      iterate 2 refine kj ?_
      cases h
      exact hK2 _ ⟨(n2, _), hv2⟩ [] (Nat.lt_succ_self _) hdy
     ·refine cdF hb ?_; cbv
      refine kj ?_
      cases h
      exact hK2 _ ⟨(n2, _), hv2⟩ [] (Nat.lt_succ_self _) hdy
    ·refine cdF hb ?_; cbv
     replace h := rt_e h; obtain ⟨_, h, rfl⟩ := h
     cases hv2; refine hQ2 _ _ ?_; cbv
     refine kj ?_
     replace h := ck_e h; obtain ⟨c14, h⟩ := h; refine ⟨c14, ?_⟩
     replace h := ck_e h; obtain ⟨c15, h⟩ := h; refine ⟨c15, ?_⟩
     refine kj ?_
     replace h := ck_e h; obtain ⟨c16, h⟩ := h; refine ⟨c16, ?_⟩
     replace h := rt_e h; obtain ⟨_, h, rfl⟩ := h
     cases hv1; refine hQ1 _ _ ?_; cbv
     cases h
     refine hR _ _ ⟨[], ⟨by rfl, ez, by rfl, ez⟩⟩
   ·refine cdF hb ?_; cbv
    refine kj ?_
    cases h
    exact hK1 _ ⟨(n1, _), hv1⟩ [] (Nat.lt_succ_self _) hdy
  ·refine cdF hb ?_; cbv
   replace h := rt_e h; obtain ⟨_, h, rfl⟩ := h
   cases hv1; refine hQ1 _ _ ?_; cbv
   refine kj ?_
   cases h
   refine hR _ _ ⟨[], ⟨by rfl, ez, by rfl, ez⟩⟩
theorem config_Normal_ok {A : Ar} (hA : A = std) {x0 : Config} {r : Config × Int} (h : config_Normal A x0 = some r) : PFun cx 15 [configPV x0] ((fun r : Config × Int => (.tu [configPV r.1, it .i64 r.2] : PV)) r) := by
 refine PFun.walkF (fz := fun _ => false) hA cx_ok Tryz.func15 rfl rfl rfl fun P R hP hR => ?_
 cbv
 unfold config_Normal at h
 iterate 2 refine kj ?_
 replace h := bd_e h; obtain ⟨w1, hw1, h⟩ := h
 refine CallK.mk _ (by rfl) (fun _ => PFun.to hP (config_Right_ok hA hw1)) ?_
 cbv
 replace h := br_e h; obtain ⟨hb, h⟩ | ⟨hb, h⟩ := h
 ·refine cdT hb ?_; cbv
  refine kj ?_
  cases h; subst hR; exact ey
 ·refine cdF hb ?_; cbv
  iterate 3 refine kj ?_
  replace h := bd_e h; obtain ⟨w2, hw2, h⟩ := h
  refine CallK.le _ _ (by rfl) (fun _ => ey) (fun _ => PFun.to hP (config_sorted_Rule_ok (cap1 := []) hA (by first | exact .inl rfl | exact .inr ⟨_, rfl⟩) (fun _ _ hw => config_ruled_ok hA hw) hw2)) ?_
  cbv
  replace h := bd_e h; obtain ⟨w3, hw3, h⟩ := h
  refine CallK.le _ _ (by rfl) (fun _ => ey) (fun _ => PFun.to hP (config_sorted_string_ok (cap1 := []) hA (by first | exact .inl rfl | exact .inr ⟨_, rfl⟩) (fun _ _ hw => config_itself_ok hA hw) hw3)) ?_
  cbv
  replace h := bd_e h; obtain ⟨w4, hw4, h⟩ := h
  refine CallK.le _ _ (by rfl) (fun _ => ey) (fun _ => PFun.to hP (config_sorted_Hours_ok (cap1 := []) hA (by first | exact .inl rfl | exact .inr ⟨_, rfl⟩) (fun _ _ hw => config_houred_ok hA hw) hw4)) ?_
  cbv
  iterate 2 refine kj ?_
  replace h := bd_e h; obtain ⟨w5, hw5, h⟩ := h
  refine CallK.mem 26 rfl rfl [(4, 2)] _ _ _ _ (fun _ => PFunM.to hP (config_sorted_Inhibit_ok hA hw5)) (by rfl) (fun _ => ez) ez (by rfl) (by rfl) ?_
  cbv
  replace h := bd_e h; obtain ⟨w6, hw6, h⟩ := h
  refine CallK.mem 28 rfl rfl [(26, 5), (5, 3), (4, 2)] _ _ _ _ (fun _ => PFunM.to hP (slices_CompactFunc_Inhibit_Inhibit_ok hA hw6)) (by rfl) (fun _ => ez) ez (by rfl) (by rfl) ?_
  cbv
  refine kj ?_
  replace h := ck_e h; obtain ⟨c7, h⟩ := h; refine ⟨c7, ?_⟩
  cases h; subst hR; exact ey
theorem transhipmentlaw10_alive_ok {A : Ar} (hA : A = std) {r : Bool} (h : transhipmentlaw10_alive A = some r) : PFun cx 14 [] ((fun r : Bool => (bl r : PV)) r) := by
 refine PFun.walkF (fz := fun _ => false) hA cx_ok Tryz.func14 rfl rfl rfl fun P R hP hR => ?_
 cbv
 unfold transhipmentlaw10_alive at h
 iterate 2 refine kj ?_
 replace h := bd_e h; obtain ⟨w1, hw1, h⟩ := h
 refine CallK.le _ _ (by rfl) (fun _ => ey) (fun _ => PFun.to hP (config_Normal_ok hA hw1)) ?_
 cbv
 refine kj ?_
 iterate 8 refine cj ?_
 replace h := ck_e h; obtain ⟨c2, h⟩ := h; refine ⟨c2, ?_⟩
 iterate 5 refine cj ?_
 replace h := bd_e h; obtain ⟨w3, hw3, h⟩ := h
 refine CallK.mk _ (by rfl) (fun hc => PFun.to hP (config_Right_ok hA (gd_e hw3 hc))) ?_
 cbv
 refine cj ?_
 cases h; subst hR; exact ey
theorem transhipmentref06_Word_ok {A : Ar} (hA : A = std) {x0 : ByteArray} {r : Bool} (h : transhipmentref06_Word A x0 = some r) : PFun cx 21 [st x0] ((fun r : Bool => (bl r : PV)) r) := by
 refine PFun.walkF (fz := fun _ => false) hA cx_ok Tryz.func21 rfl rfl rfl fun P R hP hR => ?_
 cbv
 unfold transhipmentref06_Word at h
 iterate 2 refine kj ?_
 replace h := Loop_e h; obtain ⟨n1, hl1⟩ := h
 refine LoopK.q (X := Runs (transhipmentref06_Word_B1 A x0) _) (fun x gh => [(2, bl x.1.2.1), (3, it IntKind.i64 x.1.2.2)]) (fun x gh => []) (fun x => x.1.1) ⟨(n1, _), hl1⟩ [] hdz ?_
 rintro ⟨⟨n1, t2, i3⟩, hr1⟩ gh1 g1 K1 Q1 hK1 hQ1
 obtain _ | n1 := n1
 ·exact (LoopN_z hr1).elim
 obtain ⟨v1, h, hv1⟩ := LoopN_e hr1
 cbv
 refine kj ?_
 replace h := br_e h; obtain ⟨hb, h⟩ | ⟨hb, h⟩ := h
 ·refine cdT hb ?_; cbv
  refine kj ?_
  replace h := ck_e h; obtain ⟨c1, h⟩ := h; refine ⟨c1, ?_⟩
  refine kj ?_
  iterate 6 refine cj ?_
  refine ⟨by subst hA; simp +contextual [vcm], ?_⟩
  iterate 3 refine cj ?_
  replace h := br_e h; obtain ⟨hb, h⟩ | ⟨hb, h⟩ := h
  ·refine cdT hb ?_; cbv
   refine kj ?_
   replace h := rt_e h; obtain ⟨_, h, rfl⟩ := h
   cases hv1; refine hQ1 _ _ ?_; cbv
   cases h; subst hR; exact ey
  ·refine cdF hb ?_; cbv
   refine kj ?_
   cases h
   exact hK1 _ ⟨(n1, _), hv1⟩ [] (Nat.lt_succ_self _) hdy
 ·refine cdF hb ?_; cbv
  replace h := rt_e h; obtain ⟨_, h, rfl⟩ := h
  cases hv1; refine hQ1 _ _ ?_; cbv
  refine kj ?_
  iterate 3 refine cj ?_
  cases h; subst hR; exact ey
theorem slices_EqualFunc_Matcher_Matcher_Matcher_Matcher_ok {A : Ar} (hA : A = std) {x0 : List Matcher} {x1 : List Matcher} {q2 : Matcher → Matcher → Option Bool} {g2 : Nat} {cap2 : List PV} (hcap2 : bare.bares cap2 = true) (hq2 : ∀ (y0 : Matcher) (y1 : Matcher) (r : Bool), q2 y0 y1 = some r → PFun cx g2 ((matcherPV y0) :: (matcherPV y1) :: cap2) (bl r)) {r : Bool} (h : slices_EqualFunc_Matcher_Matcher_Matcher_Matcher A x0 x1 q2 = some r) : PFun cx 87 [.d (.sl TyS.matcher x0), .d (.sl TyS.matcher x1), .fn (.func g2) [] cap2] ((fun r : Bool => (bl r : PV)) r) := by
 refine PFun.walkF (fz := fun _ => false) hA cx_ok Tryz.func87 rfl rfl rfl fun P R hP hR => ?_
 cbv
 unfold slices_EqualFunc_Matcher_Matcher_Matcher_Matcher at h
 iterate 2 refine kj ?_
 replace h := br_e h; obtain ⟨hb, h⟩ | ⟨hb, h⟩ := h
 ·refine cdT hb ?_; cbv
  refine kj ?_
  cases h; subst hR; exact ey
 ·refine cdF hb ?_; cbv
  refine kj ?_
  replace h := Loop_e h; obtain ⟨n1, hl1⟩ := h
  refine LoopK.q (X := Runs (slices_EqualFunc_Matcher_Matcher_Matcher_Matcher_B1 A x0 x1 q2) _) (fun x gh => [(17, it IntKind.i64 x.1.2)]) (fun x gh => []) (fun x => x.1.1) ⟨(n1, _), hl1⟩ [] hdz ?_
  rintro ⟨⟨n1, t17⟩, hr1⟩ gh1 g1 K1 Q1 hK1 hQ1
  obtain _ | n1 := n1
  ·exact (LoopN_z hr1).elim
  obtain ⟨v1, h, hv1⟩ := LoopN_e hr1
  cbv
  refine kj ?_
  replace h := br_e h; obtain ⟨hb, h⟩ | ⟨hb, h⟩ := h
  ·refine cdT hb ?_; cbv
   refine kj ?_
   replace h := ck_e h; obtain ⟨c1, h⟩ := h; refine ⟨c1, ?_⟩
   refine kj ?_
   replace h := ck_e h; obtain ⟨c2, h⟩ := h; refine ⟨c2, ?_⟩
   refine kj ?_
   replace h := bd_e h; obtain ⟨w3, hw3, h⟩ := h
   refine CallK.mk _ (by first | rfl | simp [bare, bare.bares, hcap2]) (fun _ => PFun.to hP (hq2 _ _ _ hw3)) ?_
   cbv
   replace h := br_e h; obtain ⟨hb, h⟩ | ⟨hb, h⟩ := h
   ·refine cdT hb ?_; cbv
    refine kj ?_
    replace h := rt_e h; obtain ⟨_, h, rfl⟩ := h
    cases hv1; refine hQ1 _ _ ?_; cbv
    cases h; subst hR; exact ey
   ·refine cdF hb ?_; cbv
    refine kj ?_
    cases h
    exact hK1 _ ⟨(n1, _), hv1⟩ [] (Nat.lt_succ_self _) hdy
  ·refine cdF hb ?_; cbv
   replace h := rt_e h; obtain ⟨_, h, rfl⟩ := h
   cases hv1; refine hQ1 _ _ ?_; cbv
   refine kj ?_
   cases h; subst hR; exact ey
theorem slices_Equal_string_string_ok {A : Ar} (hA : A = std) {x0 : List ByteArray} {x1 : List ByteArray} {r : Bool} (h : slices_Equal_string_string A x0 x1 = some r) : PFun cx 89 [.d (.sl TyS.str x0), .d (.sl TyS.str x1)] ((fun r : Bool => (bl r : PV)) r) := by
 refine PFun.walkF (fz := fun _ => false) hA cx_ok Tryz.func89 rfl rfl rfl fun P R hP hR => ?_
 cbv
 unfold slices_Equal_string_string at h
 iterate 2 refine kj ?_
 replace h := br_e h; obtain ⟨hb, h⟩ | ⟨hb, h⟩ := h
 ·refine cdT hb ?_; cbv
  refine kj ?_
  cases h; subst hR; exact ey
 ·refine cdF hb ?_; cbv
  refine kj ?_
  replace h := Loop_e h; obtain ⟨n1, hl1⟩ := h
  refine LoopK.q (X := Runs (slices_Equal_string_string_B1 A x0 x1) _) (fun x gh => [(13, it IntKind.i64 x.1.2)]) (fun x gh => []) (fun x => x.1.1) ⟨(n1, _), hl1⟩ [] hdz ?_
  rintro ⟨⟨n1, t13⟩, hr1⟩ gh1 g1 K1 Q1 hK1 hQ1
  obtain _ | n1 := n1
  ·exact (LoopN_z hr1).elim
  obtain ⟨v1, h, hv1⟩ := LoopN_e hr1
  cbv
  refine kj ?_
  replace h := br_e h; obtain ⟨hb, h⟩ | ⟨hb, h⟩ := h
  ·refine cdT hb ?_; cbv
   iterate 2 refine kj ?_
   replace h := ck_e h; obtain ⟨c1, h⟩ := h; refine ⟨c1, ?_⟩
   replace h := ck_e h; obtain ⟨c2, h⟩ := h; refine ⟨c2, ?_⟩
   refine kj ?_
   replace h := br_e h; obtain ⟨hb, h⟩ | ⟨hb, h⟩ := h
   ·refine cdT hb ?_; cbv
    refine kj ?_
    replace h := rt_e h; obtain ⟨_, h, rfl⟩ := h
    cases hv1; refine hQ1 _ _ ?_; cbv
    cases h; subst hR; exact ey
   ·refine cdF hb ?_; cbv
    refine kj ?_
    cases h
    exact hK1 _ ⟨(n1, _), hv1⟩ [] (Nat.lt_succ_self _) hdy
  ·refine cdF hb ?_; cbv
   replace h := rt_e h; obtain ⟨_, h, rfl⟩ := h
   cases hv1; refine hQ1 _ _ ?_; cbv
   refine kj ?_
   cases h; subst hR; exact ey
theorem matcher_Like_ok {A : Ar} (hA : A = std) {x0 : Matcher} {x1 : Matcher} {r : Bool} (h : matcher_Like A x0 x1 = some r) : PFun cx 88 [matcherPV x0, matcherPV x1] ((fun r : Bool => (bl r : PV)) r) := by
 refine PFun.walkF (fz := fun _ => false) hA cx_ok Tryz.func88 rfl rfl rfl fun P R hP hR => ?_
 cbv
 unfold matcher_Like at h
 iterate 2 refine kj ?_
 iterate 13 refine cj ?_
 replace h := bd_e h; obtain ⟨w1, hw1, h⟩ := h
 refine CallK.mk _ (by rfl) (fun hc => PFun.to hP (slices_Equal_string_string_ok hA (gd_e hw1 hc))) ?_
 cbv
 refine cj ?_
 cases h; subst hR; exact ey
theorem config_Same_1_ok {A : Ar} (hA : A = std) {x0 : Inhibit} {x1 : Inhibit} {r : Bool} (h : config_Same_1 A x0 x1 = some r) : PFun cx 86 [inhibitPV x0, inhibitPV x1] ((fun r : Bool => (bl r : PV)) r) := by
 refine PFun.walkF (fz := fun _ => false) hA cx_ok Tryz.func86 rfl rfl rfl fun P R hP hR => ?_
 cbv
 unfold config_Same_1 at h
 iterate 2 refine kj ?_
 replace h := bd_e h; obtain ⟨w1, hw1, h⟩ := h
 refine CallK.le _ _ (by rfl) (fun _ => ey) (fun _ => PFun.to hP (slices_EqualFunc_Matcher_Matcher_Matcher_Matcher_ok hA (by rfl) (fun _ _ _ hw => matcher_Like_ok hA hw) hw1)) ?_
 cbv
 iterate 6 refine cj ?_
 replace h := bd_e h; obtain ⟨w2, hw2, h⟩ := h
 refine CallK.le _ _ (by rfl) (fun _ => ey) (fun hc => PFun.to hP (slices_EqualFunc_Matcher_Matcher_Matcher_Matcher_ok hA (by rfl) (fun _ _ _ hw => matcher_Like_ok hA hw) (gd_e hw2 hc))) ?_
 cbv
 iterate 7 refine cj ?_
 replace h := bd_e h; obtain ⟨w3, hw3, h⟩ := h
 refine CallK.mk _ (by rfl) (fun hc => PFun.to hP (slices_Equal_string_string_ok hA (gd_e hw3 hc))) ?_
 cbv
 refine cj ?_
 cases h; subst hR; exact ey
theorem slices_EqualFunc_Rule_Rule_Rule_Rule_ok {A : Ar} (hA : A = std) {x0 : List Rule} {x1 : List Rule} {q2 : Rule → Rule → Option Bool} {g2 : Nat} {cap2 : List PV} (hcap2 : bare.bares cap2 = true) (hq2 : ∀ (y0 : Rule) (y1 : Rule) (r : Bool), q2 y0 y1 = some r → PFun cx g2 ((rulePV y0) :: (rulePV y1) :: cap2) (bl r)) {r : Bool} (h : slices_EqualFunc_Rule_Rule_Rule_Rule A x0 x1 q2 = some r) : PFun cx 90 [.d (.sl TyS.rule x0), .d (.sl TyS.rule x1), .fn (.func g2) [] cap2] ((fun r : Bool => (bl r : PV)) r) := by
 refine PFun.walkF (fz := fun _ => false) hA cx_ok Tryz.func90 rfl rfl rfl fun P R hP hR => ?_
 cbv
 unfold slices_EqualFunc_Rule_Rule_Rule_Rule at h
 iterate 2 refine kj ?_
 replace h := br_e h; obtain ⟨hb, h⟩ | ⟨hb, h⟩ := h
 ·refine cdT hb ?_; cbv
  refine kj ?_
  cases h; subst hR; exact ey
 ·refine cdF hb ?_; cbv
  refine kj ?_
  replace h := Loop_e h; obtain ⟨n1, hl1⟩ := h
  refine LoopK.q (X := Runs (slices_EqualFunc_Rule_Rule_Rule_Rule_B1 A x0 x1 q2) _) (fun x gh => [(17, it IntKind.i64 x.1.2)]) (fun x gh => []) (fun x => x.1.1) ⟨(n1, _), hl1⟩ [] hdz ?_
  rintro ⟨⟨n1, t17⟩, hr1⟩ gh1 g1 K1 Q1 hK1 hQ1
  obtain _ | n1 := n1
  ·exact (LoopN_z hr1).elim
  obtain ⟨v1, h, hv1⟩ := LoopN_e hr1
  cbv
  refine kj ?_
  replace h := br_e h; obtain ⟨hb, h⟩ | ⟨hb, h⟩ := h
  ·refine cdT hb ?_; cbv
   refine kj ?_
   replace h := ck_e h; obtain ⟨c1, h⟩ := h; refine ⟨c1, ?_⟩
   refine kj ?_
   replace h := ck_e h; obtain ⟨c2, h⟩ := h; refine ⟨c2, ?_⟩
   refine kj ?_
   replace h := bd_e h; obtain ⟨w3, hw3, h⟩ := h
   refine CallK.mk _ (by first | rfl | simp [bare, bare.bares, hcap2]) (fun _ => PFun.to hP (hq2 _ _ _ hw3)) ?_
   cbv
   replace h := br_e h; obtain ⟨hb, h⟩ | ⟨hb, h⟩ := h
   ·refine cdT hb ?_; cbv
    refine kj ?_
    replace h := rt_e h; obtain ⟨_, h, rfl⟩ := h
    cases hv1; refine hQ1 _ _ ?_; cbv
    cases h; subst hR; exact ey
   ·refine cdF hb ?_; cbv
    refine kj ?_
    cases h
    exact hK1 _ ⟨(n1, _), hv1⟩ [] (Nat.lt_succ_self _) hdy
  ·refine cdF hb ?_; cbv
   replace h := rt_e h; obtain ⟨_, h, rfl⟩ := h
   cases hv1; refine hQ1 _ _ ?_; cbv
   refine kj ?_
   cases h; subst hR; exact ey
theorem slices_Equal_Label_Label_ok {A : Ar} (hA : A = std) {x0 : List Label} {x1 : List Label} {r : Bool} (h : slices_Equal_Label_Label A x0 x1 = some r) : PFun cx 176 [.d (.sl TyS.label x0), .d (.sl TyS.label x1)] ((fun r : Bool => (bl r : PV)) r) := by
 refine PFun.walkF (fz := fun _ => false) hA cx_ok Tryz.func176 rfl rfl rfl fun P R hP hR => ?_
 cbv
 unfold slices_Equal_Label_Label at h
 iterate 2 refine kj ?_
 replace h := br_e h; obtain ⟨hb, h⟩ | ⟨hb, h⟩ := h
 ·refine cdT hb ?_; cbv
  refine kj ?_
  cases h; subst hR; exact ey
 ·refine cdF hb ?_; cbv
  refine kj ?_
  replace h := Loop_e h; obtain ⟨n1, hl1⟩ := h
  refine LoopK.q (X := Runs (slices_Equal_Label_Label_B1 A x0 x1) _) (fun x gh => [(13, it IntKind.i64 x.1.2)]) (fun x gh => []) (fun x => x.1.1) ⟨(n1, _), hl1⟩ [] hdz ?_
  rintro ⟨⟨n1, t13⟩, hr1⟩ gh1 g1 K1 Q1 hK1 hQ1
  obtain _ | n1 := n1
  ·exact (LoopN_z hr1).elim
  obtain ⟨v1, h, hv1⟩ := LoopN_e hr1
  cbv
  refine kj ?_
  replace h := br_e h; obtain ⟨hb, h⟩ | ⟨hb, h⟩ := h
  ·refine cdT hb ?_; cbv
   iterate 2 refine kj ?_
   replace h := ck_e h; obtain ⟨c1, h⟩ := h; refine ⟨c1, ?_⟩
   replace h := ck_e h; obtain ⟨c2, h⟩ := h; refine ⟨c2, ?_⟩
   refine kj ?_
   replace h := br_e h; obtain ⟨hb, h⟩ | ⟨hb, h⟩ := h
   ·refine cdT hb ?_; cbv
    refine kj ?_
    replace h := rt_e h; obtain ⟨_, h, rfl⟩ := h
    cases hv1; refine hQ1 _ _ ?_; cbv
    cases h; subst hR; exact ey
   ·refine cdF hb ?_; cbv
    refine kj ?_
    cases h
    exact hK1 _ ⟨(n1, _), hv1⟩ [] (Nat.lt_succ_self _) hdy
  ·refine cdF hb ?_; cbv
   replace h := rt_e h; obtain ⟨_, h, rfl⟩ := h
   cases hv1; refine hQ1 _ _ ?_; cbv
   refine kj ?_
   cases h; subst hR; exact ey
theorem rules_Like_ok {A : Ar} (hA : A = std) {x0 : Rule} {x1 : Rule} {r : Bool} (h : rules_Like A x0 x1 = some r) : PFun cx 91 [rulePV x0, rulePV x1] ((fun r : Bool => (bl r : PV)) r) := by
 refine PFun.walkF (fz := fun _ => false) hA cx_ok Tryz.func91 rfl rfl rfl fun P R hP hR => ?_
 cbv
 unfold rules_Like at h
 iterate 2 refine kj ?_
 replace h := bd_e h; obtain ⟨w1, hw1, h⟩ := h
 refine CallK.mk _ (by rfl) (fun _ => PFun.to hP (slices_Equal_Label_Label_ok hA hw1)) ?_
 cbv
 refine kj ?_
 iterate 49 refine cj ?_
 cases h; subst hR; exact ey
theorem slices_Equal_Hours_Hours_ok {A : Ar} (hA : A = std) {x0 : List Hours} {x1 : List Hours} {r : Bool} (h : slices_Equal_Hours_Hours A x0 x1 = some r) : PFun cx 92 [.d (.sl TyS.hours x0), .d (.sl TyS.hours x1)] ((fun r : Bool => (bl r : PV)) r) := by
 refine PFun.walkF (fz := fun _ => false) hA cx_ok Tryz.func92 rfl rfl rfl fun P R hP hR => ?_
 cbv
 unfold slices_Equal_Hours_Hours at h
 iterate 2 refine kj ?_
 replace h := br_e h; obtain ⟨hb, h⟩ | ⟨hb, h⟩ := h
 ·refine cdT hb ?_; cbv
  refine kj ?_
  cases h; subst hR; exact ey
 ·refine cdF hb ?_; cbv
  refine kj ?_
  replace h := Loop_e h; obtain ⟨n1, hl1⟩ := h
  refine LoopK.q (X := Runs (slices_Equal_Hours_Hours_B1 A x0 x1) _) (fun x gh => [(13, it IntKind.i64 x.1.2)]) (fun x gh => []) (fun x => x.1.1) ⟨(n1, _), hl1⟩ [] hdz ?_
  rintro ⟨⟨n1, t13⟩, hr1⟩ gh1 g1 K1 Q1 hK1 hQ1
  obtain _ | n1 := n1
  ·exact (LoopN_z hr1).elim
  obtain ⟨v1, h, hv1⟩ := LoopN_e hr1
  cbv
  refine kj ?_
  replace h := br_e h; obtain ⟨hb, h⟩ | ⟨hb, h⟩ := h
  ·refine cdT hb ?_; cbv
   iterate 2 refine kj ?_
   replace h := ck_e h; obtain ⟨c1, h⟩ := h; refine ⟨c1, ?_⟩
   replace h := ck_e h; obtain ⟨c2, h⟩ := h; refine ⟨c2, ?_⟩
   refine kj ?_
   replace h := br_e h; obtain ⟨hb, h⟩ | ⟨hb, h⟩ := h
   ·refine cdT hb ?_; cbv
    refine kj ?_
    replace h := rt_e h; obtain ⟨_, h, rfl⟩ := h
    cases hv1; refine hQ1 _ _ ?_; cbv
    cases h; subst hR; exact ey
   ·refine cdF hb ?_; cbv
    refine kj ?_
    cases h
    exact hK1 _ ⟨(n1, _), hv1⟩ [] (Nat.lt_succ_self _) hdy
  ·refine cdF hb ?_; cbv
   replace h := rt_e h; obtain ⟨_, h, rfl⟩ := h
   cases hv1; refine hQ1 _ _ ?_; cbv
   refine kj ?_
   cases h; subst hR; exact ey
theorem slices_EqualFunc_Inhibit_Inhibit_Inhibit_Inhibit_ok {A : Ar} (hA : A = std) {x0 : List Inhibit} {x1 : List Inhibit} {q2 : Inhibit → Inhibit → Option Bool} {g2 : Nat} {cap2 : List PV} (hcap2 : bare.bares cap2 = true) (hq2 : ∀ (y0 : Inhibit) (y1 : Inhibit) (r : Bool), q2 y0 y1 = some r → PFun cx g2 ((inhibitPV y0) :: (inhibitPV y1) :: cap2) (bl r)) {r : Bool} (h : slices_EqualFunc_Inhibit_Inhibit_Inhibit_Inhibit A x0 x1 q2 = some r) : PFun cx 93 [.d (.sl TyS.inhibit x0), .d (.sl TyS.inhibit x1), .fn (.func g2) [] cap2] ((fun r : Bool => (bl r : PV)) r) := by
 refine PFun.walkF (fz := fun _ => false) hA cx_ok Tryz.func93 rfl rfl rfl fun P R hP hR => ?_
 cbv
 unfold slices_EqualFunc_Inhibit_Inhibit_Inhibit_Inhibit at h
 iterate 2 refine kj ?_
 replace h := br_e h; obtain ⟨hb, h⟩ | ⟨hb, h⟩ := h
 ·refine cdT hb ?_; cbv
  refine kj ?_
  cases h; subst hR; exact ey
 ·refine cdF hb ?_; cbv
  refine kj ?_
  replace h := Loop_e h; obtain ⟨n1, hl1⟩ := h
  refine LoopK.q (X := Runs (slices_EqualFunc_Inhibit_Inhibit_Inhibit_Inhibit_B1 A x0 x1 q2) _) (fun x gh => [(17, it IntKind.i64 x.1.2)]) (fun x gh => []) (fun x => x.1.1) ⟨(n1, _), hl1⟩ [] hdz ?_
  rintro ⟨⟨n1, t17⟩, hr1⟩ gh1 g1 K1 Q1 hK1 hQ1
  obtain _ | n1 := n1
  ·exact (LoopN_z hr1).elim
  obtain ⟨v1, h, hv1⟩ := LoopN_e hr1
  cbv
  refine kj ?_
  replace h := br_e h; obtain ⟨hb, h⟩ | ⟨hb, h⟩ := h
  ·refine cdT hb ?_; cbv
   refine kj ?_
   replace h := ck_e h; obtain ⟨c1, h⟩ := h; refine ⟨c1, ?_⟩
   refine kj ?_
   replace h := ck_e h; obtain ⟨c2, h⟩ := h; refine ⟨c2, ?_⟩
   refine kj ?_
   replace h := bd_e h; obtain ⟨w3, hw3, h⟩ := h
   refine CallK.mk _ (by first | rfl | simp [bare, bare.bares, hcap2]) (fun _ => PFun.to hP (hq2 _ _ _ hw3)) ?_
   cbv
   replace h := br_e h; obtain ⟨hb, h⟩ | ⟨hb, h⟩ := h
   ·refine cdT hb ?_; cbv
    refine kj ?_
    replace h := rt_e h; obtain ⟨_, h, rfl⟩ := h
    cases hv1; refine hQ1 _ _ ?_; cbv
    cases h; subst hR; exact ey
   ·refine cdF hb ?_; cbv
    refine kj ?_
    cases h
    exact hK1 _ ⟨(n1, _), hv1⟩ [] (Nat.lt_succ_self _) hdy
  ·refine cdF hb ?_; cbv
   replace h := rt_e h; obtain ⟨_, h, rfl⟩ := h
   cases hv1; refine hQ1 _ _ ?_; cbv
   refine kj ?_
   cases h; subst hR; exact ey
theorem slices_EqualFunc_Route_Route_Route_Route_ok {A : Ar} (hA : A = std) {x0 : List Route} {x1 : List Route} {q2 : Route → Route → Option Bool} {g2 : Nat} {cap2 : List PV} (hcap2 : bare.bares cap2 = true) (hq2 : ∀ (y0 : Route) (y1 : Route) (r : Bool), q2 y0 y1 = some r → PFun cx g2 ((routePV y0) :: (routePV y1) :: cap2) (bl r)) {r : Bool} (h : slices_EqualFunc_Route_Route_Route_Route A x0 x1 q2 = some r) : PFun cx 177 [.d (.sl TyS.route x0), .d (.sl TyS.route x1), .fn (.func g2) [] cap2] ((fun r : Bool => (bl r : PV)) r) := by
 refine PFun.walkF (fz := fun _ => false) hA cx_ok Tryz.func177 rfl rfl rfl fun P R hP hR => ?_
 cbv
 unfold slices_EqualFunc_Route_Route_Route_Route at h
 iterate 2 refine kj ?_
 replace h := br_e h; obtain ⟨hb, h⟩ | ⟨hb, h⟩ := h
 ·refine cdT hb ?_; cbv
  refine kj ?_
  cases h; subst hR; exact ey
 ·refine cdF hb ?_; cbv
  refine kj ?_
  replace h := Loop_e h; obtain ⟨n1, hl1⟩ := h
  refine LoopK.q (X := Runs (slices_EqualFunc_Route_Route_Route_Route_B1 A x0 x1 q2) _) (fun x gh => [(17, it IntKind.i64 x.1.2)]) (fun x gh => []) (fun x => x.1.1) ⟨(n1, _), hl1⟩ [] hdz ?_
  rintro ⟨⟨n1, t17⟩, hr1⟩ gh1 g1 K1 Q1 hK1 hQ1
  obtain _ | n1 := n1
  ·exact (LoopN_z hr1).elim
  obtain ⟨v1, h, hv1⟩ := LoopN_e hr1
  cbv
  refine kj ?_
  replace h := br_e h; obtain ⟨hb, h⟩ | ⟨hb, h⟩ := h
  ·refine cdT hb ?_; cbv
   refine kj ?_
   replace h := ck_e h; obtain ⟨c1, h⟩ := h; refine ⟨c1, ?_⟩
   refine kj ?_
   replace h := ck_e h; obtain ⟨c2, h⟩ := h; refine ⟨c2, ?_⟩
   refine kj ?_
   replace h := bd_e h; obtain ⟨w3, hw3, h⟩ := h
   refine CallK.mk _ (by first | rfl | simp [bare, bare.bares, hcap2]) (fun _ => PFun.to hP (hq2 _ _ _ hw3)) ?_
   cbv
   replace h := br_e h; obtain ⟨hb, h⟩ | ⟨hb, h⟩ := h
   ·refine cdT hb ?_; cbv
    refine kj ?_
    replace h := rt_e h; obtain ⟨_, h, rfl⟩ := h
    cases hv1; refine hQ1 _ _ ?_; cbv
    cases h; subst hR; exact ey
   ·refine cdF hb ?_; cbv
    refine kj ?_
    cases h
    exact hK1 _ ⟨(n1, _), hv1⟩ [] (Nat.lt_succ_self _) hdy
  ·refine cdF hb ?_; cbv
   replace h := rt_e h; obtain ⟨_, h, rfl⟩ := h
   cases hv1; refine hQ1 _ _ ?_; cbv
   refine kj ?_
   cases h; subst hR; exact ey
theorem routes_Like_S_ok {A : Ar} (hA : A = std) {rf : Route → Route → Option Bool} {x0 : Route} {x1 : Route} (hqr94 : ∀ (x0 : Route) (x1 : Route) (r : Bool), rf x0 x1 = some r → PFun cx 94 [routePV x0, routePV x1] (bl r)) {r : Bool} (h : routes_Like_S A rf x0 x1 = some r) : PFun cx 94 [routePV x0, routePV x1] ((fun r : Bool => (bl r : PV)) r) := by
 refine PFun.walkF (fz := fun _ => false) hA cx_ok Tryz.func94 rfl rfl rfl fun P R hP hR => ?_
 cbv
 unfold routes_Like_S at h
 iterate 2 refine kj ?_
 iterate 28 refine cj ?_
 refine kj ?_
 iterate 6 refine cj ?_
 replace h := bd_e h; obtain ⟨w1, hw1, h⟩ := h
 refine CallK.le _ _ (by rfl) (fun _ => ey) (fun hc => PFun.to hP (slices_EqualFunc_Matcher_Matcher_Matcher_Matcher_ok hA (by rfl) (fun _ _ _ hw => matcher_Like_ok hA hw) (gd_e hw1 hc))) ?_
 cbv
 iterate 7 refine cj ?_
 replace h := bd_e h; obtain ⟨w2, hw2, h⟩ := h
 refine CallK.mk _ (by rfl) (fun hc => PFun.to hP (slices_Equal_string_string_ok hA (gd_e hw2 hc))) ?_
 cbv
 iterate 7 refine cj ?_
 replace h := bd_e h; obtain ⟨w3, hw3, h⟩ := h
 refine CallK.mk _ (by rfl) (fun hc => PFun.to hP (slices_Equal_string_string_ok hA (gd_e hw3 hc))) ?_
 cbv
 iterate 7 refine cj ?_
 replace h := bd_e h; obtain ⟨w4, hw4, h⟩ := h
 refine CallK.le _ _ (by rfl) (fun _ => ey) (fun hc => PFun.to hP (slices_EqualFunc_Route_Route_Route_Route_ok hA (by rfl) hqr94 (gd_e hw4 hc))) ?_
 cbv
 refine cj ?_
 cases h; subst hR; exact ey
theorem routes_Like_N_ok {A : Ar} (hA : A = std) : ∀ (n : Nat) (x0 : Route) (x1 : Route) (r : Bool), routes_Like_N A n x0 x1 = some r → PFun cx 94 [routePV x0, routePV x1] (bl r)
 | 0, _, _, _, h => by cases h
 | n + 1, x0, x1, r, h => routes_Like_S_ok hA (fun _ _ _ hh => routes_Like_N_ok hA n _ _ _ hh) h
theorem routes_Like_ok {A : Ar} (hA : A = std) {x0 : Route} {x1 : Route} {r : Bool} (h : routes_Like A x0 x1 = some r) : PFun cx 94 [routePV x0, routePV x1] (bl r) := routes_Like_N_ok hA _ _ _ _ h
theorem config_Same_ok {A : Ar} (hA : A = std) {x0 : Config} {x1 : Config} {r : Bool} (h : config_Same A x0 x1 = some r) : PFun cx 20 [configPV x0, configPV x1] ((fun r : Bool => (bl r : PV)) r) := by
 refine PFun.walkF (fz := fun _ => false) hA cx_ok Tryz.func20 rfl rfl rfl fun P R hP hR => ?_
 cbv
 unfold config_Same at h
 iterate 2 refine kj ?_
 replace h := bd_e h; obtain ⟨w1, hw1, h⟩ := h
 refine CallK.mk _ (by rfl) (fun _ => PFun.to hP (config_Normal_ok hA hw1)) ?_
 cbv
 refine kj ?_
 replace h := bd_e h; obtain ⟨w2, hw2, h⟩ := h
 refine CallK.mk _ (by rfl) (fun _ => PFun.to hP (config_Normal_ok hA hw2)) ?_
 cbv
 iterate 2 refine kj ?_
 replace h := bd_e h; obtain ⟨w3, hw3, h⟩ := h
 refine CallK.le _ _ (by rfl) (fun _ => ey) (fun _ => PFun.to hP (slices_EqualFunc_Rule_Rule_Rule_Rule_ok hA (by rfl) (fun _ _ _ hw => rules_Like_ok hA hw) hw3)) ?_
 cbv
 iterate 6 refine cj ?_
 replace h := bd_e h; obtain ⟨w4, hw4, h⟩ := h
 refine CallK.mk _ (by rfl) (fun hc => PFun.to hP (slices_Equal_string_string_ok hA (gd_e hw4 hc))) ?_
 cbv
 iterate 7 refine cj ?_
 replace h := bd_e h; obtain ⟨w5, hw5, h⟩ := h
 refine CallK.mk _ (by rfl) (fun hc => PFun.to hP (slices_Equal_Hours_Hours_ok hA (gd_e hw5 hc))) ?_
 cbv
 refine cj ?_
 refine kj ?_
 iterate 10 refine cj ?_
 replace h := bd_e h; obtain ⟨w6, hw6, h⟩ := h
 refine CallK.le _ _ (by rfl) (fun _ => ey) (fun hc => PFun.to hP (slices_EqualFunc_Inhibit_Inhibit_Inhibit_Inhibit_ok hA (by rfl) (fun _ _ _ hw => config_Same_1_ok hA hw) (gd_e hw6 hc))) ?_
 cbv
 iterate 7 refine cj ?_
 replace h := bd_e h; obtain ⟨w7, hw7, h⟩ := h
 refine CallK.mk _ (by rfl) (fun hc => PFun.to hP (routes_Like_ok hA (gd_e hw7 hc))) ?_
 cbv
 refine cj ?_
 cases h; subst hR; exact ey
theorem transhipmentlaw10_ConfigNeeds_ok {A : Ar} (hA : A = std) {x0 : Config} {x1 : ByteArray} {r : Bool} (h : transhipmentlaw10_ConfigNeeds A x0 x1 = some r) : PFun cx 4 [configPV x0, st x1] ((fun r : Bool => (bl r : PV)) r) := by
 refine PFun.walkF (fz := fun _ => false) hA cx_ok Tryz.func4 rfl rfl rfl fun P R hP hR => ?_
 cbv
 unfold transhipmentlaw10_ConfigNeeds at h
 iterate 2 refine kj ?_
 replace h := ck_e h; obtain ⟨c1, h⟩ := h; refine ⟨c1, ?_⟩
 refine kj ?_
 replace h := bd_e h; obtain ⟨w2, hw2, h⟩ := h
 refine CallK.mk _ (by rfl) (fun _ => PFun.to hP (transhipmentlaw10_big_ok hA hw2)) ?_
 cbv
 iterate 2 refine cj ?_
 replace h := bd_e h; obtain ⟨w3, hw3, h⟩ := h
 refine CallK.mk _ (by rfl) (fun hc => PFun.to hP (config_Right_ok hA (gd_e hw3 hc))) ?_
 cbv
 iterate 2 refine cj ?_
 replace h := br_e h; obtain ⟨hb, h⟩ | ⟨hb, h⟩ := h
 ·refine cdT hb ?_; cbv
  refine kj ?_
  replace h := bd_e h; obtain ⟨w4, hw4, h⟩ := h
  refine CallK.mk _ (by rfl) (fun _ => PFun.to hP (transhipmentlaw10_alive_ok hA hw4)) ?_
  cbv
  cases h; subst hR; exact ey
 ·refine cdF hb ?_; cbv
  iterate 3 refine kj ?_
  replace h := ck_e h; obtain ⟨c5, h⟩ := h; refine ⟨c5, ?_⟩
  replace h := ck_e h; obtain ⟨c6, h⟩ := h; refine ⟨c6, ?_⟩
  iterate 2 refine kj ?_
  replace h := Loop_e h; obtain ⟨n1, hl1⟩ := h
  refine LoopK.q (X := Runs (transhipmentlaw10_ConfigNeeds_B1 A x0 x1) _) (fun x gh => [(7, bl x.1.2.1), (40, it IntKind.i64 x.1.2.2.1)]) (fun x gh => [⟨4032, gh, .tok 9 TyS.str (A.nlen TyS.str x.1.2.2.2)⟩, ⟨6, 3, .box 31 [PV.d (D.sl TyS.rule x0.1), PV.d (D.v (Value.string x0.2.1)), PV.d (D.sl TyS.matcher x0.2.2), PV.d (D.sl TyS.str x0.2.3), PV.d (D.v (Value.int IntKind.i64 x0.2.4)), PV.d (D.v (Value.int IntKind.i64 x0.2.5)), PV.d (D.v (Value.int IntKind.i64 x0.2.6)), PV.d (D.sl TyS.str x0.2.7), PV.d (D.v (Value.bool x0.2.8)), PV.d (D.sl TyS.route x0.2.9), PV.os 34 4 TyS.str (A.app TyS.str (A.app TyS.str [] x0.3) [A.ssub x1 0 (A.mn (A.slen x1) 70)]), PV.d (D.sl TyS.inhibit x0.4), PV.d (D.sl TyS.hours x0.5)]⟩, ⟨5, 3, .box 31 [PV.d (D.sl TyS.rule x0.1), PV.d (D.v (Value.string x0.2.1)), PV.d (D.sl TyS.matcher x0.2.2), PV.d (D.sl TyS.str x0.2.3), PV.d (D.v (Value.int IntKind.i64 x0.2.4)), PV.d (D.v (Value.int IntKind.i64 x0.2.5)), PV.d (D.v (Value.int IntKind.i64 x0.2.6)), PV.d (D.sl TyS.str x0.2.7), PV.d (D.v (Value.bool x0.2.8)), PV.d (D.sl TyS.route x0.2.9), .os 4032 gh TyS.str x.1.2.2.2, PV.d (D.sl TyS.inhibit x0.4), PV.d (D.sl TyS.hours x0.5)]⟩, ⟨2, 0, .box 31 [PV.d (D.sl TyS.rule x0.1), PV.d (D.v (Value.string x0.2.1)), PV.d (D.sl TyS.matcher x0.2.2), PV.d (D.sl TyS.str x0.2.3), PV.d (D.v (Value.int IntKind.i64 x0.2.4)), PV.d (D.v (Value.int IntKind.i64 x0.2.5)), PV.d (D.v (Value.int IntKind.i64 x0.2.6)), PV.d (D.sl TyS.str x0.2.7), PV.d (D.v (Value.bool x0.2.8)), PV.d (D.sl TyS.route x0.2.9), PV.d (D.sl TyS.str x0.3), PV.d (D.sl TyS.inhibit x0.4), PV.d (D.sl TyS.hours x0.5)]⟩, ⟨34, 4, Cell.tok 9 TyS.str (A.nlen TyS.str (A.app TyS.str (A.app TyS.str [] x0.3) [A.ssub x1 0 (A.mn (A.slen x1) 70)]))⟩, ⟨33, 4, Cell.tok 9 TyS.str (A.nlen TyS.str [A.ssub x1 0 (A.mn (A.slen x1) 70)])⟩]) (fun x => x.1.1) ⟨(n1, _), hl1⟩ [] hdz ?_
  rintro ⟨⟨n1, t7, t40, b10_5⟩, hr1⟩ gh1 g1 K1 Q1 hK1 hQ1
  obtain _ | n1 := n1
  ·exact (LoopN_z hr1).elim
  obtain ⟨v1, h, hv1⟩ := LoopN_e hr1
  cbv
  refine kj ?_
  replace h := br_e h; obtain ⟨hb, h⟩ | ⟨hb, h⟩ := h
  ·refine cdT hb ?_; cbv
   refine kj ?_
   replace h := ck_e h; obtain ⟨c7, h⟩ := h; refine ⟨c7, ?_⟩
   refine kj ?_
   iterate 3 refine cj ?_
   refine kj ?_
   replace h := br_e h; obtain ⟨hb, h⟩ | ⟨hb, h⟩ := h
   ·refine cdT hb ?_; cbv
    refine kj ?_
    replace h := ck_e h; obtain ⟨c8, h⟩ := h; refine ⟨c8, ?_⟩
    refine kj ?_
    cases h
    exact hK1 _ ⟨(n1, _), hv1⟩ [(4032, 59, g1.succ.succ.succ.succ)] (Nat.lt_succ_self _) hdy
   ·refine cdF hb ?_; cbv
    refine kj ?_
    cases h
    exact hK1 _ ⟨(n1, _), hv1⟩ [(4032, 4032, gh1)] (Nat.lt_succ_self _) hdy
  ·refine cdF hb ?_; cbv
   replace h := rt_e h; obtain ⟨_, h, rfl⟩ := h
   cases hv1; refine hQ1 _ _ ?_; cbv
   iterate 4 refine kj ?_
   replace h := bd_e h; obtain ⟨w9, hw9, h⟩ := h
   refine CallK.mk _ (by rfl) (fun _ => PFun.to hP (transhipmentref06_Word_ok hA hw9)) ?_
   cbv
   iterate 7 refine cj ?_
   refine kj ?_
   replace h := bd_e h; obtain ⟨w10, hw10, h⟩ := h
   refine CallK.mk _ (by rfl) (fun _ => PFun.to hP (transhipmentlaw10_alive_ok hA hw10)) ?_
   cbv
   iterate 2 refine cj ?_
   replace h := bd_e h; obtain ⟨w11, hw11, h⟩ := h
   refine CallK.le _ _ (by rfl) (fun _ => ey) (fun hc => PFun.to hP (config_Right_ok hA (gd_e hw11 hc))) ?_
   cbv
   iterate 4 refine cj ?_
   replace h := bd_e h; obtain ⟨w12, hw12, h⟩ := h
   refine CallK.le _ _ (by rfl) (fun _ => ey) (fun hc => PFun.to hP (config_Right_ok hA (gd_e hw12 hc))) ?_
   cbv
   iterate 8 refine cj ?_
   replace h := bd_e h; obtain ⟨w13, hw13, h⟩ := h
   refine CallK.le _ _ (by rfl) (fun _ => ey) (fun hc => PFun.to hP (config_Same_ok hA (gd_e hw13 hc))) ?_
   cbv
   refine cj ?_
   refine ⟨by subst hA; simp +contextual [vcm], ?_⟩
   iterate 6 refine cj ?_
   replace h := bd_e h; obtain ⟨w14, hw14, h⟩ := h
   refine CallK.le _ _ (by rfl) (fun _ => ey) (fun hc => PFun.to hP (config_Right_ok hA (gd_e hw14 hc))) ?_
   cbv
   iterate 2 refine cj ?_
   refine ⟨by subst hA; simp +contextual [vcm], ?_⟩
   refine cj ?_
   cases h; subst hR; exact ey
end Go.PL
